/-
  The store's entries in memory: a map from keys to kinds and values. DERIVED: THE SHELF's CONTRACTS AT THIS DUMP, IN PLAIN WORDS (tools/lay-plain.mjs out of 'TryzShelf.lean', which tools/lay-shelf.mjs wrote): THE SAME DECLARATIONS UNDER THE SAME NAMES: 'import', 'namespace', 'open', 'def', 'theorem' AND NOTHING ELSE: no command of the shelf's: FOR A HAND-IN. Each laying: the table of numbers ('.._ren') and one theorem, a field a fact of the dump's own or the kernel's comparison; each contract: ONE APPLICATION. The file system: Sync, SyncDir, Read, New, walked. The file system: New, Sync, SyncDir, Read, walked. The file system: SyncDir, Read, walked. The file system: a directory's changes, walked.
-/
import Derived.Test.YtjldahcckmmenaaGreatDoorZd2
import Derived.Maps.RangeWalk
import Derived.DeepKeys4
import Derived.Shelf.Small.Bits
import Derived.Shelf.Small.Wraps
import Derived.Shelf.Strconv.Atoi
import Derived.Shelf.Strconv.Itoa0
import Derived.Shelf.Strconv.Itoa1
import Derived.Shelf.LaysM
import Derived.Shelf.Strconv.Itoa2
import Derived.Shelf.Strconv.Itoa3
import Derived.Shelf.Strconv.AtoiErrFast
import Derived.Shelf.Strconv.ParseIntEmpty
import Derived.Shelf.Strconv.AtoiFail
import Derived.Shelf.Strconv.Clone
import Derived.Shelf.Strconv.SyntaxError
import Derived.Shelf.LaysC
import Derived.Shelf.Strconv.ToError
import Derived.Shelf.Strconv.Lower
import Derived.Shelf.Strconv.ParseUint10
import Derived.Shelf.Strconv.ParseUint10Empty
import Derived.Shelf.Strconv.ParseUint10Any
import Derived.Shelf.Strconv.ParseInt10
import Derived.Shelf.Strconv.AtoiLong
import Derived.Shelf.Strconv.AtoiInnerAll
import Derived.Shelf.Strconv.RangeError
import Derived.Shelf.Strconv.ToErrorRange
import Derived.Shelf.Strconv.AtoiAll
import Derived.Shelf.Strconv.ErrVarAll
import Derived.Shelf.Strings.Search1
import Derived.Shelf.Strings.Search2
import Derived.Shelf.Strings.Search3
import Derived.Shelf.Strings.Count
import Derived.Shelf.Strings.Shaped
import Derived.Shelf.Strings.Prefix
import Derived.Shelf.Strings.Split
import Derived.Shelf.Strings.SplitShaped
import Derived.Shelf.Unicode.Decode
import Derived.Shelf.Strings.RuneCount
import Derived.Shelf.Strings.Explode
import Derived.Shelf.Unicode.DecodeSlow
import Derived.Shelf.Unicode.DecodeAny
import Derived.Shelf.Slices.Turned
import Derived.Ground.Names2Prog
import Derived.Shelf.Slices.Clone
import Derived.Ground.SlgnProg
import Derived.Shelf.SlicesE.Clone
import Derived.Ground.SlgmProg
import Derived.Shelf.SortM.Plain
import Derived.Shelf.SortM.SortNone
import Derived.Test.YtjldahcckmmenaaGreatDoorProg
import Derived.Test.YtjldahcckmmenaaGreatDoorZd3
import Derived.Shelf.SlMaps.Clone
import Derived.Maps.OwnOps
open Go.Lib renaming hid → QA
open List renaming mem_of_getElem? → QZ, getElem?_eq_getElem → ZG, map_cons → ZP
open Nat renaming le_trans → QQ
namespace Go.Proofs.YtjldahcckmmenaaGreatDoor
set_option maxRecDepth 100000
set_option maxHeartbeats 4000000
set_option linter.unusedSimpArgs false
set_option linter.unusedVariables false
open Go Go.RowKit
open Go.Maps Go.WideMaps
/-! ### A key -/
def AH (k:List UInt8):List Value:=k.map λc=>Value.int .u8 (c.toNat:Int)
def Ah (k:List UInt8):Value:=.agg (AH k).toArray
theorem mapM_some {α β:Type} {f:α→Option β} {g:α→β}:∀(l:List α),(∀x∈l,f x=some (g x))→l.mapM f=some (l.map g)
 | [],_=>rfl
 | x::l,h=>by
  rw[List.mapM_cons,h x List.mem_cons_self,mapM_some l λy hy=>h y (List.mem_cons_of_mem _ hy)];rfl
theorem Kf:laidOutB Tryz.prog=true:=by kernel_rfl
theorem I4:40<Tryz.prog.types.size:=of_decide_eq_true (by kernel_rfl)
theorem K0:KeyLaw Tryz.prog 40:=deep_law_laid Kf (m:=2) (by omega) I4 (by kernel_rfl) (by rw[Tryz.underlying40])
theorem Av:Keyed Tryz.prog 40:=Keyed.of_law K0
theorem Eb:Tryz.prog.cellsOf 40=32:=by kernel_rfl
theorem Kj:Tryz.prog.cellsOf 5=1:=by kernel_rfl
theorem LG:Tryz.prog.keyType 40=true:=by kernel_rfl
theorem KD:∃m,Tryz.prog.types.size+1=m+2:=⟨Tryz.prog.types.size-1,by have:=I4;omega⟩
theorem LL (c:UInt8):(Lit.int .u8 (c.toNat:Int)).wf=true:=by
 have:=c.toNat_lt;have o:IntKind.u8.min=0:=by decide
 have A:IntKind.u8.max=255:=by decide
 simp[Lit.wf,o,A];omega
theorem EH (m:Nat) (c:UInt8):Tryz.prog.keyLits (m+1) 5 [.int .u8 (c.toNat:Int)]=some [.int .u8 (c.toNat:Int)]:=by
 unfold Program.keyLits;simp only[Tryz.underlying5,LL c,and_self,if_true]
theorem CU (m:Nat) (k:List UInt8) (hk:k.length=32):Tryz.prog.keyLits (m+2) 40 (AH k)=some (k.map λc=>Lit.int .u8 (c.toNat:Int)):=by
 unfold Program.keyLits;simp only[Tryz.underlying40];rw[if_pos (by rw[Eb];simp[AH,hk]),mapM_some (g:=λi=>[Lit.int .u8 ((k.getD i 0).toNat:Int)]) _ (λi hi=>?_)]
 ·rw[Option.map_some]
  congr 1
  have:(List.range 32).map (λi=>[Lit.int .u8 ((k.getD i 0).toNat:Int)])=k.map λc=>[Lit.int .u8 (c.toNat:Int)]:=by
   apply List.ext_getElem
   ·simp[hk]
   ·intro i h1 h2;simp at h1 h2;simp[ZG h2]
  rw[this];clear this hk
  induction k with
  | nil=>rfl
  | cons c r ih=>rw[ZP,List.flatten_cons,ih];rfl
 ·have o:i<k.length:=by have:=List.mem_range.1 hi;omega
  rw[Kj];have:((AH k).drop (i*1)).take 1=[Value.int .u8 ((k.getD i 0).toNat:Int)]:=by
   rw[Nat.mul_one,List.drop_eq_getElem_cons (by simpa [AH] using o),List.take_succ_cons,List.take_zero];simp[AH,ZG o]
  rw[this];exact EH m _
theorem FP (k:List UInt8):keyBytes (k.map λc=>Lit.int .u8 (c.toNat:Int))=k:=by
 unfold keyBytes
 induction k with
 | nil=>rfl
 | cons c r ih =>
  rw[ZP,List.flatMap_cons,ih];have:=c.toNat_lt;have e:Lit.keyBytes (.int .u8 (c.toNat:Int))=[c]:=by
   show bytesBE 1 ((c.toNat:Int) % 2 ^ 8).toNat=[c];have o:((c.toNat:Int) % 2 ^ 8).toNat=c.toNat:=by omega
   rw[o];show [UInt8.ofNat (c.toNat % 256)]=[c];rw[Nat.mod_eq_of_lt (by omega),UInt8.ofNat_toNat]
  rw[e];rfl
theorem B9 {k:List UInt8} (hk:k.length=32):keyOf Tryz.prog 40 (Ah k)=some (.string k):=by
 obtain⟨m,A⟩:=KD;have o:(Ah k).formed Tryz.prog 40=true:=by
  simp[Ah,Value.formed,Tryz.underlying40,Eb,AH,hk]
 unfold keyOf;rw[Tryz.underlying40];simp only[LG,o,Bool.and_self,if_true];rw[A,show (Ah k).cells.toList=AH k by simp[Ah,Value.cells],CU m k hk,Option.map_some,FP]
theorem Cs {v:Value} {k:List UInt8} (hk:k.length=32) (h:keyOf Tryz.prog 40 v=some (.string k)):v=Ah k:=Av.inj h (B9 hk)
theorem B1:∀a b:List UInt8,bytesBefore a b=true↔a<b
 | [],[]=>by simp[bytesBefore]
 | [],_::_=>by simp[bytesBefore]
 | _::_,[]=>by simp[bytesBefore]
 | a::r,b::s=>by
  rw[bytesBefore,List.cons_lt_cons_iff,Bool.or_eq_true,Bool.and_eq_true,B1 r s,decide_eq_true_iff,beq_iff_eq]
/-! ### Entries with their slices -/
namespace Sto
abbrev ME:=List (Op×Value)
def rins (x:Op×Value):ME→ME
 | []=>[x]
 | y::r=>if x.1.1<y.1.1 then x::y::r else y::rins x r
def rdel (l:ME) (k:List UInt8):ME:=l.filter λe=>!(e.1.1==k)
def elemV (o:Op) (v:Value):Value:=.agg #[.int .i64 o.2.1,v]
def ent (p:Op×Value):Lit×DataW Value:=(.string p.1.1,.held (elemV p.1 p.2))
def datum (l:ME):DataW Value:=.map (l.map ent)
theorem rins_ops (x:Op×Value):∀l:ME,(rins x l).map (·.1)=CQ x.1 (l.map (·.1))
 | []=>rfl
 | y::r=>by
  unfold rins;rw[ZP,CQ];split
  ·rfl
  ·rw[ZP,rins_ops x r]
theorem rdel_ops (l:ME) (k:List UInt8):(rdel l k).map (·.1)=Cw (l.map (·.1)) k:=by
 unfold rdel Cw;rw[List.filter_map];rfl
theorem C2 (x:Op×Value):∀l:ME,DataW.insert (ent x) (l.map ent)=(rins x l).map ent
 | []=>rfl
 | y::r=>by
  rw[ZP];unfold DataW.insert rins;by_cases h:x.1.1<y.1.1
  ·rw[if_pos (show (ent x).1.before (ent y).1=true from (B1 _ _).2 h),if_pos h];rfl
  ·rw[if_neg (show ¬(ent x).1.before (ent y).1=true from λe=>h ((B1 _ _).1 e)),if_neg h,ZP,C2 x r]
theorem Be (k:List UInt8) (l:ME):(l.map ent).filter (λp=>!p.1.sameKey (.string k))=(rdel l k).map ent:=by
 unfold rdel;rw[List.filter_map];rfl
theorem datum_del (l:ME) (k:List UInt8):(datum l).del (.string k)=datum (rdel l k):=by
 unfold datum DataW.del;simp only[Be]
theorem datum_put (l:ME) (o:Op) (v:Value):(datum l).put (.string o.1) (.held (elemV o v))=datum (rins (o,v) (rdel l o.1)):=by
 unfold datum DataW.put;simp only[Be];rw[show ((Lit.string o.1,DataW.held (elemV o v)):Lit×DataW Value)=ent (o,v) from rfl,C2]
theorem datum_size (l:ME):Maps.size (datum l)=l.length:=by
 unfold datum;rw[Maps.size_eq,List.length_map]
theorem datum_find (l:ME) (k:List UInt8) (zd:DataW Value):(datum l).atKey (.string k) zd=match l.find? (λp=>p.1.1==k) with|some p=>.held (elemV p.1 p.2)|none=>zd:=by
 unfold datum DataW.atKey;simp only[List.find?_map];have:((λp:Lit×DataW Value=>p.1.sameKey (.string k))∘ent)=λp=>p.1.1==k:=rfl
 rw[this];cases l.find? (λp=>p.1.1==k)<;>rfl
theorem datum_has (l:ME) (k:List UInt8):Maps.has (datum l) (.string k)=l.any λp=>p.1.1==k:=by
 unfold datum;rw[Maps.has_eq,List.any_map];rfl
def elemR (v:Value):Option (DataW Value×List MemPlace):=match v with
 | .agg cs=>match cs.toList with
  | [.int .i64 _,.slice _ _ _]=>some (.held v,[])
  | _=>none
 | _=>none
theorem elemR_mk (n:Int) (a:Option Addr) (m c:Nat):elemR (.agg #[.int .i64 n,.slice a m c])=some (.held (.agg #[.int .i64 n,.slice a m c]),[]):=rfl
theorem elemR_inv {v:Value} {y:DataW Value×List MemPlace} (h:elemR v=some y):y=(.held v,[]):=by
 unfold elemR at h;split at h
 ·split at h
  ·simpa using h.symm
  ·cases h
 ·cases h
end Sto
end Go.Proofs.YtjldahcckmmenaaGreatDoor
namespace Go.Proofs
open Go.Shelf
def Tryz.lays103_ren:Go.Shelf.Ren:=⟨fun|103=>105|210=>121|206=>154|n=>n,fun|9=>9|4=>4|24=>179|3=>3|n=>n,fun|n=>n⟩
theorem Tryz.lays103:Go.Proofs.Lays.n103 Tryz.prog Tryz.lays103_ren:={
 mixed:=by kernel_rfl
 f103:=Tryz.func105.trans (congrArg some (by kernel_rfl))
 f206:=Tryz.func154.trans (congrArg some (by kernel_rfl))
 f210:=Tryz.func121.trans (congrArg some (by kernel_rfl))
 t3:=Tryz.underlying3
 a3:=Tryz.isAgg3
 z3:=Tryz.sizeOf3
 v3:=Tryz.zeroValue3
 t4:=Tryz.underlying4
 a4:=Tryz.isAgg4
 z4:=Tryz.sizeOf4
 v4:=Tryz.zeroValue4
 t9:=Tryz.underlying9
 a9:=Tryz.isAgg9
 z9:=Tryz.sizeOf9
 v9:=Tryz.zeroValue9
 t24:=Tryz.underlying179
 a24:=Tryz.isAgg179
 z24:=Tryz.sizeOf179
 v24:=Tryz.zeroValue179 }
open Go.RowKit in
theorem Tryz.strings_CutPrefix (s p:ByteArray) (w:World) :
  Calls Tryz.prog 105 #[.string s,.string p] w λe w'=>e=.returned (.tuple #[.string ⟨(Lib.trimPrefix s.data.toList p.data.toList).toArray⟩,.bool (Lib.hasPrefix s.data.toList p.data.toList)])∧w'=w:=Any.strings_CutPrefix Tryz.lays103 s p w
def Tryz.laysM171_ren:Go.Shelf.Ren:=⟨fun|171=>58|243=>83|246=>114|283=>141|284=>142|285=>143|286=>144|129=>132|317=>164|318=>165|319=>166|320=>167|337=>177|338=>178|n=>n,fun|3=>3|9=>9|2=>2|4=>4|171=>212|0=>0|53=>206|37=>41|5=>5|173=>214|212=>234|51=>163|20=>20|213=>235|46=>35|232=>39|233=>256|n=>n,fun|17=>1|18=>4|19=>5|n=>n⟩
theorem Tryz.laysM171:Go.Proofs.LaysM.n171 Tryz.prog Tryz.laysM171_ren:={
 mixed:=by kernel_rfl
 f129:=Tryz.func132.trans (congrArg some (by kernel_rfl))
 f171:=Tryz.func58.trans (congrArg some (by kernel_rfl))
 f243:=Tryz.func83.trans (congrArg some (by kernel_rfl))
 f246:=Tryz.func114.trans (congrArg some (by kernel_rfl))
 f283:=Tryz.func141.trans (congrArg some (by kernel_rfl))
 f284:=Tryz.func142.trans (congrArg some (by kernel_rfl))
 f285:=Tryz.func143.trans (congrArg some (by kernel_rfl))
 f286:=Tryz.func144.trans (congrArg some (by kernel_rfl))
 f317:=Tryz.func164.trans (congrArg some (by kernel_rfl))
 f318:=Tryz.func165.trans (congrArg some (by kernel_rfl))
 f319:=Tryz.func166.trans (congrArg some (by kernel_rfl))
 f320:=Tryz.func167.trans (congrArg some (by kernel_rfl))
 f337:=Tryz.func177.trans (congrArg some (by kernel_rfl))
 f338:=Tryz.func178.trans (congrArg some (by kernel_rfl))
 t0:=Tryz.underlying0
 a0:=Tryz.isAgg0
 z0:=Tryz.sizeOf0
 v0:=Tryz.zeroValue0
 t2:=Tryz.underlying2
 a2:=Tryz.isAgg2
 z2:=Tryz.sizeOf2
 v2:=Tryz.zeroValue2
 t3:=Tryz.underlying3
 a3:=Tryz.isAgg3
 z3:=Tryz.sizeOf3
 v3:=Tryz.zeroValue3
 t4:=Tryz.underlying4
 a4:=Tryz.isAgg4
 z4:=Tryz.sizeOf4
 v4:=Tryz.zeroValue4
 t5:=Tryz.underlying5
 a5:=Tryz.isAgg5
 z5:=Tryz.sizeOf5
 v5:=Tryz.zeroValue5
 t9:=Tryz.underlying9
 a9:=Tryz.isAgg9
 z9:=Tryz.sizeOf9
 v9:=Tryz.zeroValue9
 t20:=Tryz.underlying20
 a20:=Tryz.isAgg20
 z20:=Tryz.sizeOf20
 v20:=Tryz.zeroValue20
 t37:=Tryz.underlying41
 a37:=Tryz.isAgg41
 z37:=Tryz.sizeOf41
 v37:=Tryz.zeroValue41
 t46:=Tryz.underlying35
 a46:=Tryz.isAgg35
 z46:=Tryz.sizeOf35
 v46:=Tryz.zeroValue35
 t51:=Tryz.underlying163
 a51:=Tryz.isAgg163
 z51:=Tryz.sizeOf163
 v51:=Tryz.zeroValue163
 t53:=Tryz.underlying206
 a53:=Tryz.isAgg206
 z53:=Tryz.sizeOf206
 v53:=Tryz.zeroValue206
 t171:=Tryz.underlying212
 a171:=Tryz.isAgg212
 z171:=Tryz.sizeOf212
 v171:=Tryz.zeroValue212
 t173:=Tryz.underlying214
 a173:=Tryz.isAgg214
 z173:=Tryz.sizeOf214
 v173:=Tryz.zeroValue214
 t212:=Tryz.underlying234
 a212:=Tryz.isAgg234
 z212:=Tryz.sizeOf234
 v212:=Tryz.zeroValue234
 t213:=Tryz.underlying235
 a213:=Tryz.isAgg235
 z213:=Tryz.sizeOf235
 t232:=Tryz.underlying39
 a232:=Tryz.isAgg39
 z232:=Tryz.sizeOf39
 v232:=Tryz.zeroValue39
 t233:=Tryz.underlying256
 a233:=Tryz.isAgg256
 z233:=Tryz.sizeOf256
 v233:=Tryz.zeroValue256
 g17:=by kernel_rfl
 g18:=by kernel_rfl
 g19:=by kernel_rfl
 i0:=by kernel_rfl
 i2:=by kernel_rfl
 i3:=by kernel_rfl
 i4:=by kernel_rfl
 i5:=by kernel_rfl
 i9:=by kernel_rfl
 i20:=by kernel_rfl
 i37:=by kernel_rfl
 i46:=by kernel_rfl
 i51:=by kernel_rfl
 i53:=by kernel_rfl
 i171:=by kernel_rfl
 i173:=by kernel_rfl
 i212:=by kernel_rfl
 i232:=by kernel_rfl
 i233:=by kernel_rfl
 m17:=by kernel_rfl
 m18:=by kernel_rfl
 m19:=by kernel_rfl }
open Go.RowKit Go.Sort Go.Lib in
theorem Tryz.strconv_Itoa (n : Int) (h0 : -9223372036854775808 ≤ n) (h1 : n ≤ 9223372036854775807) (w : World) (htab : Lib.TabIs Tryz.prog w "internal/strconv.uint64pow10" .u64 Lib.pow10Tab) :
  Calls Tryz.prog 58 #[.int .i64 n] w λe w'=>e=.returned (.string ⟨(Lib.itoa n).toArray⟩)∧∃k os,w'=grow (w.drewN k) os:=Any.strconv_Itoa Tryz.laysM171 n h0 h1 w htab
def Tryz.laysC172_ren:Go.Shelf.Ren:=⟨fun|172=>103|244=>119|245=>120|247=>149|279=>150|280=>151|281=>152|282=>153|287=>172|316=>173|171=>58|205=>174|321=>184|322=>185|243=>83|246=>114|283=>141|284=>142|285=>143|286=>144|129=>132|317=>164|318=>165|319=>166|320=>167|337=>177|338=>178|n=>n,fun|9=>9|3=>3|75=>175|76=>176|4=>4|5=>5|167=>218|37=>41|0=>0|85=>219|2=>2|168=>221|53=>206|175=>241|46=>35|210=>245|127=>252|145=>255|143=>253|21=>21|171=>212|173=>214|212=>234|51=>163|20=>20|213=>235|232=>39|233=>256|80=>263|n=>n,fun|15=>2|16=>3|17=>1|18=>4|19=>5|n=>n⟩
theorem Tryz.laysC172:Go.Proofs.LaysC.n172 Tryz.prog Tryz.laysC172_ren:={
 mixed:=by kernel_rfl
 f129:=Tryz.func132.trans (congrArg some (by kernel_rfl))
 f171:=Tryz.func58.trans (congrArg some (by kernel_rfl))
 f172:=Tryz.func103.trans (congrArg some (by kernel_rfl))
 f205:=Tryz.func174.trans (congrArg some (by kernel_rfl))
 f243:=Tryz.func83.trans (congrArg some (by kernel_rfl))
 f244:=Tryz.func119.trans (congrArg some (by kernel_rfl))
 f245:=Tryz.func120.trans (congrArg some (by kernel_rfl))
 f246:=Tryz.func114.trans (congrArg some (by kernel_rfl))
 f247:=Tryz.func149.trans (congrArg some (by kernel_rfl))
 f279:=Tryz.func150.trans (congrArg some (by kernel_rfl))
 f280:=Tryz.func151.trans (congrArg some (by kernel_rfl))
 f281:=Tryz.func152.trans (congrArg some (by kernel_rfl))
 f282:=Tryz.func153.trans (congrArg some (by kernel_rfl))
 f283:=Tryz.func141.trans (congrArg some (by kernel_rfl))
 f284:=Tryz.func142.trans (congrArg some (by kernel_rfl))
 f285:=Tryz.func143.trans (congrArg some (by kernel_rfl))
 f286:=Tryz.func144.trans (congrArg some (by kernel_rfl))
 f287:=Tryz.func172.trans (congrArg some (by kernel_rfl))
 f316:=Tryz.func173.trans (congrArg some (by kernel_rfl))
 f317:=Tryz.func164.trans (congrArg some (by kernel_rfl))
 f318:=Tryz.func165.trans (congrArg some (by kernel_rfl))
 f319:=Tryz.func166.trans (congrArg some (by kernel_rfl))
 f320:=Tryz.func167.trans (congrArg some (by kernel_rfl))
 f321:=Tryz.func184.trans (congrArg some (by kernel_rfl))
 f322:=Tryz.func185.trans (congrArg some (by kernel_rfl))
 f337:=Tryz.func177.trans (congrArg some (by kernel_rfl))
 f338:=Tryz.func178.trans (congrArg some (by kernel_rfl))
 t0:=Tryz.underlying0
 a0:=Tryz.isAgg0
 z0:=Tryz.sizeOf0
 v0:=Tryz.zeroValue0
 t2:=Tryz.underlying2
 a2:=Tryz.isAgg2
 z2:=Tryz.sizeOf2
 v2:=Tryz.zeroValue2
 t3:=Tryz.underlying3
 a3:=Tryz.isAgg3
 z3:=Tryz.sizeOf3
 v3:=Tryz.zeroValue3
 t4:=Tryz.underlying4
 a4:=Tryz.isAgg4
 z4:=Tryz.sizeOf4
 v4:=Tryz.zeroValue4
 t5:=Tryz.underlying5
 a5:=Tryz.isAgg5
 z5:=Tryz.sizeOf5
 v5:=Tryz.zeroValue5
 t9:=Tryz.underlying9
 a9:=Tryz.isAgg9
 z9:=Tryz.sizeOf9
 v9:=Tryz.zeroValue9
 t20:=Tryz.underlying20
 a20:=Tryz.isAgg20
 z20:=Tryz.sizeOf20
 v20:=Tryz.zeroValue20
 t21:=Tryz.underlying21
 a21:=Tryz.isAgg21
 z21:=Tryz.sizeOf21
 v21:=Tryz.zeroValue21
 t37:=Tryz.underlying41
 a37:=Tryz.isAgg41
 z37:=Tryz.sizeOf41
 v37:=Tryz.zeroValue41
 t46:=Tryz.underlying35
 a46:=Tryz.isAgg35
 z46:=Tryz.sizeOf35
 v46:=Tryz.zeroValue35
 t51:=Tryz.underlying163
 a51:=Tryz.isAgg163
 z51:=Tryz.sizeOf163
 v51:=Tryz.zeroValue163
 t53:=Tryz.underlying206
 a53:=Tryz.isAgg206
 z53:=Tryz.sizeOf206
 v53:=Tryz.zeroValue206
 t75:=Tryz.underlying175
 a75:=Tryz.isAgg175
 z75:=Tryz.sizeOf175
 v75:=Tryz.zeroValue175
 t76:=Tryz.underlying176
 a76:=Tryz.isAgg176
 z76:=Tryz.sizeOf176
 v76:=Tryz.zeroValue176
 t85:=Tryz.underlying219
 a85:=Tryz.isAgg219
 z85:=Tryz.sizeOf219
 v85:=Tryz.zeroValue219
 t127:=Tryz.underlying252
 a127:=Tryz.isAgg252
 z127:=Tryz.sizeOf252
 v127:=Tryz.zeroValue252
 t143:=Tryz.underlying253
 a143:=Tryz.isAgg253
 z143:=Tryz.sizeOf253
 v143:=Tryz.zeroValue253
 t145:=Tryz.underlying255
 a145:=Tryz.isAgg255
 z145:=Tryz.sizeOf255
 v145:=Tryz.zeroValue255
 t167:=Tryz.underlying218
 a167:=Tryz.isAgg218
 z167:=Tryz.sizeOf218
 v167:=Tryz.zeroValue218
 t168:=Tryz.underlying221
 a168:=Tryz.isAgg221
 z168:=Tryz.sizeOf221
 v168:=Tryz.zeroValue221
 t171:=Tryz.underlying212
 a171:=Tryz.isAgg212
 z171:=Tryz.sizeOf212
 v171:=Tryz.zeroValue212
 t173:=Tryz.underlying214
 a173:=Tryz.isAgg214
 z173:=Tryz.sizeOf214
 v173:=Tryz.zeroValue214
 t175:=Tryz.underlying241
 a175:=Tryz.isAgg241
 z175:=Tryz.sizeOf241
 v175:=Tryz.zeroValue241
 t210:=Tryz.underlying245
 a210:=Tryz.isAgg245
 z210:=Tryz.sizeOf245
 v210:=Tryz.zeroValue245
 t212:=Tryz.underlying234
 a212:=Tryz.isAgg234
 z212:=Tryz.sizeOf234
 v212:=Tryz.zeroValue234
 t213:=Tryz.underlying235
 a213:=Tryz.isAgg235
 z213:=Tryz.sizeOf235
 t232:=Tryz.underlying39
 a232:=Tryz.isAgg39
 z232:=Tryz.sizeOf39
 v232:=Tryz.zeroValue39
 t233:=Tryz.underlying256
 a233:=Tryz.isAgg256
 z233:=Tryz.sizeOf256
 v233:=Tryz.zeroValue256
 g15:=by kernel_rfl
 g16:=by kernel_rfl
 g17:=by kernel_rfl
 g18:=by kernel_rfl
 g19:=by kernel_rfl
 t80:=Tryz.underlying263
 a80:=Tryz.isAgg263
 z80:=Tryz.sizeOf263
 v80:=Tryz.zeroValue263
 i0:=by kernel_rfl
 i2:=by kernel_rfl
 i3:=by kernel_rfl
 i4:=by kernel_rfl
 i5:=by kernel_rfl
 i9:=by kernel_rfl
 i20:=by kernel_rfl
 i21:=by kernel_rfl
 i37:=by kernel_rfl
 i46:=by kernel_rfl
 i51:=by kernel_rfl
 i53:=by kernel_rfl
 i75:=by kernel_rfl
 i76:=by kernel_rfl
 i80:=by kernel_rfl
 i85:=by kernel_rfl
 i127:=by kernel_rfl
 i143:=by kernel_rfl
 i145:=by kernel_rfl
 i167:=by kernel_rfl
 i168:=by kernel_rfl
 i171:=by kernel_rfl
 i173:=by kernel_rfl
 i175:=by kernel_rfl
 i210:=by kernel_rfl
 i212:=by kernel_rfl
 i232:=by kernel_rfl
 i233:=by kernel_rfl
 m15:=by kernel_rfl
 m16:=by kernel_rfl
 m17:=by kernel_rfl
 m18:=by kernel_rfl
 m19:=by kernel_rfl
 c0:=by kernel_rfl
 c2:=by kernel_rfl
 c3:=by kernel_rfl
 c4:=by kernel_rfl
 c5:=by kernel_rfl
 c9:=by kernel_rfl
 c20:=by kernel_rfl
 c21:=by kernel_rfl
 c37:=by kernel_rfl
 c46:=by kernel_rfl
 c51:=by kernel_rfl
 c53:=by kernel_rfl
 c75:=by kernel_rfl
 c76:=by kernel_rfl
 c80:=by kernel_rfl
 c85:=by kernel_rfl
 c127:=by kernel_rfl
 c143:=by kernel_rfl
 c145:=by kernel_rfl
 c167:=by kernel_rfl
 c168:=by kernel_rfl
 c171:=by kernel_rfl
 c173:=by kernel_rfl
 c175:=by kernel_rfl
 c210:=by kernel_rfl
 c212:=by kernel_rfl
 c213:=by kernel_rfl
 c232:=by kernel_rfl
 c233:=by kernel_rfl }
open Go.RowKit in
theorem Tryz.strconv_Atoi_ok (s:ByteArray) (hmax:s.size≤9223372036854775806) (v:Int) (h:Lib.atoiAll s.data.toList=.ok v) (w:World) :
  Calls Tryz.prog 103 #[.string s] w λe w'=>e=.returned (.tuple #[.int .i64 v,.nilIface])∧(w'=w∨∃t,w'=Lib.bytesWorld w 5 t):=Any.strconv_Atoi_ok Tryz.laysC172 s hmax v h w
open Go.RowKit in
theorem Tryz.strconv_Atoi_syntax_var (s : ByteArray) (hlim : s.size ≤ 281474976710656) (h : Lib.atoiAll s.data.toList = Lib.NumEnd.syntax) (tp : TypeId) (p : Value) (w : World) (hvar : w.var? Tryz.prog "strconv.ErrSyntax" = some #[.iface tp p]) :
  Calls Tryz.prog 103 #[.string s] w λe w'=>∃N,e=.returned (.tuple #[.int .i64 0,.iface 221 (.pointer (some ⟨N,0,none⟩))])∧w.heap.size≤N∧w'.heap[N]?=some (.cells #[.string ⟨#[65,116,111,105]⟩,.string s,.iface tp p] 245 (0,0))∧Below w.heap.size w w':=Any.strconv_Atoi_syntax_var Tryz.laysC172 s hlim h tp p w hvar
open Go.RowKit in
theorem Tryz.strconv_Atoi_range_var (s : ByteArray) (hlim : s.size ≤ 281474976710656) (h : Lib.atoiAll s.data.toList = .range) (tp : TypeId) (p : Value) (w : World) (hvar : w.var? Tryz.prog "strconv.ErrRange" = some #[.iface tp p]) :
  Calls Tryz.prog 103 #[.string s] w λe w'=>∃N,e=.returned (.tuple #[.int .i64 (Lib.atoiSat s.data.toList),.iface 221 (.pointer (some ⟨N,0,none⟩))])∧w.heap.size≤N∧w'.heap[N]?=some (.cells #[.string ⟨#[65,116,111,105]⟩,.string s,.iface tp p] 245 (0,0))∧Below w.heap.size w w':=Any.strconv_Atoi_range_var Tryz.laysC172 s hlim h tp p w hvar
def Tryz.lays102_ren:Go.Shelf.Ren:=⟨fun|102=>102|209=>118|207=>148|n=>n,fun|9=>9|4=>4|3=>3|n=>n,fun|n=>n⟩
theorem Tryz.lays102:Go.Proofs.Lays.n102 Tryz.prog Tryz.lays102_ren:={
 mixed:=by kernel_rfl
 f102:=Tryz.func102.trans (congrArg some (by kernel_rfl))
 f207:=Tryz.func148.trans (congrArg some (by kernel_rfl))
 f209:=Tryz.func118.trans (congrArg some (by kernel_rfl))
 t3:=Tryz.underlying3
 a3:=Tryz.isAgg3
 z3:=Tryz.sizeOf3
 v3:=Tryz.zeroValue3
 t4:=Tryz.underlying4
 a4:=Tryz.isAgg4
 z4:=Tryz.sizeOf4
 v4:=Tryz.zeroValue4
 t9:=Tryz.underlying9
 a9:=Tryz.isAgg9
 z9:=Tryz.sizeOf9
 v9:=Tryz.zeroValue9 }
open Go.RowKit Go.Lib in
theorem Tryz.strings_TrimSuffix (s p:ByteArray) (w:World) (hs:s.size≤9223372036854775807) :
  Calls Tryz.prog 102 #[.string s,.string p] w λe w'=>e=.returned (.string ⟨(Lib.trimSuffix s.data.toList p.data.toList).toArray⟩)∧w'=w:=Any.strings_TrimSuffix Tryz.lays102 s p w hs
def Tryz.lays146_ren:Go.Shelf.Ren:=⟨fun|146=>101|221=>117|268=>145|138=>146|143=>147|195=>168|197=>169|218=>170|219=>171|260=>179|217=>180|225=>181|224=>182|267=>183|266=>186|314=>187|n=>n,fun|9=>9|31=>74|3=>3|4=>4|0=>0|105=>238|21=>21|5=>5|46=>35|119=>257|139=>260|138=>259|146=>261|51=>163|n=>n,fun|1=>0|3=>6|4=>7|n=>n⟩
theorem Tryz.lays146:Go.Proofs.Lays.n146 Tryz.prog Tryz.lays146_ren:={
 mixed:=by kernel_rfl
 f138:=Tryz.func146.trans (congrArg some (by kernel_rfl))
 f143:=Tryz.func147.trans (congrArg some (by kernel_rfl))
 f146:=Tryz.func101.trans (congrArg some (by kernel_rfl))
 f195:=Tryz.func168.trans (congrArg some (by kernel_rfl))
 f197:=Tryz.func169.trans (congrArg some (by kernel_rfl))
 f217:=Tryz.func180.trans (congrArg some (by kernel_rfl))
 f218:=Tryz.func170.trans (congrArg some (by kernel_rfl))
 f219:=Tryz.func171.trans (congrArg some (by kernel_rfl))
 f221:=Tryz.func117.trans (congrArg some (by kernel_rfl))
 f224:=Tryz.func182.trans (congrArg some (by kernel_rfl))
 f225:=Tryz.func181.trans (congrArg some (by kernel_rfl))
 f260:=Tryz.func179.trans (congrArg some (by kernel_rfl))
 f266:=Tryz.func186.trans (congrArg some (by kernel_rfl))
 f267:=Tryz.func183.trans (congrArg some (by kernel_rfl))
 f268:=Tryz.func145.trans (congrArg some (by kernel_rfl))
 f314:=Tryz.func187.trans (congrArg some (by kernel_rfl))
 t0:=Tryz.underlying0
 a0:=Tryz.isAgg0
 z0:=Tryz.sizeOf0
 v0:=Tryz.zeroValue0
 t3:=Tryz.underlying3
 a3:=Tryz.isAgg3
 z3:=Tryz.sizeOf3
 v3:=Tryz.zeroValue3
 t4:=Tryz.underlying4
 a4:=Tryz.isAgg4
 z4:=Tryz.sizeOf4
 v4:=Tryz.zeroValue4
 t5:=Tryz.underlying5
 a5:=Tryz.isAgg5
 z5:=Tryz.sizeOf5
 v5:=Tryz.zeroValue5
 t9:=Tryz.underlying9
 a9:=Tryz.isAgg9
 z9:=Tryz.sizeOf9
 v9:=Tryz.zeroValue9
 t21:=Tryz.underlying21
 a21:=Tryz.isAgg21
 z21:=Tryz.sizeOf21
 v21:=Tryz.zeroValue21
 t31:=Tryz.underlying74
 a31:=Tryz.isAgg74
 z31:=Tryz.sizeOf74
 v31:=Tryz.zeroValue74
 t46:=Tryz.underlying35
 a46:=Tryz.isAgg35
 z46:=Tryz.sizeOf35
 v46:=Tryz.zeroValue35
 t51:=Tryz.underlying163
 a51:=Tryz.isAgg163
 z51:=Tryz.sizeOf163
 v51:=Tryz.zeroValue163
 t105:=Tryz.underlying238
 a105:=Tryz.isAgg238
 z105:=Tryz.sizeOf238
 v105:=Tryz.zeroValue238
 t119:=Tryz.underlying257
 a119:=Tryz.isAgg257
 z119:=Tryz.sizeOf257
 t138:=Tryz.underlying259
 a138:=Tryz.isAgg259
 z138:=Tryz.sizeOf259
 v138:=Tryz.zeroValue259
 t139:=Tryz.underlying260
 a139:=Tryz.isAgg260
 z139:=Tryz.sizeOf260
 v139:=Tryz.zeroValue260
 t146:=Tryz.underlying261
 a146:=Tryz.isAgg261
 z146:=Tryz.sizeOf261
 v146:=Tryz.zeroValue261
 g1:=by kernel_rfl
 g3:=by kernel_rfl
 g4:=by kernel_rfl }
open Go.RowKit Go.Lib in
theorem Tryz.strings_Split (s sep:ByteArray) (m:Int) (w:World) (hs:s.size<4294967281) (hm:w.cell? ⟨0,0,none⟩=some (.int .i64 m)) (h1:1≤sep.size) :
  Calls Tryz.prog 101 #[.string s,.string sep] w λe w' =>
   e=.returned (.slice (some ⟨w.heap.size,0,none⟩) (Lib.countB s sep+1) (Lib.countB s sep+1))∧w'=w.alloc (.cells ((Lib.splitB sep 0 (Lib.countB s sep) s).map Value.string).toArray 9):=Any.strings_Split Tryz.lays146 (by kernel_rfl) s sep m w hs hm h1
def Tryz.lays107_ren:Go.Shelf.Ren:=⟨fun|107=>74|108=>106|n=>n,fun|28=>25|3=>3|4=>4|0=>0|n=>n,fun|n=>n⟩
theorem Tryz.lays107:Go.Proofs.Lays.n107 Tryz.prog Tryz.lays107_ren:={
 mixed:=by kernel_rfl
 f107:=Tryz.func74.trans (congrArg some (by kernel_rfl))
 f108:=Tryz.func106.trans (congrArg some (by kernel_rfl))
 t0:=Tryz.underlying0
 a0:=Tryz.isAgg0
 z0:=Tryz.sizeOf0
 v0:=Tryz.zeroValue0
 t3:=Tryz.underlying3
 a3:=Tryz.isAgg3
 z3:=Tryz.sizeOf3
 v3:=Tryz.zeroValue3
 t4:=Tryz.underlying4
 a4:=Tryz.isAgg4
 z4:=Tryz.sizeOf4
 v4:=Tryz.zeroValue4
 t28:=Tryz.underlying25
 a28:=Tryz.isAgg25
 z28:=Tryz.sizeOf25
 v28:=Tryz.zeroValue25 }
open Go.Lib in
theorem Tryz.slices_Contains_int (b off n c:Nat) (zs:List Int) (x:Int) (w:World) (hz:n≤zs.length) (hbig:n≤9223372036854775807) (hc:∀j,j<zs.length→w.cell? ⟨b,off+j,none⟩=some (.int .i64 (zs.getD j 0))) :
  Calls Tryz.prog 74 #[.slice (some ⟨b,off,none⟩) n c,.int .i64 x] w λe w'=>e=.returned (.bool ((zs.take n).contains x))∧w'=w:=Any.slices_Contains_int Tryz.lays107 b off n c zs x w hz hbig hc
open Go.Lib in
theorem Tryz.slices_Contains_int_empty (a:Option Addr) (c:Nat) (x:Int) (w:World) :
  Calls Tryz.prog 74 #[.slice a 0 c,.int .i64 x] w λe w'=>e=.returned (.bool false)∧w'=w:=Any.slices_Contains_int_empty Tryz.lays107 a c x w
def Tryz.lays110_ren:Go.Shelf.Ren:=⟨fun|110=>43|109=>68|n=>n,fun|31=>74|9=>9|4=>4|3=>3|0=>0|n=>n,fun|n=>n⟩
theorem Tryz.lays110:Go.Proofs.Lays.n110 Tryz.prog Tryz.lays110_ren:={
 mixed:=by kernel_rfl
 f109:=Tryz.func68.trans (congrArg some (by kernel_rfl))
 f110:=Tryz.func43.trans (congrArg some (by kernel_rfl))
 t0:=Tryz.underlying0
 a0:=Tryz.isAgg0
 z0:=Tryz.sizeOf0
 v0:=Tryz.zeroValue0
 t3:=Tryz.underlying3
 a3:=Tryz.isAgg3
 z3:=Tryz.sizeOf3
 v3:=Tryz.zeroValue3
 t4:=Tryz.underlying4
 a4:=Tryz.isAgg4
 z4:=Tryz.sizeOf4
 v4:=Tryz.zeroValue4
 t9:=Tryz.underlying9
 a9:=Tryz.isAgg9
 z9:=Tryz.sizeOf9
 v9:=Tryz.zeroValue9
 t31:=Tryz.underlying74
 a31:=Tryz.isAgg74
 z31:=Tryz.sizeOf74
 v31:=Tryz.zeroValue74 }
open Go.Lib in
theorem Tryz.slices_Contains_string (b off n c:Nat) (zs:List ByteArray) (x:ByteArray) (w:World) (hz:n≤zs.length) (hbig:n≤9223372036854775807) (hc:∀j,j<zs.length→w.cell? ⟨b,off+j,none⟩=some (.string (zs.getD j ByteArray.empty))) :
  Calls Tryz.prog 43 #[.slice (some ⟨b,off,none⟩) n c,.string x] w λe w'=>e=.returned (.bool (Lib.containsS (zs.take n) x))∧w'=w:=Any.slices_Contains_string Tryz.lays110 b off n c zs x w hz hbig hc
open Go.Lib in
theorem Tryz.slices_Contains_string_empty (a:Option Addr) (c:Nat) (x:ByteArray) (w:World) :
  Calls Tryz.prog 43 #[.slice a 0 c,.string x] w λe w'=>e=.returned (.bool false)∧w'=w:=Any.slices_Contains_string_empty Tryz.lays110 a c x w
def Tryz.laysNm215_ren:Go.Shelf.Ren:=⟨fun|15=>49|n=>n,fun|22=>25|3=>3|4=>4|n=>n,fun|n=>n⟩
theorem Tryz.laysNm215:Go.Proofs.Lays2.n15 Tryz.prog Tryz.laysNm215_ren:={
 mixed:=by kernel_rfl
 f15:=Tryz.func49.trans (congrArg some (by kernel_rfl))
 t3:=Tryz.underlying3
 a3:=Tryz.isAgg3
 z3:=Tryz.sizeOf3
 v3:=Tryz.zeroValue3
 t4:=Tryz.underlying4
 a4:=Tryz.isAgg4
 z4:=Tryz.sizeOf4
 v4:=Tryz.zeroValue4
 t22:=Tryz.underlying25
 a22:=Tryz.isAgg25
 z22:=Tryz.sizeOf25
 v22:=Tryz.zeroValue25
 i3:=by kernel_rfl }
open Go.RowKit Go.Lib in
theorem Tryz.slices_Clone_int (b off n c:Nat) (zs:List Int) (w:World) (hz:n≤zs.length) (hbig:n*8≤140737488355328) (hc:∀j,j<zs.length→w.cell? ⟨b,off+j,none⟩=some (.int .i64 (zs.getD j 0))) :
  Calls Tryz.prog 49 #[.slice (some ⟨b,off,none⟩) n c] w λe w'=>∃v',e=.returned v'∧w'.ownsRow w.heap.size 3 1 v' n ((zs.take n).map (Value.int .i64))∧v'≠.slice none 0 0∧Below w.heap.size w w':=Any.slices_Clone_int Tryz.laysNm215 b off n c zs w hz hbig hc
open Go.RowKit Go.Lib in
theorem Tryz.slices_Clone_int_nil (n c:Nat) (w:World) :
  Calls Tryz.prog 49 #[.slice none n c] w λe w'=>e=.returned (.slice none 0 0)∧w'=w:=Any.slices_Clone_int_nil Tryz.laysNm215 n c w
open Go.RowKit Go.Lib in
theorem Tryz.slices_Clone_int_zero (a:Addr) (c:Nat) (w:World) :
  Calls Tryz.prog 49 #[.slice (some a) 0 c] w λe w'=>∃v',e=.returned v'∧w'.ownsRow w.heap.size 3 1 v' 0 []∧v'≠.slice none 0 0∧Below w.heap.size w w':=Any.slices_Clone_int_zero Tryz.laysNm215 a c w
def Tryz.laysSlE041_f49_ren:Go.Shelf.Ren:=⟨fun|41=>49|n=>n,fun|22=>25|23=>3|4=>4|n=>n,fun|n=>n⟩
theorem Tryz.laysSlE041_f49:Go.Proofs.SlLaysE0.n41 Tryz.prog Tryz.laysSlE041_f49_ren:={
 mixed:=by kernel_rfl
 f41:=⟨Tryz.f49.name,by decide,Tryz.func49.trans (congrArg some (by kernel_rfl))⟩
 t4:=Tryz.underlying4
 a4:=Tryz.isAgg4
 z4:=Tryz.sizeOf4
 v4:=Tryz.zeroValue4
 t22:=Tryz.underlying25
 a22:=Tryz.isAgg25
 z22:=Tryz.sizeOf25
 v22:=Tryz.zeroValue25 }
open Go.RowKit Go.Lib in
theorem Tryz.slices_Clone (i0:TypeInfo) (z:Value) (size bytes:Nat) (hi:Tryz.prog.info? 3=some i0) (hz0:i0.zero=some z) (hz1:i0.size=size) (hz2:i0.bytes=bytes) (hzs:z.cells.size=size) (hsz:0<size) (z23:∀w,(Go.sizeOf 3).run Tryz.prog w=.ok size w) (b off n c:Nat) (news:List Value) (w:World) (hl:news.length=n*size) (hn:n≤maxLen) (hbig:n*bytes≤140737488355328) (hc:∀j u,news[j]?=some u→w.cell? ⟨b,off+j,none⟩=some u) (h1:∀u∈news,u.oneCell'=true) :
  Calls Tryz.prog 49 #[.slice (some ⟨b,off,none⟩) n c] w λe w'=>∃v',e=.returned v'∧w'.ownsRow w.heap.size 3 size v' n news∧v'≠.slice none 0 0∧Below w.heap.size w w':=AnyE.slices_Clone Tryz.laysSlE041_f49 i0 z size bytes hi hz0 hz1 hz2 hzs hsz z23 b off n c news w hl hn hbig hc h1
open Go.RowKit Go.Lib in
theorem Tryz.slices_Clone_nil (n c:Nat) (w:World) :
  Calls Tryz.prog 49 #[.slice none n c] w λe w'=>e=.returned (.slice none 0 0)∧w'=w:=AnyE.slices_Clone_nil Tryz.laysSlE041_f49 n c w
def Tryz.laysSlM6_f77_ren:Go.Shelf.Ren:=⟨fun|6=>77|8=>110|9=>109|19=>131|20=>132|21=>122|22=>123|23=>124|24=>125|25=>126|26=>127|27=>128|28=>129|29=>130|36=>155|31=>156|32=>157|37=>158|38=>159|39=>160|41=>175|n=>n,fun|27=>74|29=>9|3=>3|32=>35|26=>74|0=>0|44=>163|46=>206|4=>4|36=>198|35=>197|41=>145|5=>5|9=>9|53=>224|57=>228|63=>247|64=>248|n=>n,fun|n=>n⟩
theorem Tryz.laysSlM6_f77:Go.Proofs.SlLaysM.n6 Tryz.prog Tryz.laysSlM6_f77_ren:={
 mixed:=by kernel_rfl
 f6:=⟨Tryz.f77.name,by decide,Tryz.func77.trans (congrArg some (by kernel_rfl))⟩
 f8:=Tryz.func110.trans (congrArg some (by kernel_rfl))
 f9:=⟨Tryz.f109.name,by decide,Tryz.func109.trans (congrArg some (by kernel_rfl))⟩
 f19:=Tryz.func131.trans (congrArg some (by kernel_rfl))
 f20:=Tryz.func132.trans (congrArg some (by kernel_rfl))
 f21:=⟨Tryz.f122.name,by decide,Tryz.func122.trans (congrArg some (by kernel_rfl))⟩
 f22:=⟨Tryz.f123.name,by decide,Tryz.func123.trans (congrArg some (by kernel_rfl))⟩
 f23:=⟨Tryz.f124.name,by decide,Tryz.func124.trans (congrArg some (by kernel_rfl))⟩
 f24:=⟨Tryz.f125.name,by decide,Tryz.func125.trans (congrArg some (by kernel_rfl))⟩
 f25:=⟨Tryz.f126.name,by decide,Tryz.func126.trans (congrArg some (by kernel_rfl))⟩
 f26:=⟨Tryz.f127.name,by decide,Tryz.func127.trans (congrArg some (by kernel_rfl))⟩
 f27:=⟨Tryz.f128.name,by decide,Tryz.func128.trans (congrArg some (by kernel_rfl))⟩
 f28:=⟨Tryz.f129.name,by decide,Tryz.func129.trans (congrArg some (by kernel_rfl))⟩
 f29:=⟨Tryz.f130.name,by decide,Tryz.func130.trans (congrArg some (by kernel_rfl))⟩
 f31:=Tryz.func156.trans (congrArg some (by kernel_rfl))
 f32:=Tryz.func157.trans (congrArg some (by kernel_rfl))
 f36:=⟨Tryz.f155.name,by decide,Tryz.func155.trans (congrArg some (by kernel_rfl))⟩
 f37:=⟨Tryz.f158.name,by decide,Tryz.func158.trans (congrArg some (by kernel_rfl))⟩
 f38:=⟨Tryz.f159.name,by decide,Tryz.func159.trans (congrArg some (by kernel_rfl))⟩
 f39:=⟨Tryz.f160.name,by decide,Tryz.func160.trans (congrArg some (by kernel_rfl))⟩
 f41:=⟨Tryz.f175.name,by decide,Tryz.func175.trans (congrArg some (by kernel_rfl))⟩
 t0:=Tryz.underlying0
 a0:=Tryz.isAgg0
 z0:=Tryz.sizeOf0
 v0:=Tryz.zeroValue0
 t3:=Tryz.underlying3
 a3:=Tryz.isAgg3
 z3:=Tryz.sizeOf3
 v3:=Tryz.zeroValue3
 t4:=Tryz.underlying4
 a4:=Tryz.isAgg4
 z4:=Tryz.sizeOf4
 v4:=Tryz.zeroValue4
 t5:=Tryz.underlying5
 a5:=Tryz.isAgg5
 z5:=Tryz.sizeOf5
 v5:=Tryz.zeroValue5
 t9:=Tryz.underlying9
 a9:=Tryz.isAgg9
 z9:=Tryz.sizeOf9
 v9:=Tryz.zeroValue9
 t26:=Tryz.underlying74
 a26:=Tryz.isAgg74
 z26:=Tryz.sizeOf74
 v26:=Tryz.zeroValue74
 t27:=Tryz.underlying74
 a27:=Tryz.isAgg74
 z27:=Tryz.sizeOf74
 v27:=Tryz.zeroValue74
 t29:=Tryz.underlying9
 a29:=Tryz.isAgg9
 z29:=Tryz.sizeOf9
 v29:=Tryz.zeroValue9
 t32:=Tryz.underlying35
 a32:=Tryz.isAgg35
 z32:=Tryz.sizeOf35
 v32:=Tryz.zeroValue35
 t35:=Tryz.underlying197
 a35:=Tryz.isAgg197
 z35:=Tryz.sizeOf197
 v35:=Tryz.zeroValue197
 t36:=Tryz.underlying198
 a36:=Tryz.isAgg198
 z36:=Tryz.sizeOf198
 v36:=Tryz.zeroValue198
 t41:=Tryz.underlying145
 a41:=Tryz.isAgg145
 z41:=Tryz.sizeOf145
 v41:=Tryz.zeroValue145
 t44:=Tryz.underlying163
 a44:=Tryz.isAgg163
 z44:=Tryz.sizeOf163
 v44:=Tryz.zeroValue163
 t46:=Tryz.underlying206
 a46:=Tryz.isAgg206
 z46:=Tryz.sizeOf206
 v46:=Tryz.zeroValue206
 t53:=Tryz.underlying224
 a53:=Tryz.isAgg224
 z53:=Tryz.sizeOf224
 v53:=Tryz.zeroValue224
 t57:=Tryz.underlying228
 a57:=Tryz.isAgg228
 z57:=Tryz.sizeOf228
 v57:=Tryz.zeroValue228
 t63:=Tryz.underlying247
 a63:=Tryz.isAgg247
 z63:=Tryz.sizeOf247
 v63:=Tryz.zeroValue247
 t64:=Tryz.underlying248
 a64:=Tryz.isAgg248
 z64:=Tryz.sizeOf248
 v64:=Tryz.zeroValue248 }
open Go.Sort Go.RowKit in
theorem Tryz.slices_Sort_string (blk off cap:Nat) (ss:List (List UInt8)) (w:World) (hH:Holds encStr w blk off ss.toArray) (hblk:blk<w.heap.size) (hsz:ss.length<4611686018427387904) :
  Calls Tryz.prog 77 #[.slice (some ⟨blk,off,none⟩) ss.length cap] w λe w' =>
   e=.returned (.tuple #[])∧∃n os,w'=grow (putRow encStr (Sort.ahead w n) blk off (ss.mergeSort λx y=>decide (x≤y)).toArray) os:=AnyM.slices_Sort_string Tryz.laysSlM6_f77 blk off cap ss w hH hblk hsz
open Go.RowKit Go.Sort in
theorem Tryz.slices_Sort_string_none (p:Option Addr) (cap:Nat) (w:World) :
  Calls Tryz.prog 77 #[.slice p 0 cap] w λe w'=>e=.returned (.tuple #[])∧w'=w:=AnyM.slices_Sort_string_none Tryz.laysSlM6_f77 p cap w
end Go.Proofs
namespace Go.Proofs.YtjldahcckmmenaaGreatDoor
set_option linter.unusedSimpArgs false
set_option linter.unusedVariables false
open Go Go.RowKit
open Go.Maps Go.WideMaps
def Ha:Go.Shelf.Ren:=⟨fun|41=>40|n=>n,fun|22=>41|23=>5|4=>4|n=>n,fun|n=>n⟩
theorem Bp:Go.Proofs.SlLaysE0.n41 Tryz.prog Ha:={
 mixed:=by kernel_rfl
 f41:=⟨Tryz.f40.name,by decide,Tryz.func40.trans (congrArg some (by kernel_rfl))⟩
 t4:=Tryz.underlying4
 a4:=Tryz.isAgg4
 z4:=Tryz.sizeOf4
 v4:=Tryz.zeroValue4
 t22:=Tryz.underlying41
 a22:=Tryz.isAgg41
 z22:=Tryz.sizeOf41
 v22:=Tryz.zeroValue41 }
def Gu:Go.Shelf.Ren:=⟨fun|5=>99|7=>57|n=>n,fun|4=>4|20=>20|23=>60|25=>9|3=>3|n=>n,fun|n=>n⟩
theorem GF:Go.Proofs.SlLaysW.n5 Tryz.prog Gu:={
 mixed:=by kernel_rfl
 f5:=⟨Tryz.f99.name,by decide,Tryz.func99.trans (congrArg some (by kernel_rfl))⟩
 f7:=Tryz.func57.trans (congrArg some (by kernel_rfl))
 t4:=Tryz.underlying4
 a4:=Tryz.isAgg4
 z4:=Tryz.sizeOf4
 v4:=Tryz.zeroValue4
 t20:=Tryz.underlying20
 a20:=Tryz.isAgg20
 z20:=Tryz.sizeOf20
 v20:=Tryz.zeroValue20
 t23:=Tryz.underlying60
 a23:=Tryz.isAgg60
 z23:=Tryz.sizeOf60
 v23:=Tryz.zeroValue60 }
theorem Ey:(Tryz.prog.info? 5).map (λi=>(i.zero,i.size,i.bytes))=some (some (.int .u8 0),1,1):=by kernel_rfl
def Ag (w:World) (base:Nat) (v:Value) (l:List UInt8):Prop:=w.ownsRow base 5 1 v l.length (AV l)
theorem BS (l:List UInt8):∀u∈AV l,u.oneCell'=true:=λu hu=>by
 unfold AV at hu;obtain⟨c,_,rfl⟩:=List.mem_map.1 hu;rfl
theorem BP (l:List UInt8):(AV l).length=l.length:=by simp[AV]
theorem LA (base:Nat) (v:Value) (l:List UInt8) (w:World) (h:Ag w base v l) (hl:l.length≤1000000000) :
  Calls Tryz.prog 40 #[v] w λe w'=>∃v',e=.returned v'∧Ag w' w.heap.size v' l∧Below w.heap.size w w':=by
 obtain⟨E,D,C,A,o⟩:=info_parts Ey;rcases h.2 with⟨h1,h2⟩|⟨g,cap,cur,h1,hg,hc,hcap,hmax,hsz,htk⟩
 ·rw[h1];refine (AnyE.slices_Clone_nil Bp 0 0 w).mono ?_;rintro e w' ⟨rfl,rfl⟩;have B:l=[]:=List.length_eq_zero_iff.1 h2;subst B;exact⟨_,rfl,World.ownsRow_nil _ _ _ _,Below.refl _ _⟩
 ·rw[h1];refine (AnyE.slices_Clone Bp E (.int .u8 0) 1 1 D C A o rfl (by decide) (λw=>Tryz.sizeOf5 w) g 0 l.length cap (AV l) w (by rw[BP];omega) (by unfold maxLen;omega) (by omega) ?_ (BS l)).mono ?_
  ·intro j u hj;rw[Nat.zero_add];have:=World.ownsRow.cells h (by rw[h1];rfl) j u hj;rw[addr_add]at this;exact this
  ·rintro e w' ⟨v',rfl,h3,_,h4⟩;exact⟨v',rfl,h3,h4⟩
theorem Kp (b:Nat) (l:Fs.Names) (w:World) (h:A5 w b l) :
  Calls Tryz.prog 99 #[.map (some b)] w λe w'=>e=.returned (.map (some w.heap.size))∧A5 w' w.heap.size l∧Below w.heap.size w w':=by
 refine (AnyW.maps_Clone_owns GF 9 (plainElem Tryz.prog 3) b l.length (Fs.datum l) w h).mono ?_;rintro e w' ⟨rfl,h1,_,h2⟩;exact⟨rfl,h1,h2⟩
open Go.Maps Go.WideMaps
namespace Fs
def new (room:Int):St:=⟨0,-1,[],room,[],[],[],[]⟩
def flush (l:List (List UInt8×Nat)) (i:Nat):List (List UInt8×Nat):=match l[i]? with|some f=>l.set i (f.1,f.1.length)|none=>l
def sync (st:St) (n:List UInt8):St×Int :=
 if openE st n≠0 then (st,openE st n)
 else if (step st).2.2≠0 then ((step st).1,(step st).2.2)
 else ({ (step st).1 with files:=flush st.files (idx st n) },0)
def syncDir (st:St):St×Int :=
 if (step st).2.2≠0 then ((step st).1,(step st).2.2) else ({ (step st).1 with sure:=st.dir,changes:=[] },0)
theorem step_files (st:St):(step st).1.files=st.files:=by unfold step;split<;>rfl
theorem step_dir (st:St):(step st).1.dir=st.dir:=by unfold step;split<;>rfl
end Fs
def EN (n:Nat):Nat→Tag:=λk=>if k=n then .dir else if k=n+1 then .sure else if k=n+2 then .root else .other
structure Aa (base B:Nat) (st:Fs.St) (V:FsV) (own:Nat→Tag) (w:World):Prop where
 at_:CI base B st V own w
 fresh:∀k,w.heap.size≤k→own k=.other
 old:∀k,k<base→own k=.other
theorem AK (w:World) (o:Obj):(w.alloc o).heap[w.heap.size]?=some o:=by
 show (w.heap.push _)[w.heap.size]?=_;simp
theorem JM (room:Int) (w:World):Aa w.heap.size (w.heap.size+2) (Fs.new room) ⟨.slice none 0 0,.slice none 0 0,.slice none 0 0,w.heap.size,w.heap.size+1,[],[]⟩ (EN w.heap.size)
  (((w.alloc (.map #[] 0)).alloc (.map #[] 0)).alloc (.cells #[.int .i64 0,.int .i64 (-1),.slice none 0 0,.int .i64 room,.slice none 0 0,.map (some w.heap.size),.map (some (w.heap.size+1)),.slice none 0 0] 63)):=by
 have o:(w.alloc (.map #[] 0)).heap.size=w.heap.size+1:=by simp
 have A:((w.alloc (.map #[] 0)).alloc (.map #[] 0)).heap.size=w.heap.size+2:=by simp
 have C:A5 (((w.alloc (.map #[] 0)).alloc (.map #[] 0)).alloc (.cells #[.int .i64 0,.int .i64 (-1),.slice none 0 0,.int .i64 room,.slice none 0 0,.map (some w.heap.size),.map (some (w.heap.size+1)),.slice none 0 0] 63)) w.heap.size [] :=
  ((World.ownsMap_made w _ _ _).alloc _).alloc _
 have B:A5 (((w.alloc (.map #[] 0)).alloc (.map #[] 0)).alloc (.cells #[.int .i64 0,.int .i64 (-1),.slice none 0 0,.int .i64 room,.slice none 0 0,.map (some w.heap.size),.map (some (w.heap.size+1)),.slice none 0 0] 63)) (w.heap.size+1) []:=by
  have:=(World.ownsMap_made (w.alloc (.map #[] 0)) Tryz.prog 9 (plainElem (H:=Unit) Tryz.prog 3)).alloc (.cells #[.int .i64 0,.int .i64 (-1),.slice none 0 0,.int .i64 room,.slice none 0 0,.map (some w.heap.size),.map (some (w.heap.size+1)),.slice none 0 0] 63);rw[o]at this;exact this
 refine⟨⟨?_,by simp[EN],by omega,⟨by simp[Fs.new],by simp[Fs.new]⟩,⟨none,0,rfl,Nat.le_refl _,λi z h=>by simp[Fs.new]at h⟩,World.ownsRow_nil _ _ _ _,λk h=>by simp[Value.ownBlock]at h,rfl,rfl,λi f b d h=>by simp[Fs.new]at h,
  C,by simp[EN],B,by simp[EN],⟨[],World.ownsRow_nil _ _ _ _,λk h=>by simp[Value.ownBlock]at h,λi x y h=>by simp at h⟩,λp h=>by simp[Fs.new]at h,⟨by simp,by simp⟩⟩,λk hk=>?_,λk hk=>?_⟩
 ·have:=AK ((w.alloc (.map #[] 0)).alloc (.map #[] 0)) (.cells #[.int .i64 0,.int .i64 (-1),.slice none 0 0,.int .i64 room,.slice none 0 0,.map (some w.heap.size),.map (some (w.heap.size+1)),.slice none 0 0] 63);rw[A]at this;exact this
 ·simp at hk;unfold EN;rw[if_neg (by omega),if_neg (by omega),if_neg (by omega)]
 ·unfold EN;rw[if_neg (by omega),if_neg (by omega),if_neg (by omega)]
theorem H6 (room:Int) (w:World) :
  Calls Tryz.prog 29 #[.int .i64 room] w λe w'=>Below w.heap.size w w' ∧
   (
    ((room<1∨1048576<room)∧e=.returned (.tuple #[.pointer none,.int .i64 1])) ∨
    (
     ¬(room<1∨1048576<room)∧e=.returned (.tuple #[.pointer (some ⟨w.heap.size+2,0,none⟩),.int .i64 0]) ∧
     ∃V,Aa w.heap.size (w.heap.size+2) (Fs.new room) V (EN w.heap.size) w')):=by
 have A:=@run_makeMap Tryz.prog;by_cases hr:room<1∨1048576<room
 ·rcases hr with h|h
  ·go_enter Tryz.func29,Tryz.ntmps29;go_wp2;refine bodyPost_ret (v:=.tuple #[.pointer none,.int .i64 1]) (by simp[results,Tryz.results29,go_sem]) rfl ?_;exact⟨Below.refl _ _,.inl ⟨.inl h,rfl⟩⟩
  ·have o:1≤room:=by omega
   go_enter Tryz.func29,Tryz.ntmps29;go_wp2;refine bodyPost_ret (v:=.tuple #[.pointer none,.int .i64 1]) (by simp[results,Tryz.results29,go_sem]) rfl ?_;exact⟨Below.refl _ _,.inl ⟨.inr h,rfl⟩⟩
 ·have o:1≤room:=by omega
  have B:room≤1048576:=by omega
  go_enter Tryz.func29,Tryz.ntmps29;go_wp2;refine bodyPost_ret (v:=.tuple #[.pointer (some ⟨w.heap.size+2,0,none⟩),.int .i64 0]) (by simp[results,Tryz.results29,go_sem]) rfl ?_;exact⟨((((Below.refl _ _).alloc (Nat.le_refl _) _).alloc (by simp) _).alloc (by simp;omega) _),.inr ⟨hr,rfl,_,JM room w⟩⟩
theorem CI.file1 {base B:Nat} {st:Fs.St} {V:FsV} {own:Nat→Tag} {w w':World} (h:CI base B st V own w) {i b:Nat} {f f':List UInt8×Nat} {d d':Value} (hf:st.files[i]?=some f) (hb:V.fb[i]?=some b)
  (hd:V.dv[i]?=some d) (hk:Kept own (λt=>t=.file i∨t=.data i) w w') (hF:CY w' base own i f' b d') :
  CI base B { st with files:=st.files.set i f' } { V with dv:=V.dv.set i d' } own w' where
 root:=by rw[hk.block B (AC h.root) (by rw[h.tB];simp)];exact h.root
 tB:=h.tB
 lo:=h.lo
 left:=h.left
 plan:=h.plan.kept hk (by simp)
 files:=by
  rw[List.length_set];exact AN h.files (λg hg=>hk.block g (AY h.files g hg).2 (by rw[h.tfiles g hg];simp))
 tfiles:=h.tfiles
 nfb:=by rw[List.length_set];exact h.nfb
 ndv:=by rw[List.length_set,List.length_set];exact h.ndv
 file:=λj g c x h1 h2 h3=>by
  by_cases hij:i=j
  ·subst hij;have o:i<st.files.length:=(List.getElem?_eq_some_iff.1 hf).1;have A:i<V.dv.length:=(List.getElem?_eq_some_iff.1 hd).1;simp only[List.getElem?_set_self o,List.getElem?_set_self A,Option.some.injEq]at h1 h3;subst h1 h3;rw[hb]at h2;simp only[Option.some.injEq]at h2;subst h2;exact hF
  ·simp only[List.getElem?_set_ne hij]at h1 h3;exact (h.file j g c x h1 h2 h3).kept hk (by simp;omega) (by simp;omega)
 dir:=h.dir.heap (hk.block _ h.dir.lt (by rw[h.tdir];simp))
 tdir:=h.tdir
 sure:=h.sure.heap (hk.block _ h.sure.lt (by rw[h.tsure];simp))
 tsure:=h.tsure
 chg:=h.chg.kept hk (by simp) (by simp)
 known:=λp hp=>by rw[List.length_set];exact h.known p hp
 bl:=h.bl
def AQ (base B:Nat) (st':Fs.St) (own:Nat→Tag) (w w':World):Prop :=
 ∃V' own',Aa base B st' V' own' w'∧(∀k,k<w.heap.size→own' k=own k)∧Kept own (·≠.other) w w'
theorem Aa.kept {base B:Nat} {st:Fs.St} {V:FsV} {own:Nat→Tag} {w w':World} (h:Aa base B st V own w) (hk:Kept own (·=.other) w w'):Aa base B st V own w' :=
 ⟨h.at_.kept hk,λk hk2=>h.fresh k (QQ hk.size hk2),h.old⟩
theorem AB {own:Nat→Tag} {T:Tag→Prop} {w w':World} (hb:Below w.heap.size w w'):Kept own T w w':=(Kept.refl own T w).below hb
theorem F2 (base B:Nat) (st:Fs.St) (V:FsV) (own:Nat→Tag) (s:ByteArray) (w:World) (h:Aa base B st V own w) (hs:s.size≤1000000) :
  Calls Tryz.prog 65 #[.pointer (some ⟨B,0,none⟩),.string s] w λe w'=>e=.returned (.int .i64 (Fs.sync st s.data.toList).2)∧AQ base B (Fs.sync st s.data.toList).1 own w w':=by
 have H:=QA h;clear h;go_enter Tryz.func65,Tryz.ntmps65;go_wp2_with fail;refine (C3 base B st V own s w H.out.at_ hs).mono ?_;rintro e w1 ⟨hb1,hres⟩;have G:=QA (H.out.kept (AB hb1));rcases hres with⟨h0,f,b,d,hf,hb,hd,rfl⟩|⟨h0,rfl⟩
 ·go_wp2_with fail;refine (BV base B st V own w1 G.out.at_).mono ?_;rintro e w2 ⟨pv,rfl,h2,hk2⟩;have A:Kept own (·≠.other) w w2:=(AB hb1).trans (hk2.mono (λt ht=>by rw[ht];simp));have C:∀k,w2.heap.size≤k→own k=.other:=λk hk=>G.out.fresh k (QQ hk2.size hk)
  by_cases hc:(Fs.step st).2.2=0
  ·have E:Hid (Fs.sync st s.data.toList=({ (Fs.step st).1 with files:=Fs.flush st.files (Fs.idx st s.data.toList) },0)):=by
    unfold Fs.sync;rw[if_neg (by simp[h0]),if_neg (by simp[hc])];exact QA rfl
   have I:((Fs.step st).2.2==0)=true:=by rw[hc];rfl
   have o:=QA (h2.file (Fs.idx st s.data.toList) f b d (by rw[Fs.step_files];exact hf) hb hd);have N:w2.cell? ⟨b,0,none⟩=some d:=AA o.out.blk 0 _ rfl;have P:=AE o.out.blk 1;obtain⟨Q,O,J⟩:∃a c,d=.slice a f.1.length c:=by
    rcases o.out.row.2 with⟨e1,e2⟩|⟨g,cap,cur,e1,_⟩
    ·exact⟨none,0,by rw[e1,e2]⟩
    ·exact⟨_,_,e1⟩
   rw[J]at N;have R:w2.cell? ⟨b,1,none⟩=some (.int .i64 f.2):=AA o.out.blk 1 _ rfl;have M:=QA hc;have L:Hid (Fs.flush st.files (Fs.idx st s.data.toList)=(Fs.step st).1.files.set (Fs.idx st s.data.toList) (f.1,f.1.length)):=by
    unfold Fs.flush;rw[hf,Fs.step_files];exact QA rfl
   have D:∀v,Kept own (λt=>t=.file (Fs.idx st s.data.toList)∨t=.data (Fs.idx st s.data.toList)) w2 (w2.setCell ⟨b,1,none⟩ v):=λv=>(Kept.refl _ _ _).setCell ⟨b,1,none⟩ (.inl o.out.tag) v
   have F:=QA (h2.file1 (f':=(f.1,f.1.length)) (d':=d) (by rw[Fs.step_files];exact hf) hb hd (D (.int .i64 (f.1.length:Nat)))
    ⟨heap_set o.out.blk _,o.out.tag,AN o.out.row (λg hg=>Below.heap_setCell _ _ _ _ (λe=>by
     have K:=o.out.tagD g hg;rw[e]at K;rw[o.out.tag]at K;cases K)),o.out.tagD⟩)
   clear hc;go_wp2;go_ret;rw[E.out,L.out];exact⟨congrArg (λx=>Ending.returned (.int .i64 x)) M.out,_,own,⟨F.out,λk hk=>C k (QQ (D (.int .i64 (f.1.length:Nat))).size hk),G.out.old⟩,λ_ _=>rfl,A.trans ((D _).mono (λt ht=>by rcases ht with rfl|rfl<;>simp))⟩
  ·have E:Hid (Fs.sync st s.data.toList=((Fs.step st).1,(Fs.step st).2.2)):=by
    unfold Fs.sync;rw[if_neg (by simp[h0]),if_pos hc];exact QA rfl
   have I:((Fs.step st).2.2==0)=false:=by rw[beq_eq_false_iff_ne];exact hc
   go_wp2;go_ret;rw[E.out];exact⟨rfl,_,own,⟨h2,C,G.out.old⟩,λ_ _=>rfl,A⟩
 ·have E:Hid (Fs.sync st s.data.toList=(st,Fs.openE st s.data.toList)):=by unfold Fs.sync;rw[if_pos h0];exact QA rfl
  have I:(Fs.openE st s.data.toList != 0)=true:=by rw[bne_iff_ne];exact h0
  go_wp2;go_ret;rw[E.out];exact⟨rfl,V,own,G.out,λ_ _=>rfl,AB hb1⟩
open Go.Maps Go.WideMaps
def Da (own:Nat→Tag) (n:Nat) (t:Tag):Nat→Tag:=λk=>if k=n then t else own k
theorem BI {own:Nat→Tag} {n:Nat} {t:Tag} {k:Nat} (h:k<n):Da own n t k=own k:=if_neg (by omega)
theorem B8 {own:Nat→Tag} {n:Nat} {t:Tag}:Da own n t n=t:=if_pos rfl
theorem CI.synced {base B:Nat} {st:Fs.St} {V:FsV} {own:Nat→Tag} {w w3:World} (h:CI base B st V own w) (hb:Below w.heap.size w w3) (hm:A5 w3 w.heap.size st.dir) (hbase:base≤w.heap.size) :
  CI base B { st with sure:=st.dir,changes:=[] } { V with ms:=w.heap.size,cv:=.slice none 0 0 } (Da own w.heap.size .sure)
   ((w3.setCell ⟨B,6,none⟩ (.map (some w.heap.size))).setCell ⟨B,7,none⟩ (.slice none 0 0)):=by
 have A:∀k,k<w.heap.size→Da own w.heap.size .sure k=own k:=λk o=>BI o
 have F:=AC h.root;have o:Kept own (·=.root) w ((w3.setCell ⟨B,6,none⟩ (.map (some w.heap.size))).setCell ⟨B,7,none⟩ (.slice none 0 0)) :=
  ((AB hb).setCell ⟨B,6,none⟩ h.tB _).setCell ⟨B,7,none⟩ h.tB _
 have C:=o.tags A;have E:w3.heap[B]?=some (.cells (BE st V) 63 (0,0)):=by rw[hb.block B F];exact h.root
 refine⟨heap_set (heap_set E _) _,(A B F).trans h.tB,h.lo,h.left,(h.plan.tags (λk o _=>A k o)).kept C (by simp),AN h.files (λg hg=>o.block g (AY h.files g hg).2 (by rw[h.tfiles g hg];simp)),λk hk3=>(A k (AY h.files k hk3).2).trans (h.tfiles k hk3),h.nfb,h.ndv,
  λi f b d h1 h2 h3=>((h.file i f b d h1 h2 h3).tags (λk o _=>A k o)).kept C (by simp) (by simp),h.dir.heap (o.block _ h.dir.lt (by rw[h.tdir];simp)),(A _ h.dir.lt).trans h.tdir,?_,B8,?_,h.known,⟨h.bl.1,hbase⟩⟩
 ·refine hm.heap ?_;have D:w.heap.size≠B:=by omega
  rw[Below.heap_setCell _ _ _ _ D,Below.heap_setCell _ _ _ _ D]
 ·exact⟨[],World.ownsRow_nil _ _ _ _,λk h=>by simp[Value.ownBlock]at h,λi x y h=>by simp at h⟩
theorem CX (base B:Nat) (st:Fs.St) (V:FsV) (own:Nat→Tag) (w:World) (h:Aa base B st V own w) :
  Calls Tryz.prog 70 #[.pointer (some ⟨B,0,none⟩)] w λe w'=>e=.returned (.int .i64 (Fs.syncDir st).2)∧AQ base B (Fs.syncDir st).1 own w w':=by
 have H:=QA h;clear h;go_enter Tryz.func70,Tryz.ntmps70;go_wp2_with fail;refine (BV base B st V own w H.out.at_).mono ?_;rintro e w2 ⟨pv,rfl,h2,hk2⟩;have A:Kept own (·≠.other) w w2:=hk2.mono (λt ht=>by rw[ht];simp);have C:∀k,w2.heap.size≤k→own k=.other:=λk hk=>H.out.fresh k (QQ hk2.size hk)
 by_cases hc:(Fs.step st).2.2=0
 ·have J:Hid (Fs.syncDir st=({ (Fs.step st).1 with sure:=st.dir,changes:=[] },0)):=by unfold Fs.syncDir;rw[if_neg (by simp[hc])];exact QA rfl
  have K:((Fs.step st).2.2==0)=true:=by rw[hc];rfl
  have P:=QA hc;have D:=h2.dir;have G:(Fs.step st).1.dir=st.dir:=Fs.step_dir st;have F:=AC h2.root;have N:=h2.lo;have W:w2.cell? ⟨B,5,none⟩=some (.map (some V.md)):=AA h2.root 5 _ rfl;have O:=QA D;have M:=QA G;have I:=QA h2;clear hc D G h2;go_wp2_with fail;refine (Kp V.md _ w2 O.out).mono ?_;rintro e w3 ⟨rfl,hm3,hb3⟩;have E:w3.heap[B]?=w2.heap[B]?:=hb3.block B F;have o:=E.trans I.out.root;have U:w3.cell? ⟨B,6,none⟩=some (.map (some V.ms)):=AA o 6 _ rfl;have S:w3.cell? ⟨B,7,none⟩=some V.cv:=AA o 7 _ rfl;have X:=AE o 6;have T:=AE o 7;have Q:=QA (I.out.synced hb3 hm3 (by omega));have L:Kept own (·≠.other) w2 ((w3.setCell ⟨B,6,none⟩ (.map (some w2.heap.size))).setCell ⟨B,7,none⟩ (.slice none 0 0)) :=
   ((AB hb3).setCell ⟨B,6,none⟩ (by rw[I.out.tB];simp) _).setCell ⟨B,7,none⟩ (by rw[I.out.tB];simp) _
  have R:w2.heap.size<w3.heap.size:=hm3.lt;clear E o hm3;go_wp2;go_ret;rw[J.out,← M.out];refine⟨congrArg (λx=>Ending.returned (.int .i64 x)) P.out,_,_,⟨Q.out,λk hk=>?_,λk hk=>?_⟩,λk hk=>BI (Nat.lt_of_lt_of_le hk A.size),A.trans L⟩
  ·simp[World.setCell]at hk;unfold Da;rw[if_neg (by omega)];exact C k (by omega)
  ·rw[BI (by omega)];exact H.out.old k hk
 ·have J:Hid (Fs.syncDir st=((Fs.step st).1,(Fs.step st).2.2)):=by unfold Fs.syncDir;rw[if_pos hc];exact QA rfl
  have K:((Fs.step st).2.2==0)=false:=by rw[beq_eq_false_iff_ne];exact hc
  go_wp2;go_ret;rw[J.out];exact⟨rfl,_,own,⟨h2,C,H.out.old⟩,λ_ _=>rfl,A⟩
def Jf (st:Fs.St) (n:List UInt8) (w:World) (e:Ending) (w':World):Prop :=
 Below w.heap.size w w' ∧
 (
  (Fs.openE st n=0∧∃f v,st.files[Fs.idx st n]?=some f∧e=.returned (.tuple #[v,.int .i64 0])∧Ag w' w.heap.size v f.1) ∨
  (Fs.openE st n≠0∧e=.returned (.tuple #[.slice none 0 0,.int .i64 (Fs.openE st n)])))
theorem Ag.mono {w:World} {base base':Nat} {v:Value} {l:List UInt8} (h:Ag w base v l) (hb:base'≤base):Ag w base' v l:=by
 refine⟨h.1,?_⟩;rcases h.2 with h2|⟨g,cap,cur,hv,hg,r⟩
 ·exact .inl h2
 ·exact .inr ⟨g,cap,cur,hv,QQ hb hg,r⟩
theorem DI (base B:Nat) (st:Fs.St) (V:FsV) (own:Nat→Tag) (s:ByteArray) (w:World) (h:Aa base B st V own w) (hs:s.size≤1000000) (hlen:∀f∈st.files,f.1.length≤1000000000) :
  Calls Tryz.prog 35 #[.pointer (some ⟨B,0,none⟩),.string s] w (Jf st s.data.toList w):=by
 have H:=QA h;clear h;go_enter Tryz.func35,Tryz.ntmps35;go_wp2_with fail;refine (C3 base B st V own s w H.out.at_ hs).mono ?_;rintro e w1 ⟨hb1,hres⟩;have C:=QA (H.out.kept (AB hb1));rcases hres with⟨h0,f,b,d,hf,hb,hd,rfl⟩|⟨h0,rfl⟩
 ·have A:=QA (C.out.at_.file (Fs.idx st s.data.toList) f b d hf hb hd);have E:w1.cell? ⟨b,0,none⟩=some d:=AA A.out.blk 0 _ rfl;have o:=hlen f (QZ hf);go_wp2_with fail;refine (LA base d f.1 w1 A.out.row o).mono ?_;rintro e w2 ⟨v',rfl,ho,hb2⟩;go_wp2;refine bodyPost_ret (v:=.tuple #[v',.int .i64 0]) (by simp[results,Tryz.results35,go_sem]) rfl ?_;exact⟨hb1.trans (hb2.mono hb1.size),.inl ⟨h0,f,v',hf,rfl,ho.mono hb1.size⟩⟩
 ·have D:(Fs.openE st s.data.toList != 0)=true:=by rw[bne_iff_ne];exact h0
  go_wp2;refine bodyPost_ret (v:=.tuple #[.slice none 0 0,.int .i64 (Fs.openE st s.data.toList)]) (by simp[results,Tryz.results35,go_sem]) rfl ?_;exact⟨hb1,.inr ⟨h0,rfl⟩⟩
open Go.Maps Go.WideMaps
namespace Fs
def doOne (d:Names) (c:List UInt8×Int):Names:=if c.2<0 then mdel d c.1 else mput d c.1 c.2
def doAll (d:Names) (l:Names):Names:=l.foldl doOne d
theorem EP (x:List UInt8×Int):∀l:Names,(mins x l).length=l.length+1
 | []=>rfl
 | y::r=>by
  unfold mins;split
  ·simp
  ·simp[EP x r]
theorem mdel_len (l:Names) (k:List UInt8):(mdel l k).length≤l.length:=List.length_filter_le _ _
theorem F1 (l:Names) (k:List UInt8) (v:Int):(mput l k v).length≤l.length+1:=by
 unfold mput;rw[EP];have:=mdel_len l k;omega
theorem IE (d:Names) (c:List UInt8×Int):(doOne d c).length≤d.length+1:=by
 unfold doOne;split
 ·have:=mdel_len d c.1;omega
 ·exact F1 _ _ _
theorem doAll_len:∀(l d:Names),(doAll d l).length≤d.length+l.length
 | [],d=>Nat.le_refl _
 | c::l,d=>by
  have o:=doAll_len l (doOne d c);have A:=IE d c;unfold doAll at o ⊢;rw[List.foldl_cons,List.length_cons];omega
end Fs
def Gg (w:World) (v:Value) (l:Fs.Names):Prop :=
 ∃b cap,v=.slice (some ⟨b,0,none⟩) l.length cap∧b<w.heap.size∧∀(i:Nat) p,l[i]?=some p→w.cell? ⟨b,i*2,none⟩=some (.string ⟨p.1.toArray⟩)∧w.cell? ⟨b,i*2+1,none⟩=some (.int .i64 p.2)
theorem But.grown {X:Nat→Prop} {a w w':World} {r:Option Nat} (h:But X a w) (hg:w.grownBy w' r) (hr:∀k,r=some k→X k):But X a w' :=
 ⟨hg.os.trans h.os,hg.tape.trans h.tape,hg.output.trans h.output,QQ h.size hg.size,λk hk hx=>by
  rw[hg.block k (Nat.lt_of_lt_of_le hk h.size) (λe=>hx (hr k e.symm))];exact h.block k hk hx⟩
theorem Kv (md:Nat) (d l:Fs.Names) (v:Value) (w:World) (hM:A5 w md d) (hC:Gg w v l) (hne:∀b n c,v=.slice (some b) n c→b.block≠md) (hl:∀c∈l,c.1.length≤1000000∧-9223372036854775808≤c.2∧c.2≤9223372036854775807)
  (hn:d.length+l.length≤1000000) :
  Calls Tryz.prog 116 #[.map (some md),v] w λe w'=>e=.returned (.tuple #[])∧A5 w' md (Fs.doAll d l)∧But (λk=>k=md) w w':=by
 obtain⟨g,cap,rfl,O,L⟩:=hC;have G:g≠md:=hne _ _ _ rfl;go_enter Tryz.func116,Tryz.ntmps116;go_wp2
 go_loopg [8] l.length (λk s8 wr=>∃j:Nat,j≤l.length∧k=l.length-j∧s8=.int .i64 (j:Nat)∧A5 wr md (Fs.doAll d (l.take j))∧But (λk=>k=md) w wr)
 case atStart=>exact⟨0,Nat.zero_le _,rfl,rfl,hM,But.refl _ _⟩
 case round =>
  obtain⟨j,hj,P,rfl,o,F⟩:=hrel;have M:=QA P;clear P;have X:(0:Int)≤(j:Int):=Int.natCast_nonneg _;by_cases hjn:j<l.length
  ·have D:(j:Int)<(l.length:Int):=by omega
   obtain⟨p,H⟩:∃p,l[j]?=some p:=⟨_,ZG hjn⟩
   obtain⟨N,Q⟩:=L j p H;have Z:wr.cell? ⟨g,j*2,none⟩=some (.string ⟨p.1.toArray⟩):=by rw[F.cell O G];exact N
   have c1:wr.cell? ⟨g,j*2+1,none⟩=some (.int .i64 p.2):=by rw[F.cell O G];exact Q
   obtain⟨Y,T,W⟩:=hl p (QZ H);have C:Hid (Fs.doAll d (l.take (j+1))=Fs.doOne (Fs.doAll d (l.take j)) p):=by
    unfold Fs.doAll;rw[List.take_add_one,H,List.foldl_append];exact QA rfl
   have R:(Fs.doAll d (l.take j)).length≤1000000:=by
    have:=Fs.doAll_len (l.take j) d;rw[List.length_take]at this;omega
   have A:=keyOf_string_mk Tryz.underlying9 (s:=⟨p.1.toArray⟩) (show p.1.length≤maxLen by unfold maxLen;omega);have E:=QA (World.ownsMap.alloc o (.cells #[.string ⟨p.1.toArray⟩,.int .i64 p.2] 168));have B:=QA (F.alloc (.cells #[.string ⟨p.1.toArray⟩,.int .i64 p.2] 168));have U:Hid ((Lit.int .i64 p.2).wf=true):=by
    refine QA ?_;have V:IntKind.i64.min=-9223372036854775808:=by decide
    have S:IntKind.i64.max=9223372036854775807:=by decide
    simp[Lit.wf,V,S];omega
   clear N Q H o F;by_cases hneg:p.2<0
   ·have K:Hid (Fs.doOne (Fs.doAll d (l.take j)) p=Fs.mdel (Fs.doAll d (l.take j)) p.1):=by unfold Fs.doOne;rw[if_pos hneg];exact QA rfl
    go_wp2_with (first|(at_delete;refine wpList_delete_own _ rfl _ _ 60 9 rfl 3 Ar Tryz.underlying60 _ md _ _ rfl E.out _ _ rfl A ?_;intro w3 hown3 hturn3)|fail);go_roundg (l.length-(j+1))
    case measure=>rw[M.out];omega
    case rel =>
     refine⟨j+1,hjn,rfl,by simp,?_,B.out.grown hturn3.grown (λk h=>by simpa using h.symm)⟩;rw[C.out,K.out];rw[Fs.datum_del]at hown3;exact A5.of hown3
   ·have I:0≤p.2:=by omega
    have K:Hid (Fs.doOne (Fs.doAll d (l.take j)) p=Fs.mput (Fs.doAll d (l.take j)) p.1 p.2):=by unfold Fs.doOne;rw[if_neg hneg];exact QA rfl
    go_wp2_with (first|(at_mapUpdate;refine wpList_mapUpdate_own _ rfl _ _ _ 60 rfl 9 3 Ar Tryz.underlying60 _ md _ _ rfl E.out (by unfold maxLen;omega) _ _ _ rfl rfl A _ [] (plainElem_int Tryz.underlying3 U.out) ?_;intro w3 hown3 hgrow3)|fail);go_roundg (l.length-(j+1))
    case measure=>rw[M.out];omega
    case rel =>
     refine⟨j+1,hjn,rfl,by simp,?_,B.out.grown hgrow3 (λk h=>by simpa using h.symm)⟩;rw[C.out,K.out];rw[Fs.datum_put]at hown3;exact A5.of hown3
  ·have D:(l.length:Int)≤(j:Int):=by omega
   have J:l.take j=l:=List.take_of_length_le (by omega);rw[J]at o;go_wp2;go_end0;exact⟨rfl,o,F⟩
end Go.Proofs.YtjldahcckmmenaaGreatDoor
