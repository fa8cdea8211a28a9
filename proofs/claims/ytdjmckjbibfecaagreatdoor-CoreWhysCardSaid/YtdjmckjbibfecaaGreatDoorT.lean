import Derived.Shelf.Strings.Builder1
import Derived.Shelf.Strings.Builder2
import Derived.Shelf.Small.Bits
import Derived.Shelf.Small.Wraps
import Derived.Shelf.Strings.BuilderF
import Derived.Shelf.Strings.BuilderK
import Derived.Shelf.Strconv.Itoa0
import Derived.Shelf.Strconv.Itoa1
import Derived.Shelf.LaysM
import Derived.Shelf.Strconv.Itoa2
import Derived.Shelf.Strconv.Itoa3
import Derived.Shelf.Strconv.Itoa4
import Derived.Shelf.Strconv.ParseIntEmpty
import Derived.Shelf.Strconv.Clone
import Derived.Shelf.Strconv.SyntaxError
import Derived.Shelf.LaysC
import Derived.Shelf.Strconv.ToError
import Derived.Shelf.Strconv.Lower
import Derived.Shelf.Strconv.ParseUint10
import Derived.Shelf.Strconv.ParseUint10Empty
import Derived.Shelf.Strconv.ParseUint10Any
import Derived.Shelf.Strconv.ParseInt10
import Derived.Shelf.Strconv.RangeError
import Derived.Shelf.Strconv.ToErrorRange
import Derived.Shelf.Strconv.ParseUintEmpty
import Derived.Shelf.Strconv.ParseUint10b64
import Derived.Shelf.Strconv.ParseUint10b32
import Derived.Shelf.Strconv.ParseUint10b16
import Derived.Shelf.Strconv.ParseUint10b8
import Derived.Shelf.Strconv.ParseUint10At
import Derived.Shelf.Strconv.ParseInt10At64
import Derived.Shelf.Strconv.ParseInt10At32
import Derived.Shelf.Strconv.ParseInt10At16
import Derived.Shelf.Strconv.ParseInt10At8
import Derived.Shelf.Strconv.ParseInt10All
import Derived.Shelf.Strconv.ParseIntPublic10
import Derived.Shelf.Strconv.ErrVarParseInt
import Derived.Shelf.Strings.Search1
import Derived.Shelf.Strings.Search2
import Derived.Shelf.Strings.Search3
import Derived.Shelf.Strings.Shaped
import Derived.Ground.Names2Prog
import Derived.Shelf.Slices.SearchI
import Derived.Ground.SlsfProg
import Derived.Shelf.SlSortCmp.Insertion
import Derived.Shelf.SlSortCmp.SiftDown1
import Derived.Shelf.SlSortCmp.HeapSort1
import Derived.Shelf.SlSortCmp.Insertion1
import Derived.Shelf.SlSortCmp.Median1
import Derived.Shelf.SlSortCmp.Pivot1
import Derived.Shelf.SlSortCmp.ReverseRange1
import Derived.Shelf.SlSortCmp.PartitionEqual1
import Derived.Shelf.SlSortCmp.Partition1
import Derived.Test.YtdjmckjbibfecaaGreatDoorProg
import Derived.IntWalk
import Derived.Deep.QuietTactic
import Derived.BigQuiet
import Derived.Deep.Draws
import Derived.Test.YtdjmckjbibfecaaGreatDoorG
namespace Go.Proofs
open Go.Shelf
def Tryz.lays122_ren:Go.Shelf.Ren:=⟨fun | 122=>41 | 215=>90 | n=>n,fun | 3=>3 | 4=>4 | n=>n,fun | n=>n⟩
theorem Tryz.lays122:Go.Proofs.Lays.n122 Tryz.prog Tryz.lays122_ren:={
 mixed:=by kernel_rfl
 f122:=Tryz.func41.trans (congrArg some (by kernel_rfl))
 f215:=Tryz.func90.trans (congrArg some (by kernel_rfl))
 t3:=Tryz.underlying3
 a3:=Tryz.isAgg3
 z3:=Tryz.sizeOf3
 v3:=Tryz.zeroValue3
 t4:=Tryz.underlying4
 a4:=Tryz.isAgg4
 z4:=Tryz.sizeOf4
 v4:=Tryz.zeroValue4 }
open Go.RowKit in
theorem Tryz.cmp_Compare_int (x y:Int) (w:World) :
  Calls Tryz.prog 41 #[.int .i64 x,.int .i64 y] w fun e w'=>e=.returned (.int .i64 (Lib.compareInt x y))/\w'=w:=Any.cmp_Compare_int Tryz.lays122 x y w
def Tryz.laysM246_ren:Go.Shelf.Ren:=⟨fun | 246=>196 | 283=>218 | 284=>219 | 285=>220 | 286=>221 | 129=>147 | 317=>238 | 318=>239 | 319=>240 | 320=>241 | 337=>252 | 338=>253 | n=>n,fun | 2=>2 | 3=>3 | 9=>9 | 4=>4 | 171=>223 | 0=>0 | 53=>132 | 37=>33 | 5=>5 | 173=>225 | 212=>244 | 51=>130 | 20=>20 | 213=>245 | 46=>38 | 232=>257 | 233=>258 | n=>n,fun | 17=>8 | 18=>9 | 19=>10 | n=>n⟩
theorem Tryz.laysM246:Go.Proofs.LaysM.n246 Tryz.prog Tryz.laysM246_ren:={
 mixed:=by kernel_rfl
 f129:=Tryz.func147.trans (congrArg some (by kernel_rfl))
 f246:=Tryz.func196.trans (congrArg some (by kernel_rfl))
 f283:=Tryz.func218.trans (congrArg some (by kernel_rfl))
 f284:=Tryz.func219.trans (congrArg some (by kernel_rfl))
 f285:=Tryz.func220.trans (congrArg some (by kernel_rfl))
 f286:=Tryz.func221.trans (congrArg some (by kernel_rfl))
 f317:=Tryz.func238.trans (congrArg some (by kernel_rfl))
 f318:=Tryz.func239.trans (congrArg some (by kernel_rfl))
 f319:=Tryz.func240.trans (congrArg some (by kernel_rfl))
 f320:=Tryz.func241.trans (congrArg some (by kernel_rfl))
 f337:=Tryz.func252.trans (congrArg some (by kernel_rfl))
 f338:=Tryz.func253.trans (congrArg some (by kernel_rfl))
 t0:=Tryz.underlying0
 a0:=Tryz.isAgg0
 z0:=Tryz.sizeOf0
 v0:=Tryz.zeroValue0
 t2:=Tryz.underlying2
 a2:=Tryz.isAgg2
 z2:=Tryz.sizeOf2
 v2:=Tryz.zeroValue2
 t3:=Tryz.underlying3
 a3:=Tryz.isAgg3
 z3:=Tryz.sizeOf3
 v3:=Tryz.zeroValue3
 t4:=Tryz.underlying4
 a4:=Tryz.isAgg4
 z4:=Tryz.sizeOf4
 v4:=Tryz.zeroValue4
 t5:=Tryz.underlying5
 a5:=Tryz.isAgg5
 z5:=Tryz.sizeOf5
 v5:=Tryz.zeroValue5
 t9:=Tryz.underlying9
 a9:=Tryz.isAgg9
 z9:=Tryz.sizeOf9
 v9:=Tryz.zeroValue9
 t20:=Tryz.underlying20
 a20:=Tryz.isAgg20
 z20:=Tryz.sizeOf20
 v20:=Tryz.zeroValue20
 t37:=Tryz.underlying33
 a37:=Tryz.isAgg33
 z37:=Tryz.sizeOf33
 v37:=Tryz.zeroValue33
 t46:=Tryz.underlying38
 a46:=Tryz.isAgg38
 z46:=Tryz.sizeOf38
 v46:=Tryz.zeroValue38
 t51:=Tryz.underlying130
 a51:=Tryz.isAgg130
 z51:=Tryz.sizeOf130
 v51:=Tryz.zeroValue130
 t53:=Tryz.underlying132
 a53:=Tryz.isAgg132
 z53:=Tryz.sizeOf132
 v53:=Tryz.zeroValue132
 t171:=Tryz.underlying223
 a171:=Tryz.isAgg223
 z171:=Tryz.sizeOf223
 v171:=Tryz.zeroValue223
 t173:=Tryz.underlying225
 a173:=Tryz.isAgg225
 z173:=Tryz.sizeOf225
 v173:=Tryz.zeroValue225
 t212:=Tryz.underlying244
 a212:=Tryz.isAgg244
 z212:=Tryz.sizeOf244
 v212:=Tryz.zeroValue244
 t213:=Tryz.underlying245
 a213:=Tryz.isAgg245
 z213:=Tryz.sizeOf245
 t232:=Tryz.underlying257
 a232:=Tryz.isAgg257
 z232:=Tryz.sizeOf257
 v232:=Tryz.zeroValue257
 t233:=Tryz.underlying258
 a233:=Tryz.isAgg258
 z233:=Tryz.sizeOf258
 v233:=Tryz.zeroValue258
 g17:=by kernel_rfl
 g18:=by kernel_rfl
 g19:=by kernel_rfl
 i0:=by kernel_rfl
 i2:=by kernel_rfl
 i3:=by kernel_rfl
 i4:=by kernel_rfl
 i5:=by kernel_rfl
 i9:=by kernel_rfl
 i20:=by kernel_rfl
 i37:=by kernel_rfl
 i46:=by kernel_rfl
 i51:=by kernel_rfl
 i53:=by kernel_rfl
 i171:=by kernel_rfl
 i173:=by kernel_rfl
 i212:=by kernel_rfl
 i232:=by kernel_rfl
 i233:=by kernel_rfl
 m17:=by kernel_rfl
 m18:=by kernel_rfl
 m19:=by kernel_rfl }
open Go.RowKit Go.Sort Go.Lib in
theorem Tryz.internal_strconv_FormatInt_10 (n : Int) (h0 : -9223372036854775808 ≤ n) (h1 : n ≤ 9223372036854775807) (w : World) (htab : Lib.TabIs Tryz.prog w "internal/strconv.uint64pow10" .u64 Lib.pow10Tab) :
  Calls Tryz.prog 196 #[.int .i64 n,.int .i64 10] w fun e w'=>e=.returned (.string ⟨(Lib.itoa n).toArray⟩)/\∃k os,w'=grow (w.drewN k) os:=Any.internal_strconv_FormatInt_10 Tryz.laysM246 n h0 h1 w htab
def Tryz.laysC174_ren:Go.Shelf.Ren:=⟨fun | 174=>156 | 247=>194 | 245=>195 | 287=>213 | 279=>214 | 280=>215 | 281=>216 | 282=>217 | 321=>234 | 322=>235 | 316=>236 | 171=>129 | 205=>237 | 243=>176 | 246=>196 | 283=>218 | 284=>219 | 285=>220 | 286=>221 | 129=>147 | 317=>238 | 318=>239 | 319=>240 | 320=>241 | 337=>252 | 338=>253 | n=>n,fun | 9=>9 | 3=>3 | 2=>2 | 75=>117 | 85=>177 | 4=>4 | 167=>217 | 5=>5 | 53=>132 | 175=>218 | 46=>38 | 168=>220 | 37=>33 | 0=>0 | 210=>242 | 21=>21 | 127=>162 | 145=>253 | 143=>251 | 171=>223 | 173=>225 | 212=>244 | 51=>130 | 20=>20 | 213=>245 | 232=>257 | 233=>258 | 80=>123 | n=>n,fun | 15=>6 | 16=>7 | 17=>8 | 18=>9 | 19=>10 | n=>n⟩
theorem Tryz.laysC174:Go.Proofs.LaysC.n174 Tryz.prog Tryz.laysC174_ren:={
 mixed:=by kernel_rfl
 f129:=Tryz.func147.trans (congrArg some (by kernel_rfl))
 f171:=Tryz.func129.trans (congrArg some (by kernel_rfl))
 f174:=Tryz.func156.trans (congrArg some (by kernel_rfl))
 f205:=Tryz.func237.trans (congrArg some (by kernel_rfl))
 f243:=Tryz.func176.trans (congrArg some (by kernel_rfl))
 f245:=Tryz.func195.trans (congrArg some (by kernel_rfl))
 f246:=Tryz.func196.trans (congrArg some (by kernel_rfl))
 f247:=Tryz.func194.trans (congrArg some (by kernel_rfl))
 f279:=Tryz.func214.trans (congrArg some (by kernel_rfl))
 f280:=Tryz.func215.trans (congrArg some (by kernel_rfl))
 f281:=Tryz.func216.trans (congrArg some (by kernel_rfl))
 f282:=Tryz.func217.trans (congrArg some (by kernel_rfl))
 f283:=Tryz.func218.trans (congrArg some (by kernel_rfl))
 f284:=Tryz.func219.trans (congrArg some (by kernel_rfl))
 f285:=Tryz.func220.trans (congrArg some (by kernel_rfl))
 f286:=Tryz.func221.trans (congrArg some (by kernel_rfl))
 f287:=Tryz.func213.trans (congrArg some (by kernel_rfl))
 f316:=Tryz.func236.trans (congrArg some (by kernel_rfl))
 f317:=Tryz.func238.trans (congrArg some (by kernel_rfl))
 f318:=Tryz.func239.trans (congrArg some (by kernel_rfl))
 f319:=Tryz.func240.trans (congrArg some (by kernel_rfl))
 f320:=Tryz.func241.trans (congrArg some (by kernel_rfl))
 f321:=Tryz.func234.trans (congrArg some (by kernel_rfl))
 f322:=Tryz.func235.trans (congrArg some (by kernel_rfl))
 f337:=Tryz.func252.trans (congrArg some (by kernel_rfl))
 f338:=Tryz.func253.trans (congrArg some (by kernel_rfl))
 t0:=Tryz.underlying0
 a0:=Tryz.isAgg0
 z0:=Tryz.sizeOf0
 v0:=Tryz.zeroValue0
 t2:=Tryz.underlying2
 a2:=Tryz.isAgg2
 z2:=Tryz.sizeOf2
 v2:=Tryz.zeroValue2
 t3:=Tryz.underlying3
 a3:=Tryz.isAgg3
 z3:=Tryz.sizeOf3
 v3:=Tryz.zeroValue3
 t4:=Tryz.underlying4
 a4:=Tryz.isAgg4
 z4:=Tryz.sizeOf4
 v4:=Tryz.zeroValue4
 t5:=Tryz.underlying5
 a5:=Tryz.isAgg5
 z5:=Tryz.sizeOf5
 v5:=Tryz.zeroValue5
 t9:=Tryz.underlying9
 a9:=Tryz.isAgg9
 z9:=Tryz.sizeOf9
 v9:=Tryz.zeroValue9
 t20:=Tryz.underlying20
 a20:=Tryz.isAgg20
 z20:=Tryz.sizeOf20
 v20:=Tryz.zeroValue20
 t21:=Tryz.underlying21
 a21:=Tryz.isAgg21
 z21:=Tryz.sizeOf21
 v21:=Tryz.zeroValue21
 t37:=Tryz.underlying33
 a37:=Tryz.isAgg33
 z37:=Tryz.sizeOf33
 v37:=Tryz.zeroValue33
 t46:=Tryz.underlying38
 a46:=Tryz.isAgg38
 z46:=Tryz.sizeOf38
 v46:=Tryz.zeroValue38
 t51:=Tryz.underlying130
 a51:=Tryz.isAgg130
 z51:=Tryz.sizeOf130
 v51:=Tryz.zeroValue130
 t53:=Tryz.underlying132
 a53:=Tryz.isAgg132
 z53:=Tryz.sizeOf132
 v53:=Tryz.zeroValue132
 t75:=Tryz.underlying117
 a75:=Tryz.isAgg117
 z75:=Tryz.sizeOf117
 v75:=Tryz.zeroValue117
 t85:=Tryz.underlying177
 a85:=Tryz.isAgg177
 z85:=Tryz.sizeOf177
 v85:=Tryz.zeroValue177
 t127:=Tryz.underlying162
 a127:=Tryz.isAgg162
 z127:=Tryz.sizeOf162
 v127:=Tryz.zeroValue162
 t143:=Tryz.underlying251
 a143:=Tryz.isAgg251
 z143:=Tryz.sizeOf251
 v143:=Tryz.zeroValue251
 t145:=Tryz.underlying253
 a145:=Tryz.isAgg253
 z145:=Tryz.sizeOf253
 v145:=Tryz.zeroValue253
 t167:=Tryz.underlying217
 a167:=Tryz.isAgg217
 z167:=Tryz.sizeOf217
 v167:=Tryz.zeroValue217
 t168:=Tryz.underlying220
 a168:=Tryz.isAgg220
 z168:=Tryz.sizeOf220
 v168:=Tryz.zeroValue220
 t171:=Tryz.underlying223
 a171:=Tryz.isAgg223
 z171:=Tryz.sizeOf223
 v171:=Tryz.zeroValue223
 t173:=Tryz.underlying225
 a173:=Tryz.isAgg225
 z173:=Tryz.sizeOf225
 v173:=Tryz.zeroValue225
 t175:=Tryz.underlying218
 a175:=Tryz.isAgg218
 z175:=Tryz.sizeOf218
 v175:=Tryz.zeroValue218
 t210:=Tryz.underlying242
 a210:=Tryz.isAgg242
 z210:=Tryz.sizeOf242
 v210:=Tryz.zeroValue242
 t212:=Tryz.underlying244
 a212:=Tryz.isAgg244
 z212:=Tryz.sizeOf244
 v212:=Tryz.zeroValue244
 t213:=Tryz.underlying245
 a213:=Tryz.isAgg245
 z213:=Tryz.sizeOf245
 t232:=Tryz.underlying257
 a232:=Tryz.isAgg257
 z232:=Tryz.sizeOf257
 v232:=Tryz.zeroValue257
 t233:=Tryz.underlying258
 a233:=Tryz.isAgg258
 z233:=Tryz.sizeOf258
 v233:=Tryz.zeroValue258
 g15:=by kernel_rfl
 g16:=by kernel_rfl
 g17:=by kernel_rfl
 g18:=by kernel_rfl
 g19:=by kernel_rfl
 t80:=Tryz.underlying123
 a80:=Tryz.isAgg123
 z80:=Tryz.sizeOf123
 v80:=Tryz.zeroValue123
 i0:=by kernel_rfl
 i2:=by kernel_rfl
 i3:=by kernel_rfl
 i4:=by kernel_rfl
 i5:=by kernel_rfl
 i9:=by kernel_rfl
 i20:=by kernel_rfl
 i21:=by kernel_rfl
 i37:=by kernel_rfl
 i46:=by kernel_rfl
 i51:=by kernel_rfl
 i53:=by kernel_rfl
 i75:=by kernel_rfl
 i80:=by kernel_rfl
 i85:=by kernel_rfl
 i127:=by kernel_rfl
 i143:=by kernel_rfl
 i145:=by kernel_rfl
 i167:=by kernel_rfl
 i168:=by kernel_rfl
 i171:=by kernel_rfl
 i173:=by kernel_rfl
 i175:=by kernel_rfl
 i210:=by kernel_rfl
 i212:=by kernel_rfl
 i232:=by kernel_rfl
 i233:=by kernel_rfl
 m15:=by kernel_rfl
 m16:=by kernel_rfl
 m17:=by kernel_rfl
 m18:=by kernel_rfl
 m19:=by kernel_rfl
 c0:=by kernel_rfl
 c2:=by kernel_rfl
 c3:=by kernel_rfl
 c4:=by kernel_rfl
 c5:=by kernel_rfl
 c9:=by kernel_rfl
 c20:=by kernel_rfl
 c21:=by kernel_rfl
 c37:=by kernel_rfl
 c46:=by kernel_rfl
 c51:=by kernel_rfl
 c53:=by kernel_rfl
 c75:=by kernel_rfl
 c80:=by kernel_rfl
 c85:=by kernel_rfl
 c127:=by kernel_rfl
 c143:=by kernel_rfl
 c145:=by kernel_rfl
 c167:=by kernel_rfl
 c168:=by kernel_rfl
 c171:=by kernel_rfl
 c173:=by kernel_rfl
 c175:=by kernel_rfl
 c210:=by kernel_rfl
 c212:=by kernel_rfl
 c213:=by kernel_rfl
 c232:=by kernel_rfl
 c233:=by kernel_rfl }
open Go.RowKit in
theorem Tryz.strconv_ParseInt_10_at64_ok (s:ByteArray) (hmax:s.size<=9223372036854775806) (v:Int) (h:Lib.parseIntB 64 s.data.toList=.ok v) (w:World) :
  Calls Tryz.prog 156 #[.string s,.int .i64 10,.int .i64 64] w fun e w'=>e=.returned (.tuple #[.int .i64 v,.nilIface])/\(w'=w\/∃t,w'=Lib.bytesWorld w 5 t):=Any.strconv_ParseInt_10_at64_ok Tryz.laysC174 s hmax v h w
open Go.RowKit in
theorem Tryz.strconv_ParseInt_10_at64_syntax (s:ByteArray) (hlim:s.size<=281474976710656) (h:Lib.parseIntB 64 s.data.toList=.«syntax») (ev:Value) (w:World) (hv:w.cell? ⟨6,0,none⟩=some ev) (hev:ev=.nilIface\/∃te pe,ev=.iface te pe) :
  Calls Tryz.prog 156 #[.string s,.int .i64 10,.int .i64 64] w fun e w'=>∃N,e=.returned (.tuple #[.int .i64 (0),.iface 220 (.pointer (some ⟨N,0,none⟩))])/\w.heap.size<=N/\w'.heap[N]?=some (.cells #[.string ⟨#[80,97,114,115,101,73,110,116]⟩,.string s,ev] 242 (0,0))/\Below w.heap.size w w':=Any.strconv_ParseInt_10_at64_syntax Tryz.laysC174 s hlim h ev w hv hev
open Go.RowKit in
theorem Tryz.strconv_ParseInt_10_at64_range (s:ByteArray) (hlim:s.size<=281474976710656) (h:Lib.parseIntB 64 s.data.toList=.range) (ev:Value) (w:World) (hv:w.cell? ⟨7,0,none⟩=some ev) (hev:ev=.nilIface\/∃te pe,ev=.iface te pe) :
  Calls Tryz.prog 156 #[.string s,.int .i64 10,.int .i64 64] w fun e w'=>∃N,e=.returned (.tuple #[.int .i64 (Lib.intSat 64 s.data.toList),.iface 220 (.pointer (some ⟨N,0,none⟩))])/\w.heap.size<=N/\w'.heap[N]?=some (.cells #[.string ⟨#[80,97,114,115,101,73,110,116]⟩,.string s,ev] 242 (0,0))/\Below w.heap.size w w':=Any.strconv_ParseInt_10_at64_range Tryz.laysC174 s hlim h ev w hv hev
def Tryz.lays144_ren:Go.Shelf.Ren:=⟨fun | 144=>98 | 143=>155 | 219=>193 | 217=>209 | 225=>210 | 224=>211 | 267=>212 | 266=>232 | 314=>233 | n=>n,fun | 9=>9 | 4=>4 | 3=>3 | 5=>5 | 46=>38 | 146=>237 | 51=>130 | n=>n,fun | 1=>5 | n=>n⟩
theorem Tryz.lays144:Go.Proofs.Lays.n144 Tryz.prog Tryz.lays144_ren:={
 mixed:=by kernel_rfl
 f143:=Tryz.func155.trans (congrArg some (by kernel_rfl))
 f144:=Tryz.func98.trans (congrArg some (by kernel_rfl))
 f217:=Tryz.func209.trans (congrArg some (by kernel_rfl))
 f219:=Tryz.func193.trans (congrArg some (by kernel_rfl))
 f224:=Tryz.func211.trans (congrArg some (by kernel_rfl))
 f225:=Tryz.func210.trans (congrArg some (by kernel_rfl))
 f266:=Tryz.func232.trans (congrArg some (by kernel_rfl))
 f267:=Tryz.func212.trans (congrArg some (by kernel_rfl))
 f314:=Tryz.func233.trans (congrArg some (by kernel_rfl))
 t3:=Tryz.underlying3
 a3:=Tryz.isAgg3
 z3:=Tryz.sizeOf3
 v3:=Tryz.zeroValue3
 t4:=Tryz.underlying4
 a4:=Tryz.isAgg4
 z4:=Tryz.sizeOf4
 v4:=Tryz.zeroValue4
 t5:=Tryz.underlying5
 a5:=Tryz.isAgg5
 z5:=Tryz.sizeOf5
 v5:=Tryz.zeroValue5
 t9:=Tryz.underlying9
 a9:=Tryz.isAgg9
 z9:=Tryz.sizeOf9
 v9:=Tryz.zeroValue9
 t46:=Tryz.underlying38
 a46:=Tryz.isAgg38
 z46:=Tryz.sizeOf38
 v46:=Tryz.zeroValue38
 t51:=Tryz.underlying130
 a51:=Tryz.isAgg130
 z51:=Tryz.sizeOf130
 v51:=Tryz.zeroValue130
 t146:=Tryz.underlying237
 a146:=Tryz.isAgg237
 z146:=Tryz.sizeOf237
 v146:=Tryz.zeroValue237
 g1:=by kernel_rfl }
open Go.RowKit Go.Lib in
theorem Tryz.strings_Contains (s sub:ByteArray) (m:Int) (w:World) (hs:s.size<4294967281) (hm:w.cell? ⟨5,0,none⟩=some (.int .i64 m)) :
  Calls Tryz.prog 98 #[.string s,.string sub] w fun e w'=>e=.returned (.bool (Lib.contains s.data.toList sub.data.toList))/\w'=w:=Any.strings_Contains Tryz.lays144 s sub m w hs hm
end Go.Proofs
namespace Go.Proofs.YtdjmckjbibfecaaGreatDoor
open Go Go.RowKit Go.BigFrame
set_option maxRecDepth 100000
set_option maxHeartbeats 1600000
theorem below_grows (w:World) (k:Nat) (os:Array Obj):Bz w (Go.Sort.grow (w.drewN k) os):=by
 refine ⟨rfl,rfl,rfl,by simp [Go.Sort.grow],fun j hj=>?_⟩
 show (w.heap++os)[j]?=w.heap[j]?
 rw [Array.getElem?_append_left hj]
def mkB (l:List UInt8):ByteArray:=⟨l.toArray⟩
structure Env (w:World):Prop where
 tab : Lib.TabIs Tryz.prog w "internal/strconv.uint64pow10" .u64 Lib.pow10Tab
 most:∃m,w.cell? ⟨5,0,none⟩=some (.int .i64 m)
 syn:∃te pe,w.cell? ⟨6,0,none⟩=some (.iface te pe)
 ran:∃te pe,w.cell? ⟨7,0,none⟩=some (.iface te pe)
 size:12<=w.heap.size
theorem Env.below {w w':World} (h:Env w) (hb:Bz w w'):Env w':=by
 have hs:=h.size
 have hc:∀b n,b<12->w'.cell? ⟨b,n,none⟩=w.cell? ⟨b,n,none⟩:=fun b n hn=>hb.cell (by show b<w.heap.size;omega)
 refine ⟨var?_below hb (g:=8) (by kernel_rfl) (by omega) h.tab,?_,?_,?_,Nat.le_trans hs hb.size⟩
 ·obtain ⟨m,hm⟩:=h.most
  exact ⟨m,by rw [hc _ _ (by omega)];exact hm⟩
 ·obtain ⟨t,p,hm⟩:=h.syn
  exact ⟨t,p,by rw [hc _ _ (by omega)];exact hm⟩
 ·obtain ⟨t,p,hm⟩:=h.ran
  exact ⟨t,p,by rw [hc _ _ (by omega)];exact hm⟩
theorem Tryz.info9:(Tryz.prog.info? 9).map (fun i=>(i.zero,i.size,i.bytes))=some (some (.string ⟨#[]⟩),1,16):=by kernel_rfl
theorem dec_yes {p q:Prop} [Decidable p] [Decidable q] (h:p):decide q=decide (p/\q):=by simp [h]
theorem dec_no {p q:Prop} [Decidable p] [Decidable q] (h:¬p):false=decide (p/\q):=by simp [h]
theorem dec_small (u:Nat) (h:u<10):Lib.decDigits u=[UInt8.ofNat (48+u)]:=by rw [Lib.decDigits,dif_pos h]
theorem dec_more (u:Nat) (h:¬u<10):Lib.decDigits u=Lib.decDigits (u / 10)++[UInt8.ofNat (48+u % 10)]:=by rw [Lib.decDigits,dif_neg h]
theorem dec_lenK:∀(k n:Nat),n<10 ^ (k+1)->(Lib.decDigits n).length<=k+1
 | 0,n,h=>by rw [dec_small n (by simpa using h)];simp
 | k+1,n,h=>by
  by_cases h1:n<10
  ·rw [dec_small n h1];simp
  ·rw [dec_more n h1,List.length_append]
   have:=dec_lenK k (n / 10) (by rw [Nat.pow_succ] at h;omega)
   simp;omega
theorem itoa_len {n:Int} (h0 : -9223372036854775808<=n) (h1:n<=9223372036854775807):(Lib.itoa n).length<=20:=by
 unfold Lib.itoa
 split
 ·have:=dec_lenK 18 n.natAbs (by simp;omega)
  simp;omega
 ·have:=dec_lenK 18 n.toNat (by simp;omega)
  omega
theorem conv_at (W:World) (g:Nat) (k:Int) (h:Blk W g 5 #[.int .u8 k]):(convert 33 9 (.slice (some ⟨g,0,none⟩) 1 1)).run Tryz.prog W=.ok (.string ⟨#[UInt8.ofNat k.toNat]⟩) W:=by
 have:=run_convert_bytes_arg (P:=Tryz.prog) W 33 5 Tryz.underlying33 Tryz.underlying5 g 0 1 1 [k] rfl
 exact this (fun i hi => by obtain rfl : i = 0 := by omega
                            exact h.cell 0) 9 Tryz.underlying9
theorem conv_new (W:World) (k:Int):(convert 33 9 (.slice (some ⟨W.heap.size,0,none⟩) 1 1)).run Tryz.prog (W.alloc (.cells #[.int .u8 k] 5))=.ok (.string ⟨#[UInt8.ofNat k.toNat]⟩) (W.alloc (.cells #[.int .u8 k] 5)) :=
 conv_at _ _ _ (Blk.new W 5 _)
theorem cat_mk (a b:List UInt8):(⟨a.toArray⟩:ByteArray)++⟨b.toArray⟩=⟨(a++b).toArray⟩:=by
 apply ByteArray.ext
 simp
theorem itoa_nat (m:Nat):Lib.itoa (m:Int)=Lib.decDigits m:=by unfold Lib.itoa;rw [if_neg (by omega)];simp
theorem itoa_neg (m:Nat) (h:1<=m):Lib.itoa (-(m:Int))=45::Lib.decDigits m:=by unfold Lib.itoa;rw [if_pos (by omega)];simp
theorem digits_small (m:Nat) (w:World) (hm:m<10) :
  Calls Tryz.prog 133 #[.int .i64 (m:Int)] w fun e w'=>e=.returned (.string (mkB (Lib.itoa (m:Int))))/\Bz w w':=by
 have hcv:=conv_new w (48+(m:Int))
 go_enter Tryz.func133,Tryz.ntmps133
 go_wp2
 go_ret
 refine ⟨?_,(Below.refl _ w).alloc leZ _⟩
 rw [itoa_nat,dec_small m hm]
 simp [mkB]
theorem digits_one (m:Nat) (w:World) (h1:1<=m) (hm:m<10) :
  Calls Tryz.prog 133 #[.int .i64 (-(m:Int))] w fun e w'=>e=.returned (.string (mkB (Lib.itoa (-(m:Int)))))/\Bz w w':=by
 have hcv:=conv_new w (48 - -(m:Int))
 have hcv2:=conv_new w (48+(m:Int))
 go_enter Tryz.func133,Tryz.ntmps133
 go_wp2
 go_ret
 refine ⟨?_,(Below.refl _ w).alloc leZ _⟩
 rw [itoa_neg m h1,dec_small m hm]
 have e:(48+(m:Int)).toNat=48+m:=by omega
 simp [mkB]
 exact ByteArray.ext (by simp)
theorem retDig (m:Nat) (hm:10<=m):Ending.returned (.string (mkB (Lib.itoa ((m:Int) / 10))++⟨#[UInt8.ofNat (48+m % 10)]⟩))=.returned (.string (mkB (Lib.itoa (m:Int)))):=by
 have e1:((m:Int) / 10)=((m / 10:Nat):Int):=by omega
 rw [e1,itoa_nat,itoa_nat,dec_more m (by omega)]
 exact congrArg (fun s=>Ending.returned (.string s)) (cat_mk _ [_])
theorem digits_more (m:Nat) (w:World) (hm:10<=m) (hm2:m<=9223372036854775807)
  (ih:∀W,Calls Tryz.prog 133 #[.int .i64 ((m:Int) / 10)] W fun e w'=>e=.returned (.string (mkB (Lib.itoa ((m:Int) / 10))))/\Bz W w') :
  Calls Tryz.prog 133 #[.int .i64 (m:Int)] w fun e w'=>e=.returned (.string (mkB (Lib.itoa (m:Int))))/\Bz w w':=by
 have w0:IntKind.i64.wrap ((m:Int) / 10)=(m:Int) / 10:=IntWalk.i64_in _ (by omega)
 have w1:IntKind.i64.wrap (48+(m:Int) % 10)=48+(m:Int) % 10:=IntWalk.i64_in _ (by omega)
 have w2:IntKind.u8.wrap (48+(m:Int) % 10)=48+(m:Int) % 10:=IntWalk.u8_in _ (by omega)
 have hz:(mkB (Lib.itoa ((m:Int) / 10))).size<=20:=by rw [mkB,size_list];exact itoa_len (by omega) (by omega)
 have t1:(m:Int).tmod 10=(m:Int) % 10:=IntWalk.rem_in _ _ (by omega)
 have hcv:=fun W=>conv_new W (48+(m:Int) % 10)
 have hcv3:=conv_at ((w.alloc (.cells #[.int .u8 (48+(m:Int) % 10)] 5)).drew) w.heap.size (48+(m:Int) % 10) (Blk.new w 5 _).drew
 go_enter Tryz.func133,Tryz.ntmps133
 go_wp2_with fail
 go_region_with ((go_at_call 133;(with_reducible refine (ih _).mono ?_);rintro e w2 ⟨rfl,hb2⟩;first | (have hB2:Bz w w2:=((Below.refl _ w).drew.trans hb2);skip) | (have hB2:Bz w w2:=(((Below.refl _ w).alloc leZ _).drew.trans (hb2.mono (by show _<=(w.alloc _).heap.size;simp)));have hcq:=conv_at w2 w.heap.size (48+(m:Int) % 10) (Blk.below (show Blk ((w.alloc (.cells #[.int .u8 (48+(m:Int) % 10)] 5)).drew) w.heap.size 5 #[.int .u8 (48+(m:Int) % 10)] from (Blk.new w 5 _).drew) hb2 (by show _<(w.alloc _).heap.size;simp)))))
 all_goals
  go_wp2_with fail
  go_ret
  refine ⟨Eq.trans (by simp [Act.put]) (retDig m hm),?_⟩
  first | exact hB2 | exact hB2.alloc hB2.size _ | exact hB2.trans ((Below.refl _ _).alloc (hB2.size) _)
theorem retDigN (m q r:Nat) (hm:10<=m) (hq:m / 10=q) (hr:m % 10=r):Ending.returned (.string (mkB (Lib.itoa (-(q:Int)))++⟨#[UInt8.ofNat (48+r)]⟩))=.returned (.string (mkB (Lib.itoa (-(m:Int))))):=by
 rw [itoa_neg q (by omega),itoa_neg m (by omega),dec_more m (by omega),hq,hr]
 exact congrArg (fun s=>Ending.returned (.string s)) (cat_mk _ [_])
theorem digits_neg (m:Nat) (w:World) (hm:10<=m) (hm2:m<=9223372036854775808)
  (ih:∀W,Calls Tryz.prog 133 #[.int .i64 (-((m / 10:Nat):Int))] W fun e w'=>e=.returned (.string (mkB (Lib.itoa (-((m / 10:Nat):Int)))))/\Bz W w') :
  Calls Tryz.prog 133 #[.int .i64 (-(m:Int))] w fun e w'=>e=.returned (.string (mkB (Lib.itoa (-(m:Int)))))/\Bz w w':=by
 obtain ⟨q,hq⟩:=nmZ (m / 10)
 obtain ⟨r,hr⟩:=nmZ (m % 10)
 rw [hq.out] at ih
 have hr10:r<10:=by rw [<-hr.out];exact Nat.mod_lt _ (by omega)
 have hq10:q<=922337203685477581:=by rw [<-hq.out];omega
 have d1:(-(m:Int)).tdiv 10 = -(q:Int):=by rw [Int.neg_tdiv,Int.tdiv_eq_ediv_of_nonneg (by omega),<-hq.out];omega
 have t1:(-(m:Int)).tmod 10 = -(r:Int):=by rw [Int.neg_tmod,Int.tmod_eq_emod_of_nonneg (by omega),<-hr.out];omega
 have w0:IntKind.i64.wrap (-(q:Int)) = -(q:Int):=IntWalk.i64_in _ (by omega)
 have w1:IntKind.i64.wrap (48 - -(r:Int))=48+(r:Int):=by rw [IntWalk.i64_in _ (by omega)];omega
 have w1':IntKind.i64.wrap (48+(r:Int))=48+(r:Int):=IntWalk.i64_in _ (by omega)
 have w2:IntKind.u8.wrap (48+(r:Int))=48+(r:Int):=IntWalk.u8_in _ (by omega)
 have hz:(mkB (Lib.itoa (-(q:Int)))).size<=20:=by rw [mkB,size_list];exact itoa_len (by omega) (by omega)
 have hcv:=fun W=>conv_new W (48+(r:Int))
 have hcv3:=conv_at ((w.alloc (.cells #[.int .u8 (48+(r:Int))] 5)).drew) w.heap.size (48+(r:Int)) (Blk.new w 5 _).drew
 go_enter Tryz.func133,Tryz.ntmps133
 go_wp2_with fail
 go_region_with ((go_at_call 133;(with_reducible refine (ih _).mono ?_);rintro e w2 ⟨rfl,hb2⟩;first | (have hB2:Bz w w2:=((Below.refl _ w).drew.trans hb2);skip) | (have hB2:Bz w w2:=(((Below.refl _ w).alloc leZ _).drew.trans (hb2.mono (by show _<=(w.alloc _).heap.size;simp)));have hcq:=conv_at w2 w.heap.size (48+(r:Int)) (Blk.below (show Blk ((w.alloc (.cells #[.int .u8 (48+(r:Int))] 5)).drew) w.heap.size 5 #[.int .u8 (48+(r:Int))] from (Blk.new w 5 _).drew) hb2 (by show _<(w.alloc _).heap.size;simp)))))
 all_goals
  go_wp2_with fail
  go_ret
  refine ⟨Eq.trans (by simp [Act.put]) (retDigN m q r hm hq.out hr.out),?_⟩
  first | exact hB2 | exact hB2.alloc hB2.size _ | exact hB2.trans ((Below.refl _ _).alloc (hB2.size) _)
theorem digits_pos:∀(f m:Nat),m<10 ^ (f+1)->m<=9223372036854775807->∀w,Calls Tryz.prog 133 #[.int .i64 (m:Int)] w fun e w'=>e=.returned (.string (mkB (Lib.itoa (m:Int))))/\Bz w w'
 | 0,m,h,_,w=>digits_small m w (by simpa using h)
 | f+1,m,h,h2,w=>by
  by_cases hs:m<10
  ·exact digits_small m w hs
  ·refine digits_more m w (by omega) h2 fun W=>?_
   have e:((m:Int) / 10)=((m / 10:Nat):Int):=by omega
   rw [e]
   exact digits_pos f (m / 10) (by rw [Nat.pow_succ] at h;omega) (by omega) W
theorem digits_negs:∀(f m:Nat),m<10 ^ (f+1)->m<=9223372036854775808->1<=m->∀w,Calls Tryz.prog 133 #[.int .i64 (-(m:Int))] w fun e w'=>e=.returned (.string (mkB (Lib.itoa (-(m:Int)))))/\Bz w w'
 | 0,m,h,_,h1,w=>digits_one m w h1 (by simpa using h)
 | f+1,m,h,h2,h1,w=>by
  by_cases hs:m<10
  ·exact digits_one m w h1 hs
  ·exact digits_neg m w (by omega) h2 fun W=>digits_negs f (m / 10) (by rw [Nat.pow_succ] at h;omega) (by omega) (by omega) W
theorem digits_any (n:Int) (w:World) (h0 : -9223372036854775808<=n) (h1:n<=9223372036854775807) :
  Calls Tryz.prog 133 #[.int .i64 n] w fun e w'=>e=.returned (.string (mkB (Lib.itoa n)))/\Bz w w':=by
 by_cases h:0<=n
 ·obtain ⟨m,rfl⟩:=Int.eq_ofNat_of_zero_le h
  exact digits_pos 18 m (by simp;omega) (by omega) w
 ·obtain ⟨m,hm⟩:∃m:Nat,n = -(m:Int):=⟨n.natAbs,by omega⟩
  subst hm
  exact digits_negs 18 m (by simp;omega) (by omega) (by omega) w
open Go Go.RowKit Go.BigFrame Go.Maps
structure Fld where
 name:ByteArray
 value:ByteArray
def FieldsAt (w:World) (A:Option Addr) (l:List Fld):Prop :=
 ∀(k:Nat) (x:Fld),l[k]?=some x->∃b off,A=some ⟨b,off,none⟩/\w.cell? ⟨b,off+k*2,none⟩=some (.string x.name)/\w.cell? ⟨b,off+k*2+1,none⟩=some (.string x.value)
theorem FieldsAt.below {w w':World} {A:Option Addr} {l:List Fld} (h:FieldsAt w A l) (hb:Bz w w'):FieldsAt w' A l:=by
 intro k x hk
 obtain ⟨b,off,e,h0,h1⟩:=h k x hk
 have hlt:b<w.heap.size:=World.block_lt_of_cell? w _ h0
 exact ⟨b,off,e,by rw [hb.cell hlt];exact h0,by rw [hb.cell hlt];exact h1⟩
def getF:List Fld->ByteArray->Option ByteArray
 | [],_=>none
 | x::l,s=>if x.name.toList=s.toList then some x.value else getF l s
theorem getF_no {l:List Fld} {k:Nat} {x:Fld} {s:ByteArray} {r:Option ByteArray} (hr:r=getF (l.drop k) s) (hx:l[k]?=some x) (h:¬x.name.toList=s.toList):r=getF (l.drop (k+1)) s:=by
 obtain ⟨hk,he⟩:=gsZ.1 hx
 rw [hr,List.drop_eq_getElem_cons hk,he,getF,if_neg h]
theorem getF_yes {l:List Fld} {k:Nat} {x:Fld} {s:ByteArray} {r:Option ByteArray} (hr:r=getF (l.drop k) s) (hx:l[k]?=some x) (h:x.name.toList=s.toList):r=some x.value:=by
 obtain ⟨hk,he⟩:=gsZ.1 hx
 rw [hr,List.drop_eq_getElem_cons hk,he,getF,if_pos h]
def getV (l:List Fld) (s:ByteArray):ByteArray:=(getF l s).getD ⟨#[]⟩
def getB (l:List Fld) (s:ByteArray):Bool:=(getF l s).isSome
theorem place1_any (nm vl:ByteArray) (g:Nat) (s:ByteArray) (w:World) (hg:w.cell? ⟨g,0,none⟩=some (.string s)) :
  Calls Tryz.prog 154 #[.agg #[.string nm,.string vl],.pointer (some ⟨g,0,none⟩)] w fun e w'=>e=.returned (.bool (decide (nm.toList=s.toList)))/\Bz w w':=by
 have hb:Bz w (w.alloc (.cells #[.string nm,.string vl] 108)):=(Below.refl _ w).alloc leZ _
 have hgl:g<w.heap.size:=World.block_lt_of_cell? w _ hg
 have hg1:(w.alloc (.cells #[.string nm,.string vl] 108)).cell? ⟨g,0,none⟩=some (.string s):=by rw [hb.cell hgl];exact hg
 go_enter Tryz.func154,Tryz.ntmps154
 go_wp2_with fail
 go_ret
 exact ⟨congrArg (fun b=>Ending.returned (.bool b)) (show (nm.toList==s.toList)=decide (nm.toList=s.toList) by rw [Bool.eq_iff_iff];simp),hb⟩
def Found (l:List Fld) (s:ByteArray) (i:Int):Prop:=(i = -1/\getF l s=none)\/∃(k:Nat) (x:Fld),i=(k:Int)/\l[k]?=some x/\getF l s=some x.value
theorem index_any (A:Option Addr) (n c:Nat) (l:List Fld) (s:ByteArray) (g:Nat) (w:World) (hn:n<=maxLen) (hl:Hid (l.length=n)) (hA:Hid (FieldsAt w A l)) (hg:w.cell? ⟨g,0,none⟩=some (.string s)) :
  Calls Tryz.prog 153 #[.slice A n c,.func (Fn.func 154) #[] #[.pointer (some ⟨g,0,none⟩)]] w fun e w'=>∃i,e=.returned (.int .i64 i)/\Found l s i/\Bz w w':=by
 unfold maxLen at hn
 have hgl:g<w.heap.size:=World.block_lt_of_cell? w _ hg
 have hg':=hdZ hg
 clear hg
 go_enter Tryz.func153,Tryz.ntmps153
 go_wp2
 go_loopw [8] (fun i wr=>∃k:Nat,k<=n/\i=.int .i64 k/\Hid (getF l s=getF (l.drop k) s)/\Bz w wr) (fun i _=>n-(intOf i).toNat)
 case atStart=>exact ⟨0,Nat.zero_le _,rfl,rfl,Below.refl _ _⟩
 case round =>
  obtain ⟨k,hk,rfl,hsame,hB⟩:=hrel
  by_cases hlt:k<n
  ·obtain ⟨x,hx⟩:∃x,l[k]?=some x:=⟨_,gZ (by have:=hl.out;omega)⟩
   have hx':=hdZ hx
   clear hx
   obtain ⟨b,off,rfl,h0,h1⟩:=(hA.out.below hB) k x hx'.out
   obtain ⟨nm,vl⟩:=x
   simp only at h0 h1
   have hgr:wr.cell? ⟨g,0,none⟩=some (.string s):=by rw [hB.cell hgl];exact hg'.out
   have hgr':=hdZ hgr
   clear hgr
   go_wp2_with fail
   refine (place1_any nm vl g s wr hgr'.out).mono ?_
   rintro e w1 ⟨rfl,hb1⟩
   have hB1:Bz w w1:=hB.trans (hb1.mono hB.size)
   by_cases heq:nm.toList=s.toList
   ·rw [dtZ heq]
    have heq':=hdZ heq
    clear heq
    go_wp2_with fail
    go_ret
    exact ⟨_,rfl,.inr ⟨k,⟨nm,vl⟩,rfl,hx'.out,getF_yes hsame.out hx'.out heq'.out⟩,hB1⟩
   ·rw [dfZ heq]
    have heq':=hdZ heq
    clear heq
    go_wp2_with fail
    go_roundw
    case rel=>exact ⟨k+1,by omega,by go_num,getF_no hsame.out hx'.out heq'.out,hB1⟩
    case measure=>simp [intOf];omega
  ·go_wp2_with fail
   go_ret
   exact ⟨_,rfl,.inl ⟨rfl,by rw [hsame.out,List.drop_eq_nil_of_le (by have:=hl.out;omega)];rfl⟩,hB⟩
theorem place_any (A:Option Addr) (n c:Nat) (l:List Fld) (s:ByteArray) (w:World) (hn:n<=maxLen) (hl:Hid (l.length=n)) (hA:Hid (FieldsAt w A l)) :
  Calls Tryz.prog 97 #[.slice A n c,.string s] w fun e w'=>∃i,e=.returned (.int .i64 i)/\Found l s i/\Bz w w':=by
 go_enter Tryz.func97,Tryz.ntmps97
 have hb0:Bz w (w.alloc (.cells #[.string s] 9)):=(Below.refl _ w).alloc leZ _
 have hc0:(w.alloc (.cells #[.string s] 9)).cell? ⟨w.heap.size,0,none⟩=some (.string s):=by rw [(Blk.new w 9 _).cell];rfl
 go_wp2_with fail
 refine (index_any A n c l s w.heap.size _ hn hl (hA.out.below hb0) hc0).mono ?_
 rintro e w1 ⟨i,rfl,hF,hb1⟩
 have hF':=hdZ hF
 clear hF
 go_wp2_with fail
 go_ret
 exact ⟨i,rfl,hF'.out,hb0.trans (hb1.mono (by simp))⟩
theorem get_any (A:Option Addr) (n c:Nat) (l:List Fld) (s:ByteArray) (w:World) (hn:n<=maxLen) (hl:Hid (l.length=n)) (hA:Hid (FieldsAt w A l)) :
  Calls Tryz.prog 54 #[.slice A n c,.string s] w fun e w'=>e=.returned (.tuple #[.string (getV l s),.bool (getB l s)])/\Bz w w':=by
 have hn':=hn
 unfold maxLen at hn
 go_enter Tryz.func54,Tryz.ntmps54
 go_wp2_with fail
 refine (place_any A n c l s w hn' hl hA).mono ?_
 rintro e w1 ⟨i,rfl,hF,hb1⟩
 clear hn'
 rcases hF with ⟨rfl,h⟩ | ⟨k,x,rfl,hx,h⟩
 ·have h':=hdZ h
  clear h
  go_wp2_with fail
  go_ret2
  exact ⟨by unfold getV getB;rw [h'.out];rfl,hb1⟩
 ·have h':=hdZ h
  have hlt:k<n:=by have:=(gsZ.1 hx).1;have:=hl.out;omega
  clear h
  obtain ⟨b,off,rfl,h0,h1⟩:=(hA.out.below hb1) k x hx
  obtain ⟨nm,vl⟩:=x
  simp only at h0 h1
  have hx':=hdZ hx
  clear hx
  go_wp2_with fail
  go_ret2
  exact ⟨by unfold getV getB;rw [h'.out];rfl,hb1⟩
theorem getR_any (A:Option Addr) (n c:Nat) (l:List Fld) (s:ByteArray) (w:World) (hn:n<=maxLen) (hl:Hid (l.length=n)) (hA:Hid (FieldsAt w A l)) :
  Calls Tryz.prog 101 #[.slice A n c,.string s] w fun e w'=>e=.returned (.tuple #[.string (getV l s),.bool (getB l s)])/\Bz w w':=by
 unfold maxLen at hn
 go_enter Tryz.func101,Tryz.ntmps101
 go_wp2_with fail
 go_loopw [6] (fun i wr=>w=wr/\∃k:Nat,k<=n/\i=.int .i64 k/\Hid (getF l s=getF (l.drop k) s)) (fun i _=>n-(intOf i).toNat)
 case atStart=>exact ⟨rfl,0,Nat.zero_le _,rfl,rfl⟩
 case round =>
  obtain ⟨rfl,k,hk,rfl,hsame⟩:=hrel
  by_cases hlt:k<n
  ·obtain ⟨x,hx⟩:∃x,l[k]?=some x:=⟨_,gZ (by have:=hl.out;omega)⟩
   have hx':=hdZ hx
   clear hx
   obtain ⟨b,off,rfl,h0,h1⟩:=hA.out k x hx'.out
   obtain ⟨nm,vl⟩:=x
   simp only at h0 h1
   by_cases heq:nm.toList=s.toList
   ·have hq:(nm.toList==s.toList)=true:=by simp [heq]
    have heq':=hdZ heq
    clear heq
    go_wp2_with fail
    go_ret2
    exact ⟨by unfold getV getB;rw [getF_yes hsame.out hx'.out heq'.out];rfl,Below.refl _ _⟩
   ·have hq:(nm.toList==s.toList)=false:=by simp [heq]
    have heq':=hdZ heq
    clear heq
    go_wp2_with fail
    go_roundw
    case rel=>exact ⟨trivial,k+1,by omega,by go_num,getF_no hsame.out hx'.out heq'.out⟩
    case measure=>simp [intOf];omega
  ·go_wp2_with fail
   go_ret2
   exact ⟨by unfold getV getB;rw [hsame.out,List.drop_eq_nil_of_le (by have:=hl.out;omega)];rfl,Below.refl _ _⟩
structure Pap where
 kind:Int
 number:ByteArray
 issuer:ByteArray
 fA:Option Addr
 fc:Nat
 fields:List Fld
def DocsAt (w:World) (A:Option Addr) (l:List Pap):Prop :=
 ∀(k:Nat) (x:Pap),l[k]?=some x->∃b off,A=some ⟨b,off,none⟩/\w.cell? ⟨b,off+k*4,none⟩=some (.int .i64 x.kind)/\w.cell? ⟨b,off+k*4+1,none⟩=some (.string x.number) /\
  w.cell? ⟨b,off+k*4+2,none⟩=some (.string x.issuer)/\w.cell? ⟨b,off+k*4+3,none⟩=some (.slice x.fA x.fields.length x.fc)/\FieldsAt w x.fA x.fields/\x.fields.length<=maxLen/\(-9223372036854775808<=x.kind/\x.kind<=9223372036854775807)
theorem DocsAt.below {w w':World} {A:Option Addr} {l:List Pap} (h:DocsAt w A l) (hb:Bz w w'):DocsAt w' A l:=by
 intro k x hk
 obtain ⟨b,off,e,h0,h1,h2,h3,h4,h5⟩:=h k x hk
 have hlt:b<w.heap.size:=World.block_lt_of_cell? w _ h0
 exact ⟨b,off,e,by rw [hb.cell hlt];exact h0,by rw [hb.cell hlt];exact h1,by rw [hb.cell hlt];exact h2,by rw [hb.cell hlt];exact h3,h4.below hb,h5⟩
def fieldD:List Pap->Int->ByteArray->Option ByteArray
 | [],_,_=>none
 | x::l,k,s=>if x.kind=k then getF x.fields s else fieldD l k s
theorem fieldD_no {l:List Pap} {k:Nat} {x:Pap} {i:Int} {s:ByteArray} {r:Option ByteArray} (hr:r=fieldD (l.drop k) i s) (hx:l[k]?=some x) (h:¬x.kind=i):r=fieldD (l.drop (k+1)) i s:=by
 obtain ⟨hk,he⟩:=gsZ.1 hx
 rw [hr,List.drop_eq_getElem_cons hk,he,fieldD,if_neg h]
theorem fieldD_yes {l:List Pap} {k:Nat} {x:Pap} {i:Int} {s:ByteArray} {r:Option ByteArray} (hr:r=fieldD (l.drop k) i s) (hx:l[k]?=some x) (h:x.kind=i):r=getF x.fields s:=by
 obtain ⟨hk,he⟩:=gsZ.1 hx
 rw [hr,List.drop_eq_getElem_cons hk,he,fieldD,if_pos h]
def two (r:Option ByteArray):Value:=.tuple #[.string (r.getD ⟨#[]⟩),.bool r.isSome]
theorem field_any (A:Option Addr) (n c:Nat) (l:List Pap) (i:Int) (s:ByteArray) (w:World) (hn:n<=maxLen) (hl:Hid (l.length=n)) (hA:Hid (DocsAt w A l)) :
  Calls Tryz.prog 100 #[.slice A n c,.int .i64 i,.string s] w fun e w'=>e=.returned (two (fieldD l i s))/\Bz w w':=by
 unfold maxLen at hn
 go_enter Tryz.func100,Tryz.ntmps100
 go_wp2_with fail
 go_loopw [12] (fun j wr=>∃k:Nat,k<=n/\j=.int .i64 k/\Hid (fieldD l i s=fieldD (l.drop k) i s)/\Bz w wr) (fun i _=>n-(intOf i).toNat)
 case atStart=>exact ⟨0,Nat.zero_le _,rfl,rfl,Below.refl _ _⟩
 case round =>
  obtain ⟨k,hk,rfl,hsame,hB⟩:=hrel
  by_cases hlt:k<n
  ·obtain ⟨x,hx⟩:∃x,l[k]?=some x:=⟨_,gZ (by have:=hl.out;omega)⟩
   have hx':=hdZ hx
   clear hx
   obtain ⟨b,off,rfl,h0,h1,h2,h3,h4,h5,h6⟩:=(hA.out.below hB) k x hx'.out
   obtain ⟨kd,nu,is,fA,fc,fs⟩:=x
   simp only at h0 h1 h2 h3 h4 h5 h6
   have h4':=hdZ h4
   have h5':=hdZ h5
   clear h4 h5 h6
   obtain ⟨m,hm⟩:=nmZ (fs.length)
   rw [hm.out] at h3
   by_cases heq:kd=i
   ·subst heq
    go_wp2_with fail
    refine (get_any fA m fc fs s _ (by rw [<-hm.out];exact h5'.out) hm (h4'.out.below ((Below.refl _ _).alloc leZ _))).mono ?_
    rintro e w1 ⟨rfl,hb1⟩
    have hB1:Bz w w1:=hB.trans (((Below.refl _ wr).alloc leZ _ |>.trans (hb1.mono (by simp))).mono hB.size)
    go_wp2_with fail
    go_ret2
    exact ⟨by rw [fieldD_yes hsame.out hx'.out rfl];rfl,hB1⟩
   ·have heq':=hdZ heq
    go_wp2_with fail
    go_roundw
    case rel=>exact ⟨k+1,by omega,by go_num,fieldD_no hsame.out hx'.out heq'.out,hB.alloc hB.size _⟩
    case measure=>simp [intOf];omega
  ·go_wp2_with fail
   go_ret2
   exact ⟨by rw [hsame.out,List.drop_eq_nil_of_le (by have:=hl.out;omega)];rfl,hB⟩
theorem fieldR_any (A:Option Addr) (n c:Nat) (l:List Pap) (i:Int) (s:ByteArray) (w:World) (hn:n<=maxLen) (hl:Hid (l.length=n)) (hA:Hid (DocsAt w A l)) :
  Calls Tryz.prog 105 #[.slice A n c,.int .i64 i,.string s] w fun e w'=>e=.returned (two (fieldD l i s))/\Bz w w':=by
 unfold maxLen at hn
 go_enter Tryz.func105,Tryz.ntmps105
 go_wp2_with fail
 go_loopw [8] (fun j wr=>∃k:Nat,k<=n/\j=.int .i64 k/\Hid (fieldD l i s=fieldD (l.drop k) i s)/\Bz w wr) (fun i _=>n-(intOf i).toNat)
 case atStart=>exact ⟨0,Nat.zero_le _,rfl,rfl,Below.refl _ _⟩
 case round =>
  obtain ⟨k,hk,rfl,hsame,hB⟩:=hrel
  by_cases hlt:k<n
  ·obtain ⟨x,hx⟩:∃x,l[k]?=some x:=⟨_,gZ (by have:=hl.out;omega)⟩
   have hx':=hdZ hx
   clear hx
   obtain ⟨b,off,rfl,h0,h1,h2,h3,h4,h5,h6⟩:=(hA.out.below hB) k x hx'.out
   obtain ⟨kd,nu,is,fA,fc,fs⟩:=x
   simp only at h0 h1 h2 h3 h4 h5 h6
   have h4':=hdZ h4
   have h5':=hdZ h5
   clear h4 h5 h6
   obtain ⟨m,hm⟩:=nmZ (fs.length)
   rw [hm.out] at h3
   by_cases heq:kd=i
   ·subst heq
    go_wp2_with fail
    refine (getR_any fA m fc fs s _ (by rw [<-hm.out];exact h5'.out) hm h4').mono ?_
    rintro e w1 ⟨rfl,hb1⟩
    have hB1:Bz w w1:=hB.trans (hb1.mono hB.size)
    go_wp2_with fail
    go_ret2
    exact ⟨by rw [fieldD_yes hsame.out hx'.out rfl];rfl,hB1⟩
   ·have heq':=hdZ heq
    go_wp2_with fail
    go_roundw
    case rel=>exact ⟨k+1,by omega,by go_num,fieldD_no hsame.out hx'.out heq'.out,hB⟩
    case measure=>simp [intOf];omega
  ·go_wp2_with fail
   go_ret2
   exact ⟨by rw [hsame.out,List.drop_eq_nil_of_le (by have:=hl.out;omega)];rfl,hB⟩
end Go.Proofs.YtdjmckjbibfecaaGreatDoor
