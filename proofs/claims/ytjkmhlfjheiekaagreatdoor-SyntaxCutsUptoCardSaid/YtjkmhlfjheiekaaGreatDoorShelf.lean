import Derived.Shelf.Strings.Builder1
import Derived.Shelf.Strings.Builder2
import Derived.Shelf.Strings.OnBuilder
import Derived.Shelf.Strings.BuilderF
import Derived.Shelf.Strings.BuilderK
import Derived.Shelf.Strconv.Itoa0
import Derived.Shelf.Strconv.Itoa1
import Derived.Shelf.LaysM
import Derived.Shelf.Strconv.Itoa2
import Derived.Shelf.Strconv.Itoa3
import Derived.Shelf.Strconv.Itoa4
import Derived.Shelf.Strconv.ParseIntEmpty
import Derived.Shelf.Strconv.Clone
import Derived.Shelf.Strconv.SyntaxError
import Derived.Shelf.LaysC
import Derived.Shelf.Strconv.ToError
import Derived.Shelf.Strconv.Lower
import Derived.Shelf.Strconv.ParseUint10
import Derived.Shelf.Strconv.ParseUint10Empty
import Derived.Shelf.Strconv.ParseUint10Any
import Derived.Shelf.Strconv.ParseInt10
import Derived.Shelf.Strconv.RangeError
import Derived.Shelf.Strconv.ToErrorRange
import Derived.Shelf.Strconv.ParseUintEmpty
import Derived.Shelf.Strconv.ParseUint10b64
import Derived.Shelf.Strconv.ParseUint10b32
import Derived.Shelf.Strconv.ParseUint10b16
import Derived.Shelf.Strconv.ParseUint10b8
import Derived.Shelf.Strconv.ParseUint10At
import Derived.Shelf.Strconv.ParseInt10At64
import Derived.Shelf.Strconv.ParseInt10At32
import Derived.Shelf.Strconv.ParseInt10At16
import Derived.Shelf.Strconv.ParseInt10At8
import Derived.Shelf.Strconv.ParseInt10All
import Derived.Shelf.Strconv.ParseIntPublic10
import Derived.Shelf.Strconv.ErrVarParseInt
import Derived.Shelf.GgClosure.StringsIndexFunc
import Derived.Ground.GgwProg
import Derived.Shelf.GgClosure.StringsIndexFuncTop
import Derived.Shelf.GgClosure.StringsRunes
import Derived.Shelf.Strings.FuncGrows
import Derived.Shelf.Slices.Turned
import Derived.Test.YtjkmhlfjheiekaaGreatDoorProg
set_option maxRecDepth 1000000
set_option maxHeartbeats 51200000
namespace Go.Proofs
open Go.Shelf
def Tryz.lays169_ren : Go.Shelf.Ren := ⟨fun | 169 => 39 | n => n, fun | 70 => 67 | 9 => 9 | 0 => 0 | 72 => 70 | 37 => 68 | 127 => 126 | 3 => 3 | 5 => 5 | n => n, fun | n => n⟩
theorem Tryz.lays169 : Go.Proofs.Lays.n169 Tryz.prog Tryz.lays169_ren := {
 mixed := by kernel_rfl
 f169 := Tryz.func39.trans (congrArg some (by kernel_rfl))
 t0 := Tryz.underlying0
 a0 := Tryz.isAgg0
 z0 := Tryz.sizeOf0
 v0 := Tryz.zeroValue0
 t3 := Tryz.underlying3
 a3 := Tryz.isAgg3
 z3 := Tryz.sizeOf3
 v3 := Tryz.zeroValue3
 t9 := Tryz.underlying9
 a9 := Tryz.isAgg9
 z9 := Tryz.sizeOf9
 v9 := Tryz.zeroValue9
 t37 := Tryz.underlying68
 a37 := Tryz.isAgg68
 z37 := Tryz.sizeOf68
 v37 := Tryz.zeroValue68
 t70 := Tryz.underlying67
 a70 := Tryz.isAgg67
 z70 := Tryz.sizeOf67
 v70 := Tryz.zeroValue67
 t72 := Tryz.underlying70
 a72 := Tryz.isAgg70
 z72 := Tryz.sizeOf70
 v72 := Tryz.zeroValue70
 t127 := Tryz.underlying126
 a127 := Tryz.isAgg126
 z127 := Tryz.sizeOf126
 v127 := Tryz.zeroValue126 }
theorem Tryz.Builder_Extra_169 : Builder.Extra Tryz.prog Tryz.lays169_ren := {
 sizeBuilder := by kernel_rfl
 liesBuilder := by kernel_rfl
 t5 := Tryz.underlying5
 a5 := Tryz.isAgg5
 z5 := Tryz.sizeOf5
 v5 := Tryz.zeroValue5
 infoByte := by kernel_rfl
 cellsByte := by kernel_rfl
 sizeByte := by kernel_rfl
 neB5 := by decide }
def Tryz.lays156_ren : Go.Shelf.Ren := ⟨fun | 156 => 66 | 165 => 113 | 166 => 79 | 169 => 39 | 240 => 126 | 241 => 146 | 276 => 151 | 277 => 163 | n => n, fun | 31 => 110 | 9 => 9 | 3 => 3 | 4 => 4 | 0 => 0 | 20 => 20 | 72 => 70 | 76 => 121 | 70 => 67 | 37 => 68 | 75 => 120 | 127 => 126 | 164 => 161 | 5 => 5 | 80 => 72 | n => n, fun | n => n⟩
theorem Tryz.lays156 : Go.Proofs.Lays.n156 Tryz.prog Tryz.lays156_ren := {
 mixed := by kernel_rfl
 f156 := Tryz.func66.trans (congrArg some (by kernel_rfl))
 f165 := Tryz.func113.trans (congrArg some (by kernel_rfl))
 f166 := Tryz.func79.trans (congrArg some (by kernel_rfl))
 f169 := Tryz.func39.trans (congrArg some (by kernel_rfl))
 f240 := Tryz.func126.trans (congrArg some (by kernel_rfl))
 f241 := Tryz.func146.trans (congrArg some (by kernel_rfl))
 f276 := Tryz.func151.trans (congrArg some (by kernel_rfl))
 f277 := Tryz.func163.trans (congrArg some (by kernel_rfl))
 t0 := Tryz.underlying0
 a0 := Tryz.isAgg0
 z0 := Tryz.sizeOf0
 v0 := Tryz.zeroValue0
 t3 := Tryz.underlying3
 a3 := Tryz.isAgg3
 z3 := Tryz.sizeOf3
 v3 := Tryz.zeroValue3
 t4 := Tryz.underlying4
 a4 := Tryz.isAgg4
 z4 := Tryz.sizeOf4
 v4 := Tryz.zeroValue4
 t9 := Tryz.underlying9
 a9 := Tryz.isAgg9
 z9 := Tryz.sizeOf9
 v9 := Tryz.zeroValue9
 t20 := Tryz.underlying20
 a20 := Tryz.isAgg20
 z20 := Tryz.sizeOf20
 v20 := Tryz.zeroValue20
 t31 := Tryz.underlying110
 a31 := Tryz.isAgg110
 z31 := Tryz.sizeOf110
 v31 := Tryz.zeroValue110
 t37 := Tryz.underlying68
 a37 := Tryz.isAgg68
 z37 := Tryz.sizeOf68
 v37 := Tryz.zeroValue68
 t70 := Tryz.underlying67
 a70 := Tryz.isAgg67
 z70 := Tryz.sizeOf67
 v70 := Tryz.zeroValue67
 t72 := Tryz.underlying70
 a72 := Tryz.isAgg70
 z72 := Tryz.sizeOf70
 v72 := Tryz.zeroValue70
 t75 := Tryz.underlying120
 a75 := Tryz.isAgg120
 z75 := Tryz.sizeOf120
 v75 := Tryz.zeroValue120
 t76 := Tryz.underlying121
 a76 := Tryz.isAgg121
 z76 := Tryz.sizeOf121
 v76 := Tryz.zeroValue121
 t127 := Tryz.underlying126
 a127 := Tryz.isAgg126
 z127 := Tryz.sizeOf126
 v127 := Tryz.zeroValue126
 t164 := Tryz.underlying161
 a164 := Tryz.isAgg161
 z164 := Tryz.sizeOf161
 v164 := Tryz.zeroValue161 }
theorem Tryz.Builder_Extra_156 : Builder.Extra Tryz.prog Tryz.lays156_ren := {
 sizeBuilder := by kernel_rfl
 liesBuilder := by kernel_rfl
 t5 := Tryz.underlying5
 a5 := Tryz.isAgg5
 z5 := Tryz.sizeOf5
 v5 := Tryz.zeroValue5
 infoByte := by kernel_rfl
 cellsByte := by kernel_rfl
 sizeByte := by kernel_rfl
 neB5 := by decide }
open Go.RowKit in
theorem Tryz.strings_Join (bk o c : Nat) (xs : List ByteArray) (sep : ByteArray) (w : World) (hcells : ∀ (j : Nat) x, xs[j]? = some x → w.cell? ⟨bk, o + j, none⟩ = some (.string x)) (hbk : bk < w.heap.size) (hN : xs.length ≤ 140737488355328) (hcap : xs.length ≤ c) (hlen : (Lib.join (xs.map (·.data.toList)) sep.data.toList).length ≤ 140737488355328) :
  Calls Tryz.prog 66 #[.slice (some ⟨bk, o, none⟩) xs.length c, .string sep] w fun e w' => e = .returned (.string ⟨(Lib.join (xs.map (·.data.toList)) sep.data.toList).toArray⟩) ∧ Below w.heap.size w w' := Any.strings_Join Tryz.lays156 Tryz.Builder_Extra_156 bk o c xs sep w hcells hbk hN hcap hlen
open Go.RowKit in
theorem Tryz.Builder_String_any_k (B b : Nat) (l : List UInt8) (w : World) (h : Lib.IsBuilderF 70 5 B b (Lib.byteCells l) w) (hBw : B ≤ w.heap.size) :
  Calls Tryz.prog 39 #[.pointer (some ⟨b, 0, none⟩)] w fun e w' => e = .returned (.string ⟨l.toArray⟩) ∧ (Lib.IsBuilderF 70 5 B b (Lib.byteCells l) w' ∧ Below B w w' ∧ Lib.OthersKept 5 (some b) w w') := Any.Builder_String_any_k Tryz.lays169 Tryz.Builder_Extra_169 B b l w h hBw
def Tryz.laysM171_ren : Go.Shelf.Ren := ⟨fun | 171 => 105 | 243 => 139 | 246 => 127 | 283 => 152 | 284 => 153 | 285 => 154 | 286 => 155 | 129 => 168 | 317 => 167 | 318 => 169 | 319 => 170 | 320 => 171 | 337 => 174 | 338 => 175 | n => n, fun | 3 => 3 | 9 => 9 | 2 => 2 | 4 => 4 | 171 => 163 | 0 => 0 | 53 => 164 | 37 => 68 | 5 => 5 | 173 => 167 | 212 => 177 | 51 => 178 | 20 => 20 | 213 => 179 | 46 => 180 | 232 => 190 | 233 => 191 | n => n, fun | 17 => 2 | 18 => 4 | 19 => 5 | n => n⟩
theorem Tryz.laysM171 : Go.Proofs.LaysM.n171 Tryz.prog Tryz.laysM171_ren := {
 mixed := by kernel_rfl
 f129 := Tryz.func168.trans (congrArg some (by kernel_rfl))
 f171 := Tryz.func105.trans (congrArg some (by kernel_rfl))
 f243 := Tryz.func139.trans (congrArg some (by kernel_rfl))
 f246 := Tryz.func127.trans (congrArg some (by kernel_rfl))
 f283 := Tryz.func152.trans (congrArg some (by kernel_rfl))
 f284 := Tryz.func153.trans (congrArg some (by kernel_rfl))
 f285 := Tryz.func154.trans (congrArg some (by kernel_rfl))
 f286 := Tryz.func155.trans (congrArg some (by kernel_rfl))
 f317 := Tryz.func167.trans (congrArg some (by kernel_rfl))
 f318 := Tryz.func169.trans (congrArg some (by kernel_rfl))
 f319 := Tryz.func170.trans (congrArg some (by kernel_rfl))
 f320 := Tryz.func171.trans (congrArg some (by kernel_rfl))
 f337 := Tryz.func174.trans (congrArg some (by kernel_rfl))
 f338 := Tryz.func175.trans (congrArg some (by kernel_rfl))
 t0 := Tryz.underlying0
 a0 := Tryz.isAgg0
 z0 := Tryz.sizeOf0
 v0 := Tryz.zeroValue0
 t2 := Tryz.underlying2
 a2 := Tryz.isAgg2
 z2 := Tryz.sizeOf2
 v2 := Tryz.zeroValue2
 t3 := Tryz.underlying3
 a3 := Tryz.isAgg3
 z3 := Tryz.sizeOf3
 v3 := Tryz.zeroValue3
 t4 := Tryz.underlying4
 a4 := Tryz.isAgg4
 z4 := Tryz.sizeOf4
 v4 := Tryz.zeroValue4
 t5 := Tryz.underlying5
 a5 := Tryz.isAgg5
 z5 := Tryz.sizeOf5
 v5 := Tryz.zeroValue5
 t9 := Tryz.underlying9
 a9 := Tryz.isAgg9
 z9 := Tryz.sizeOf9
 v9 := Tryz.zeroValue9
 t20 := Tryz.underlying20
 a20 := Tryz.isAgg20
 z20 := Tryz.sizeOf20
 v20 := Tryz.zeroValue20
 t37 := Tryz.underlying68
 a37 := Tryz.isAgg68
 z37 := Tryz.sizeOf68
 v37 := Tryz.zeroValue68
 t46 := Tryz.underlying180
 a46 := Tryz.isAgg180
 z46 := Tryz.sizeOf180
 v46 := Tryz.zeroValue180
 t51 := Tryz.underlying178
 a51 := Tryz.isAgg178
 z51 := Tryz.sizeOf178
 v51 := Tryz.zeroValue178
 t53 := Tryz.underlying164
 a53 := Tryz.isAgg164
 z53 := Tryz.sizeOf164
 v53 := Tryz.zeroValue164
 t171 := Tryz.underlying163
 a171 := Tryz.isAgg163
 z171 := Tryz.sizeOf163
 v171 := Tryz.zeroValue163
 t173 := Tryz.underlying167
 a173 := Tryz.isAgg167
 z173 := Tryz.sizeOf167
 v173 := Tryz.zeroValue167
 t212 := Tryz.underlying177
 a212 := Tryz.isAgg177
 z212 := Tryz.sizeOf177
 v212 := Tryz.zeroValue177
 t213 := Tryz.underlying179
 a213 := Tryz.isAgg179
 z213 := Tryz.sizeOf179
 t232 := Tryz.underlying190
 a232 := Tryz.isAgg190
 z232 := Tryz.sizeOf190
 v232 := Tryz.zeroValue190
 t233 := Tryz.underlying191
 a233 := Tryz.isAgg191
 z233 := Tryz.sizeOf191
 v233 := Tryz.zeroValue191
 g17 := by kernel_rfl
 g18 := by kernel_rfl
 g19 := by kernel_rfl
 i0 := by kernel_rfl
 i2 := by kernel_rfl
 i3 := by kernel_rfl
 i4 := by kernel_rfl
 i5 := by kernel_rfl
 i9 := by kernel_rfl
 i20 := by kernel_rfl
 i37 := by kernel_rfl
 i46 := by kernel_rfl
 i51 := by kernel_rfl
 i53 := by kernel_rfl
 i171 := by kernel_rfl
 i173 := by kernel_rfl
 i212 := by kernel_rfl
 i232 := by kernel_rfl
 i233 := by kernel_rfl
 m17 := by kernel_rfl
 m18 := by kernel_rfl
 m19 := by kernel_rfl }
open Go.RowKit Go.Sort Go.Lib in
theorem Tryz.strconv_Itoa (n : Int) (h0 : -9223372036854775808 ≤ n) (h1 : n ≤ 9223372036854775807) (w : World) (htab : Lib.TabIs Tryz.prog w "internal/strconv.uint64pow10" .u64 Lib.pow10Tab) :
  Calls Tryz.prog 105 #[.int .i64 n] w fun e w' => e = .returned (.string ⟨(Lib.itoa n).toArray⟩) ∧ ∃ k os, w' = grow (w.drewN k) os := Any.strconv_Itoa Tryz.laysM171 n h0 h1 w htab
def Tryz.laysM173_ren : Go.Shelf.Ren := ⟨fun | 173 => 81 | 246 => 127 | 283 => 152 | 284 => 153 | 285 => 154 | 286 => 155 | 129 => 168 | 317 => 167 | 318 => 169 | 319 => 170 | 320 => 171 | 337 => 174 | 338 => 175 | n => n, fun | 2 => 2 | 3 => 3 | 9 => 9 | 4 => 4 | 171 => 163 | 0 => 0 | 53 => 164 | 37 => 68 | 5 => 5 | 173 => 167 | 212 => 177 | 51 => 178 | 20 => 20 | 213 => 179 | 46 => 180 | 232 => 190 | 233 => 191 | n => n, fun | 17 => 2 | 18 => 4 | 19 => 5 | n => n⟩
theorem Tryz.laysM173 : Go.Proofs.LaysM.n173 Tryz.prog Tryz.laysM173_ren := {
 mixed := by kernel_rfl
 f129 := Tryz.func168.trans (congrArg some (by kernel_rfl))
 f173 := Tryz.func81.trans (congrArg some (by kernel_rfl))
 f246 := Tryz.func127.trans (congrArg some (by kernel_rfl))
 f283 := Tryz.func152.trans (congrArg some (by kernel_rfl))
 f284 := Tryz.func153.trans (congrArg some (by kernel_rfl))
 f285 := Tryz.func154.trans (congrArg some (by kernel_rfl))
 f286 := Tryz.func155.trans (congrArg some (by kernel_rfl))
 f317 := Tryz.func167.trans (congrArg some (by kernel_rfl))
 f318 := Tryz.func169.trans (congrArg some (by kernel_rfl))
 f319 := Tryz.func170.trans (congrArg some (by kernel_rfl))
 f320 := Tryz.func171.trans (congrArg some (by kernel_rfl))
 f337 := Tryz.func174.trans (congrArg some (by kernel_rfl))
 f338 := Tryz.func175.trans (congrArg some (by kernel_rfl))
 t0 := Tryz.underlying0
 a0 := Tryz.isAgg0
 z0 := Tryz.sizeOf0
 v0 := Tryz.zeroValue0
 t2 := Tryz.underlying2
 a2 := Tryz.isAgg2
 z2 := Tryz.sizeOf2
 v2 := Tryz.zeroValue2
 t3 := Tryz.underlying3
 a3 := Tryz.isAgg3
 z3 := Tryz.sizeOf3
 v3 := Tryz.zeroValue3
 t4 := Tryz.underlying4
 a4 := Tryz.isAgg4
 z4 := Tryz.sizeOf4
 v4 := Tryz.zeroValue4
 t5 := Tryz.underlying5
 a5 := Tryz.isAgg5
 z5 := Tryz.sizeOf5
 v5 := Tryz.zeroValue5
 t9 := Tryz.underlying9
 a9 := Tryz.isAgg9
 z9 := Tryz.sizeOf9
 v9 := Tryz.zeroValue9
 t20 := Tryz.underlying20
 a20 := Tryz.isAgg20
 z20 := Tryz.sizeOf20
 v20 := Tryz.zeroValue20
 t37 := Tryz.underlying68
 a37 := Tryz.isAgg68
 z37 := Tryz.sizeOf68
 v37 := Tryz.zeroValue68
 t46 := Tryz.underlying180
 a46 := Tryz.isAgg180
 z46 := Tryz.sizeOf180
 v46 := Tryz.zeroValue180
 t51 := Tryz.underlying178
 a51 := Tryz.isAgg178
 z51 := Tryz.sizeOf178
 v51 := Tryz.zeroValue178
 t53 := Tryz.underlying164
 a53 := Tryz.isAgg164
 z53 := Tryz.sizeOf164
 v53 := Tryz.zeroValue164
 t171 := Tryz.underlying163
 a171 := Tryz.isAgg163
 z171 := Tryz.sizeOf163
 v171 := Tryz.zeroValue163
 t173 := Tryz.underlying167
 a173 := Tryz.isAgg167
 z173 := Tryz.sizeOf167
 v173 := Tryz.zeroValue167
 t212 := Tryz.underlying177
 a212 := Tryz.isAgg177
 z212 := Tryz.sizeOf177
 v212 := Tryz.zeroValue177
 t213 := Tryz.underlying179
 a213 := Tryz.isAgg179
 z213 := Tryz.sizeOf179
 t232 := Tryz.underlying190
 a232 := Tryz.isAgg190
 z232 := Tryz.sizeOf190
 v232 := Tryz.zeroValue190
 t233 := Tryz.underlying191
 a233 := Tryz.isAgg191
 z233 := Tryz.sizeOf191
 v233 := Tryz.zeroValue191
 g17 := by kernel_rfl
 g18 := by kernel_rfl
 g19 := by kernel_rfl
 i0 := by kernel_rfl
 i2 := by kernel_rfl
 i3 := by kernel_rfl
 i4 := by kernel_rfl
 i5 := by kernel_rfl
 i9 := by kernel_rfl
 i20 := by kernel_rfl
 i37 := by kernel_rfl
 i46 := by kernel_rfl
 i51 := by kernel_rfl
 i53 := by kernel_rfl
 i171 := by kernel_rfl
 i173 := by kernel_rfl
 i212 := by kernel_rfl
 i232 := by kernel_rfl
 i233 := by kernel_rfl
 m17 := by kernel_rfl
 m18 := by kernel_rfl
 m19 := by kernel_rfl }
open Go.RowKit Go.Sort Go.Lib in
theorem Tryz.strconv_FormatInt_10 (n : Int) (h0 : -9223372036854775808 ≤ n) (h1 : n ≤ 9223372036854775807) (w : World) (htab : Lib.TabIs Tryz.prog w "internal/strconv.uint64pow10" .u64 Lib.pow10Tab) :
  Calls Tryz.prog 81 #[.int .i64 n, .int .i64 10] w fun e w' => e = .returned (.string ⟨(Lib.itoa n).toArray⟩) ∧ ∃ k os, w' = grow (w.drewN k) os := Any.strconv_FormatInt_10 Tryz.laysM173 n h0 h1 w htab
def Tryz.laysC174_ren : Go.Shelf.Ren := ⟨fun | 174 => 160 | 247 => 172 | 245 => 173 | 287 => 176 | 279 => 177 | 280 => 178 | 281 => 179 | 282 => 180 | 321 => 181 | 322 => 182 | 316 => 183 | 171 => 105 | 205 => 184 | 243 => 139 | 246 => 127 | 283 => 152 | 284 => 153 | 285 => 154 | 286 => 155 | 129 => 168 | 317 => 167 | 318 => 169 | 319 => 170 | 320 => 171 | 337 => 174 | 338 => 175 | n => n, fun | 9 => 9 | 3 => 3 | 2 => 2 | 75 => 120 | 85 => 170 | 4 => 4 | 167 => 184 | 5 => 5 | 53 => 164 | 175 => 185 | 46 => 180 | 168 => 187 | 37 => 68 | 0 => 0 | 210 => 194 | 21 => 21 | 127 => 126 | 145 => 198 | 143 => 196 | 171 => 163 | 173 => 167 | 212 => 177 | 51 => 178 | 20 => 20 | 213 => 179 | 232 => 190 | 233 => 191 | 80 => 72 | n => n, fun | 15 => 6 | 16 => 7 | 17 => 2 | 18 => 4 | 19 => 5 | n => n⟩
theorem Tryz.laysC174 : Go.Proofs.LaysC.n174 Tryz.prog Tryz.laysC174_ren := {
 mixed := by kernel_rfl
 f129 := Tryz.func168.trans (congrArg some (by kernel_rfl))
 f171 := Tryz.func105.trans (congrArg some (by kernel_rfl))
 f174 := Tryz.func160.trans (congrArg some (by kernel_rfl))
 f205 := Tryz.func184.trans (congrArg some (by kernel_rfl))
 f243 := Tryz.func139.trans (congrArg some (by kernel_rfl))
 f245 := Tryz.func173.trans (congrArg some (by kernel_rfl))
 f246 := Tryz.func127.trans (congrArg some (by kernel_rfl))
 f247 := Tryz.func172.trans (congrArg some (by kernel_rfl))
 f279 := Tryz.func177.trans (congrArg some (by kernel_rfl))
 f280 := Tryz.func178.trans (congrArg some (by kernel_rfl))
 f281 := Tryz.func179.trans (congrArg some (by kernel_rfl))
 f282 := Tryz.func180.trans (congrArg some (by kernel_rfl))
 f283 := Tryz.func152.trans (congrArg some (by kernel_rfl))
 f284 := Tryz.func153.trans (congrArg some (by kernel_rfl))
 f285 := Tryz.func154.trans (congrArg some (by kernel_rfl))
 f286 := Tryz.func155.trans (congrArg some (by kernel_rfl))
 f287 := Tryz.func176.trans (congrArg some (by kernel_rfl))
 f316 := Tryz.func183.trans (congrArg some (by kernel_rfl))
 f317 := Tryz.func167.trans (congrArg some (by kernel_rfl))
 f318 := Tryz.func169.trans (congrArg some (by kernel_rfl))
 f319 := Tryz.func170.trans (congrArg some (by kernel_rfl))
 f320 := Tryz.func171.trans (congrArg some (by kernel_rfl))
 f321 := Tryz.func181.trans (congrArg some (by kernel_rfl))
 f322 := Tryz.func182.trans (congrArg some (by kernel_rfl))
 f337 := Tryz.func174.trans (congrArg some (by kernel_rfl))
 f338 := Tryz.func175.trans (congrArg some (by kernel_rfl))
 t0 := Tryz.underlying0
 a0 := Tryz.isAgg0
 z0 := Tryz.sizeOf0
 v0 := Tryz.zeroValue0
 t2 := Tryz.underlying2
 a2 := Tryz.isAgg2
 z2 := Tryz.sizeOf2
 v2 := Tryz.zeroValue2
 t3 := Tryz.underlying3
 a3 := Tryz.isAgg3
 z3 := Tryz.sizeOf3
 v3 := Tryz.zeroValue3
 t4 := Tryz.underlying4
 a4 := Tryz.isAgg4
 z4 := Tryz.sizeOf4
 v4 := Tryz.zeroValue4
 t5 := Tryz.underlying5
 a5 := Tryz.isAgg5
 z5 := Tryz.sizeOf5
 v5 := Tryz.zeroValue5
 t9 := Tryz.underlying9
 a9 := Tryz.isAgg9
 z9 := Tryz.sizeOf9
 v9 := Tryz.zeroValue9
 t20 := Tryz.underlying20
 a20 := Tryz.isAgg20
 z20 := Tryz.sizeOf20
 v20 := Tryz.zeroValue20
 t21 := Tryz.underlying21
 a21 := Tryz.isAgg21
 z21 := Tryz.sizeOf21
 v21 := Tryz.zeroValue21
 t37 := Tryz.underlying68
 a37 := Tryz.isAgg68
 z37 := Tryz.sizeOf68
 v37 := Tryz.zeroValue68
 t46 := Tryz.underlying180
 a46 := Tryz.isAgg180
 z46 := Tryz.sizeOf180
 v46 := Tryz.zeroValue180
 t51 := Tryz.underlying178
 a51 := Tryz.isAgg178
 z51 := Tryz.sizeOf178
 v51 := Tryz.zeroValue178
 t53 := Tryz.underlying164
 a53 := Tryz.isAgg164
 z53 := Tryz.sizeOf164
 v53 := Tryz.zeroValue164
 t75 := Tryz.underlying120
 a75 := Tryz.isAgg120
 z75 := Tryz.sizeOf120
 v75 := Tryz.zeroValue120
 t85 := Tryz.underlying170
 a85 := Tryz.isAgg170
 z85 := Tryz.sizeOf170
 v85 := Tryz.zeroValue170
 t127 := Tryz.underlying126
 a127 := Tryz.isAgg126
 z127 := Tryz.sizeOf126
 v127 := Tryz.zeroValue126
 t143 := Tryz.underlying196
 a143 := Tryz.isAgg196
 z143 := Tryz.sizeOf196
 v143 := Tryz.zeroValue196
 t145 := Tryz.underlying198
 a145 := Tryz.isAgg198
 z145 := Tryz.sizeOf198
 v145 := Tryz.zeroValue198
 t167 := Tryz.underlying184
 a167 := Tryz.isAgg184
 z167 := Tryz.sizeOf184
 v167 := Tryz.zeroValue184
 t168 := Tryz.underlying187
 a168 := Tryz.isAgg187
 z168 := Tryz.sizeOf187
 v168 := Tryz.zeroValue187
 t171 := Tryz.underlying163
 a171 := Tryz.isAgg163
 z171 := Tryz.sizeOf163
 v171 := Tryz.zeroValue163
 t173 := Tryz.underlying167
 a173 := Tryz.isAgg167
 z173 := Tryz.sizeOf167
 v173 := Tryz.zeroValue167
 t175 := Tryz.underlying185
 a175 := Tryz.isAgg185
 z175 := Tryz.sizeOf185
 v175 := Tryz.zeroValue185
 t210 := Tryz.underlying194
 a210 := Tryz.isAgg194
 z210 := Tryz.sizeOf194
 v210 := Tryz.zeroValue194
 t212 := Tryz.underlying177
 a212 := Tryz.isAgg177
 z212 := Tryz.sizeOf177
 v212 := Tryz.zeroValue177
 t213 := Tryz.underlying179
 a213 := Tryz.isAgg179
 z213 := Tryz.sizeOf179
 t232 := Tryz.underlying190
 a232 := Tryz.isAgg190
 z232 := Tryz.sizeOf190
 v232 := Tryz.zeroValue190
 t233 := Tryz.underlying191
 a233 := Tryz.isAgg191
 z233 := Tryz.sizeOf191
 v233 := Tryz.zeroValue191
 g15 := by kernel_rfl
 g16 := by kernel_rfl
 g17 := by kernel_rfl
 g18 := by kernel_rfl
 g19 := by kernel_rfl
 t80 := Tryz.underlying72
 a80 := Tryz.isAgg72
 z80 := Tryz.sizeOf72
 v80 := Tryz.zeroValue72
 i0 := by kernel_rfl
 i2 := by kernel_rfl
 i3 := by kernel_rfl
 i4 := by kernel_rfl
 i5 := by kernel_rfl
 i9 := by kernel_rfl
 i20 := by kernel_rfl
 i21 := by kernel_rfl
 i37 := by kernel_rfl
 i46 := by kernel_rfl
 i51 := by kernel_rfl
 i53 := by kernel_rfl
 i75 := by kernel_rfl
 i80 := by kernel_rfl
 i85 := by kernel_rfl
 i127 := by kernel_rfl
 i143 := by kernel_rfl
 i145 := by kernel_rfl
 i167 := by kernel_rfl
 i168 := by kernel_rfl
 i171 := by kernel_rfl
 i173 := by kernel_rfl
 i175 := by kernel_rfl
 i210 := by kernel_rfl
 i212 := by kernel_rfl
 i232 := by kernel_rfl
 i233 := by kernel_rfl
 m15 := by kernel_rfl
 m16 := by kernel_rfl
 m17 := by kernel_rfl
 m18 := by kernel_rfl
 m19 := by kernel_rfl
 c0 := by kernel_rfl
 c2 := by kernel_rfl
 c3 := by kernel_rfl
 c4 := by kernel_rfl
 c5 := by kernel_rfl
 c9 := by kernel_rfl
 c20 := by kernel_rfl
 c21 := by kernel_rfl
 c37 := by kernel_rfl
 c46 := by kernel_rfl
 c51 := by kernel_rfl
 c53 := by kernel_rfl
 c75 := by kernel_rfl
 c80 := by kernel_rfl
 c85 := by kernel_rfl
 c127 := by kernel_rfl
 c143 := by kernel_rfl
 c145 := by kernel_rfl
 c167 := by kernel_rfl
 c168 := by kernel_rfl
 c171 := by kernel_rfl
 c173 := by kernel_rfl
 c175 := by kernel_rfl
 c210 := by kernel_rfl
 c212 := by kernel_rfl
 c213 := by kernel_rfl
 c232 := by kernel_rfl
 c233 := by kernel_rfl }
open Go.RowKit in
theorem Tryz.strconv_ParseInt_10_at64_ok (s : ByteArray) (hmax : s.size ≤ 9223372036854775806) (v : Int) (h : Lib.parseIntB 64 s.data.toList = .ok v) (w : World) :
  Calls Tryz.prog 160 #[.string s, .int .i64 10, .int .i64 64] w fun e w' => e = .returned (.tuple #[.int .i64 v, .nilIface]) ∧ (w' = w ∨ ∃ t, w' = Lib.bytesWorld w 5 t) := Any.strconv_ParseInt_10_at64_ok Tryz.laysC174 s hmax v h w
def Tryz.laysGw15_ren : Go.Shelf.Ren := ⟨fun | 15 => 141 | 20 => 162 | n => n, fun | 9 => 9 | 23 => 159 | 3 => 3 | 4 => 4 | 0 => 0 | 21 => 21 | n => n, fun | n => n⟩
theorem Tryz.laysGw15 : Go.Proofs.LaysGw.n15 Tryz.prog Tryz.laysGw15_ren := {
 mixed := by kernel_rfl
 f15 := Tryz.func141.trans (congrArg some (by kernel_rfl))
 f20 := Tryz.func162.trans (congrArg some (by kernel_rfl))
 t0 := Tryz.underlying0
 a0 := Tryz.isAgg0
 z0 := Tryz.sizeOf0
 v0 := Tryz.zeroValue0
 i0 := by kernel_rfl
 t3 := Tryz.underlying3
 a3 := Tryz.isAgg3
 z3 := Tryz.sizeOf3
 v3 := Tryz.zeroValue3
 i3 := by kernel_rfl
 t4 := Tryz.underlying4
 a4 := Tryz.isAgg4
 z4 := Tryz.sizeOf4
 v4 := Tryz.zeroValue4
 i4 := by kernel_rfl
 t9 := Tryz.underlying9
 a9 := Tryz.isAgg9
 z9 := Tryz.sizeOf9
 v9 := Tryz.zeroValue9
 i9 := by kernel_rfl
 t21 := Tryz.underlying21
 a21 := Tryz.isAgg21
 z21 := Tryz.sizeOf21
 v21 := Tryz.zeroValue21
 i21 := by kernel_rfl
 t23 := Tryz.underlying159
 a23 := Tryz.isAgg159
 z23 := Tryz.sizeOf159
 v23 := Tryz.zeroValue159
 i23 := by kernel_rfl }
open Go.RowKit Go.Lib in
theorem Tryz.strings_IndexFunc (g : Nat) (lb : Array Value) (eg : ∀ args w, (callFunc g args).run Tryz.prog w = .ok (.enter g args) w) (p : Nat → Bool) (s : ByteArray) (w : World) (hp : PredAt Tryz.prog g lb encR p w) :
  Calls Tryz.prog 141 #[.string s, .func (.func g) #[] lb] w fun e w' => e = .returned (.int .i64 (Lib.idxFunc p true s)) ∧ Below w.heap.size w w' := Any.strings_IndexFunc Tryz.laysGw15 g lb eg p s w hp
def Tryz.lays110_ren : Go.Shelf.Ren := ⟨fun | 110 => 132 | 109 => 158 | n => n, fun | 31 => 110 | 9 => 9 | 4 => 4 | 3 => 3 | 0 => 0 | n => n, fun | n => n⟩
theorem Tryz.lays110 : Go.Proofs.Lays.n110 Tryz.prog Tryz.lays110_ren := {
 mixed := by kernel_rfl
 f109 := Tryz.func158.trans (congrArg some (by kernel_rfl))
 f110 := Tryz.func132.trans (congrArg some (by kernel_rfl))
 t0 := Tryz.underlying0
 a0 := Tryz.isAgg0
 z0 := Tryz.sizeOf0
 v0 := Tryz.zeroValue0
 t3 := Tryz.underlying3
 a3 := Tryz.isAgg3
 z3 := Tryz.sizeOf3
 v3 := Tryz.zeroValue3
 t4 := Tryz.underlying4
 a4 := Tryz.isAgg4
 z4 := Tryz.sizeOf4
 v4 := Tryz.zeroValue4
 t9 := Tryz.underlying9
 a9 := Tryz.isAgg9
 z9 := Tryz.sizeOf9
 v9 := Tryz.zeroValue9
 t31 := Tryz.underlying110
 a31 := Tryz.isAgg110
 z31 := Tryz.sizeOf110
 v31 := Tryz.zeroValue110 }
open Go.Lib in
theorem Tryz.slices_Contains_string (b off n c : Nat) (zs : List ByteArray) (x : ByteArray) (w : World) (hz : n ≤ zs.length) (hbig : n ≤ 9223372036854775807) (hc : ∀ j, j < zs.length → w.cell? ⟨b, off + j, none⟩ = some (.string (zs.getD j ByteArray.empty))) :
  Calls Tryz.prog 132 #[.slice (some ⟨b, off, none⟩) n c, .string x] w fun e w' => e = .returned (.bool (Lib.containsS (zs.take n) x)) ∧ w' = w := Any.slices_Contains_string Tryz.lays110 b off n c zs x w hz hbig hc
end Go.Proofs
