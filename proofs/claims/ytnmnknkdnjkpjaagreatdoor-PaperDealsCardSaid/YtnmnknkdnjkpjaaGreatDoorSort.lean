/-
  DERIVED: THE SHELF's CONTRACTS AT THIS DUMP, IN PLAIN WORDS (tools/lay-plain.mjs out of 'TryzSort.lean', which tools/lay-shelf.mjs wrote): THE SAME DECLARATIONS UNDER THE SAME NAMES: 'import', 'namespace', 'open', 'def', 'theorem' AND NOTHING ELSE: no command of the shelf's: FOR A HAND-IN. Each laying: the table of numbers ('.._ren') and one theorem, a field a fact of the dump's own or the kernel's comparison; each contract: ONE APPLICATION.
-/
import Derived.Shelf.SlGeneric
import Derived.Shelf.SlSortCmp.NoneTotal
import Derived.Ground.SlsfProg
import Derived.Test.YtnmnknkdnjkpjaaGreatDoorProg
namespace Go.Proofs
open Go.Shelf
def Tryz.laysSort_ren : Go.Shelf.Ren := ⟨fun | 6 => 108 | 15 => 126 | 14 => 125 | 28 => 142 | 29 => 120 | 20 => 134 | 21 => 135 | 22 => 136 | 23 => 137 | 24 => 138 | 25 => 139 | 26 => 140 | 27 => 141 | 46 => 143 | 47 => 144 | 48 => 145 | 49 => 146 | 50 => 147 | 57 => 148 | n => n, fun | 22 => 57 | 24 => 63 | 25 => 166 | 3 => 3 | 39 => 170 | 0 => 0 | 53 => 177 | 55 => 159 | 4 => 4 | 46 => 190 | 45 => 189 | 50 => 194 | 5 => 5 | 9 => 9 | 66 => 201 | 70 => 205 | 76 => 207 | 77 => 208 | n => n, fun | n => n⟩
theorem Tryz.laysSort : Go.Proofs.SlLaysF0.n6 Tryz.prog Tryz.laysSort_ren := {
  mixed := by kernel_rfl
  f6 := ⟨Tryz.f108.name, by decide, Tryz.func108.trans (congrArg some (by kernel_rfl))⟩
  f14 := ⟨Tryz.f125.name, by decide, Tryz.func125.trans (congrArg some (by kernel_rfl))⟩
  f15 := Tryz.func126.trans (congrArg some (by kernel_rfl))
  f20 := ⟨Tryz.f134.name, by decide, Tryz.func134.trans (congrArg some (by kernel_rfl))⟩
  f21 := ⟨Tryz.f135.name, by decide, Tryz.func135.trans (congrArg some (by kernel_rfl))⟩
  f22 := ⟨Tryz.f136.name, by decide, Tryz.func136.trans (congrArg some (by kernel_rfl))⟩
  f23 := ⟨Tryz.f137.name, by decide, Tryz.func137.trans (congrArg some (by kernel_rfl))⟩
  f24 := ⟨Tryz.f138.name, by decide, Tryz.func138.trans (congrArg some (by kernel_rfl))⟩
  f25 := ⟨Tryz.f139.name, by decide, Tryz.func139.trans (congrArg some (by kernel_rfl))⟩
  f26 := ⟨Tryz.f140.name, by decide, Tryz.func140.trans (congrArg some (by kernel_rfl))⟩
  f27 := ⟨Tryz.f141.name, by decide, Tryz.func141.trans (congrArg some (by kernel_rfl))⟩
  f28 := Tryz.func142.trans (congrArg some (by kernel_rfl))
  f29 := Tryz.func120.trans (congrArg some (by kernel_rfl))
  f46 := ⟨Tryz.f143.name, by decide, Tryz.func143.trans (congrArg some (by kernel_rfl))⟩
  f47 := Tryz.func144.trans (congrArg some (by kernel_rfl))
  f48 := Tryz.func145.trans (congrArg some (by kernel_rfl))
  f49 := ⟨Tryz.f146.name, by decide, Tryz.func146.trans (congrArg some (by kernel_rfl))⟩
  f50 := ⟨Tryz.f147.name, by decide, Tryz.func147.trans (congrArg some (by kernel_rfl))⟩
  f57 := ⟨Tryz.f148.name, by decide, Tryz.func148.trans (congrArg some (by kernel_rfl))⟩
  t0 := Tryz.underlying0
  a0 := Tryz.isAgg0
  z0 := Tryz.sizeOf0
  v0 := Tryz.zeroValue0
  t3 := Tryz.underlying3
  a3 := Tryz.isAgg3
  z3 := Tryz.sizeOf3
  v3 := Tryz.zeroValue3
  t4 := Tryz.underlying4
  a4 := Tryz.isAgg4
  z4 := Tryz.sizeOf4
  v4 := Tryz.zeroValue4
  t5 := Tryz.underlying5
  a5 := Tryz.isAgg5
  z5 := Tryz.sizeOf5
  v5 := Tryz.zeroValue5
  t9 := Tryz.underlying9
  a9 := Tryz.isAgg9
  z9 := Tryz.sizeOf9
  v9 := Tryz.zeroValue9
  t22 := Tryz.underlying57
  a22 := Tryz.isAgg57
  z22 := Tryz.sizeOf57
  v22 := Tryz.zeroValue57
  t25 := Tryz.underlying166
  a25 := Tryz.isAgg166
  z25 := Tryz.sizeOf166
  v25 := Tryz.zeroValue166
  t39 := Tryz.underlying170
  a39 := Tryz.isAgg170
  z39 := Tryz.sizeOf170
  v39 := Tryz.zeroValue170
  t45 := Tryz.underlying189
  a45 := Tryz.isAgg189
  z45 := Tryz.sizeOf189
  v45 := Tryz.zeroValue189
  t46 := Tryz.underlying190
  a46 := Tryz.isAgg190
  z46 := Tryz.sizeOf190
  v46 := Tryz.zeroValue190
  t50 := Tryz.underlying194
  a50 := Tryz.isAgg194
  z50 := Tryz.sizeOf194
  v50 := Tryz.zeroValue194
  t53 := Tryz.underlying177
  a53 := Tryz.isAgg177
  z53 := Tryz.sizeOf177
  v53 := Tryz.zeroValue177
  t55 := Tryz.underlying159
  a55 := Tryz.isAgg159
  z55 := Tryz.sizeOf159
  v55 := Tryz.zeroValue159
  t66 := Tryz.underlying201
  a66 := Tryz.isAgg201
  z66 := Tryz.sizeOf201
  v66 := Tryz.zeroValue201
  t70 := Tryz.underlying205
  a70 := Tryz.isAgg205
  z70 := Tryz.sizeOf205
  v70 := Tryz.zeroValue205
  t76 := Tryz.underlying207
  a76 := Tryz.isAgg207
  z76 := Tryz.sizeOf207
  v76 := Tryz.zeroValue207
  t77 := Tryz.underlying208
  a77 := Tryz.isAgg208
  z77 := Tryz.sizeOf208
  v77 := Tryz.zeroValue208 }
end Go.Proofs
