/-
 DERIVED: THE SHELF's CONTRACTS AT THIS DUMP, IN PLAIN WORDS (tools/lay-plain.mjs out of 'YtnnbibmmofnkdaaGreatShelf.lean', which tools/lay-shelf.mjs wrote): THE SAME DECLARATIONS UNDER THE SAME NAMES: 'import', 'namespace', 'open', 'def', 'theorem' AND NOTHING ELSE: no command of the shelf's: FOR A HAND-IN. Each laying: the table of numbers ('.._ren') and one theorem, a field a fact of the dump's own or the kernel's comparison; each contract: ONE APPLICATION.
-/
import Derived.Shelf.SlSortCmp.WholeK
import Derived.Shelf.SlSortCmp.NoneTotal
import Derived.Shelf.SlGeneric
import Derived.Ground.SlsfProg
import Derived.Test.YtnnbibmmofnkdaaGreatProg
namespace Go.Proofs
open Go.Shelf
def Tryz.sortE_ren : Go.Shelf.Ren := ⟨fun | 6 => 170 | 15 => 99 | 14 => 175 | 28 => 132 | 29 => 133 | 20 => 177 | 21 => 178 | 22 => 179 | 23 => 180 | 24 => 181 | 25 => 182 | 26 => 183 | 27 => 184 | 46 => 185 | 47 => 150 | 48 => 151 | 49 => 186 | 50 => 187 | 57 => 188 | n => n, fun | 22 => 241 | 24 => 244 | 25 => 268 | 3 => 3 | 39 => 203 | 0 => 0 | 53 => 227 | 55 => 229 | 4 => 4 | 46 => 220 | 45 => 219 | 50 => 224 | 5 => 5 | 9 => 9 | 66 => 249 | 70 => 253 | 76 => 265 | 77 => 231 | n => n, fun | n => n⟩
theorem Tryz.sortE : Go.Proofs.SlLaysF0.n6 Tryz.prog Tryz.sortE_ren := {
 mixed := by kernel_rfl
 f6 := ⟨Tryz.f170.name, by decide, Tryz.func170.trans (congrArg some (by kernel_rfl))⟩
 f14 := ⟨Tryz.f175.name, by decide, Tryz.func175.trans (congrArg some (by kernel_rfl))⟩
 f15 := Tryz.func99.trans (congrArg some (by kernel_rfl))
 f20 := ⟨Tryz.f177.name, by decide, Tryz.func177.trans (congrArg some (by kernel_rfl))⟩
 f21 := ⟨Tryz.f178.name, by decide, Tryz.func178.trans (congrArg some (by kernel_rfl))⟩
 f22 := ⟨Tryz.f179.name, by decide, Tryz.func179.trans (congrArg some (by kernel_rfl))⟩
 f23 := ⟨Tryz.f180.name, by decide, Tryz.func180.trans (congrArg some (by kernel_rfl))⟩
 f24 := ⟨Tryz.f181.name, by decide, Tryz.func181.trans (congrArg some (by kernel_rfl))⟩
 f25 := ⟨Tryz.f182.name, by decide, Tryz.func182.trans (congrArg some (by kernel_rfl))⟩
 f26 := ⟨Tryz.f183.name, by decide, Tryz.func183.trans (congrArg some (by kernel_rfl))⟩
 f27 := ⟨Tryz.f184.name, by decide, Tryz.func184.trans (congrArg some (by kernel_rfl))⟩
 f28 := Tryz.func132.trans (congrArg some (by kernel_rfl))
 f29 := Tryz.func133.trans (congrArg some (by kernel_rfl))
 f46 := ⟨Tryz.f185.name, by decide, Tryz.func185.trans (congrArg some (by kernel_rfl))⟩
 f47 := Tryz.func150.trans (congrArg some (by kernel_rfl))
 f48 := Tryz.func151.trans (congrArg some (by kernel_rfl))
 f49 := ⟨Tryz.f186.name, by decide, Tryz.func186.trans (congrArg some (by kernel_rfl))⟩
 f50 := ⟨Tryz.f187.name, by decide, Tryz.func187.trans (congrArg some (by kernel_rfl))⟩
 f57 := ⟨Tryz.f188.name, by decide, Tryz.func188.trans (congrArg some (by kernel_rfl))⟩
 t0 := Tryz.underlying0
 a0 := Tryz.isAgg0
 z0 := Tryz.sizeOf0
 v0 := Tryz.zeroValue0
 t3 := Tryz.underlying3
 a3 := Tryz.isAgg3
 z3 := Tryz.sizeOf3
 v3 := Tryz.zeroValue3
 t4 := Tryz.underlying4
 a4 := Tryz.isAgg4
 z4 := Tryz.sizeOf4
 v4 := Tryz.zeroValue4
 t5 := Tryz.underlying5
 a5 := Tryz.isAgg5
 z5 := Tryz.sizeOf5
 v5 := Tryz.zeroValue5
 t9 := Tryz.underlying9
 a9 := Tryz.isAgg9
 z9 := Tryz.sizeOf9
 v9 := Tryz.zeroValue9
 t22 := Tryz.underlying241
 a22 := Tryz.isAgg241
 z22 := Tryz.sizeOf241
 v22 := Tryz.zeroValue241
 t25 := Tryz.underlying268
 a25 := Tryz.isAgg268
 z25 := Tryz.sizeOf268
 v25 := Tryz.zeroValue268
 t39 := Tryz.underlying203
 a39 := Tryz.isAgg203
 z39 := Tryz.sizeOf203
 v39 := Tryz.zeroValue203
 t45 := Tryz.underlying219
 a45 := Tryz.isAgg219
 z45 := Tryz.sizeOf219
 v45 := Tryz.zeroValue219
 t46 := Tryz.underlying220
 a46 := Tryz.isAgg220
 z46 := Tryz.sizeOf220
 v46 := Tryz.zeroValue220
 t50 := Tryz.underlying224
 a50 := Tryz.isAgg224
 z50 := Tryz.sizeOf224
 v50 := Tryz.zeroValue224
 t53 := Tryz.underlying227
 a53 := Tryz.isAgg227
 z53 := Tryz.sizeOf227
 v53 := Tryz.zeroValue227
 t55 := Tryz.underlying229
 a55 := Tryz.isAgg229
 z55 := Tryz.sizeOf229
 v55 := Tryz.zeroValue229
 t66 := Tryz.underlying249
 a66 := Tryz.isAgg249
 z66 := Tryz.sizeOf249
 v66 := Tryz.zeroValue249
 t70 := Tryz.underlying253
 a70 := Tryz.isAgg253
 z70 := Tryz.sizeOf253
 v70 := Tryz.zeroValue253
 t76 := Tryz.underlying265
 a76 := Tryz.isAgg265
 z76 := Tryz.sizeOf265
 v76 := Tryz.zeroValue265
 t77 := Tryz.underlying231
 a77 := Tryz.isAgg231
 z77 := Tryz.sizeOf231
 v77 := Tryz.zeroValue231 }
end Go.Proofs
