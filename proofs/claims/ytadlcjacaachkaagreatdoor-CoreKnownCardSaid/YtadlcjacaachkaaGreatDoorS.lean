/-
  DERIVED: THE SHELF's CONTRACTS AT THIS DUMP, IN PLAIN WORDS (tools/lay-plain.mjs out of 'YtadlcjacaachkaaGreatDoorShelf.lean', which tools/lay-shelf.mjs wrote): THE SAME DECLARATIONS UNDER THE SAME NAMES: 'import', 'namespace', 'open', 'def', 'theorem' AND NOTHING ELSE: no command of the shelf's: FOR A HAND-IN. Each laying: the table of numbers ('.._ren') and one theorem, a field a fact of the dump's own or the kernel's comparison; each contract: ONE APPLICATION.
-/
import Derived.Ground.SlsfProg
import Derived.Ground.NamesProg
import Derived.Shelf.SlSortCmp.WholeK
import Derived.Test.YtadlcjacaachkaaGreatDoorProg
namespace Go.Proofs
open Go.Shelf
def Tryz.sortPt_ren : Go.Shelf.Ren := ⟨fun | 6 => 177 | 15 => 187 | 14 => 186 | 28 => 198 | 29 => 128 | 20 => 190 | 21 => 191 | 22 => 192 | 23 => 193 | 24 => 194 | 25 => 195 | 26 => 196 | 27 => 197 | 46 => 199 | 47 => 200 | 48 => 201 | 49 => 202 | 50 => 203 | 57 => 204 | n => n, fun | 22 => 161 | 24 => 203 | 25 => 245 | 3 => 3 | 39 => 151 | 0 => 0 | 53 => 149 | 55 => 195 | 4 => 4 | 46 => 255 | 45 => 254 | 50 => 158 | 5 => 5 | 9 => 9 | 66 => 260 | 70 => 264 | 76 => 266 | 77 => 267 | n => n, fun | n => n⟩
theorem Tryz.sortPt : Go.Proofs.SlLaysF0.n6 Tryz.prog Tryz.sortPt_ren := {
  mixed := by kernel_rfl
  f6 := ⟨Tryz.f177.name, by decide, Tryz.func177.trans (congrArg some (by kernel_rfl))⟩
  f14 := ⟨Tryz.f186.name, by decide, Tryz.func186.trans (congrArg some (by kernel_rfl))⟩
  f15 := Tryz.func187.trans (congrArg some (by kernel_rfl))
  f20 := ⟨Tryz.f190.name, by decide, Tryz.func190.trans (congrArg some (by kernel_rfl))⟩
  f21 := ⟨Tryz.f191.name, by decide, Tryz.func191.trans (congrArg some (by kernel_rfl))⟩
  f22 := ⟨Tryz.f192.name, by decide, Tryz.func192.trans (congrArg some (by kernel_rfl))⟩
  f23 := ⟨Tryz.f193.name, by decide, Tryz.func193.trans (congrArg some (by kernel_rfl))⟩
  f24 := ⟨Tryz.f194.name, by decide, Tryz.func194.trans (congrArg some (by kernel_rfl))⟩
  f25 := ⟨Tryz.f195.name, by decide, Tryz.func195.trans (congrArg some (by kernel_rfl))⟩
  f26 := ⟨Tryz.f196.name, by decide, Tryz.func196.trans (congrArg some (by kernel_rfl))⟩
  f27 := ⟨Tryz.f197.name, by decide, Tryz.func197.trans (congrArg some (by kernel_rfl))⟩
  f28 := Tryz.func198.trans (congrArg some (by kernel_rfl))
  f29 := Tryz.func128.trans (congrArg some (by kernel_rfl))
  f46 := ⟨Tryz.f199.name, by decide, Tryz.func199.trans (congrArg some (by kernel_rfl))⟩
  f47 := Tryz.func200.trans (congrArg some (by kernel_rfl))
  f48 := Tryz.func201.trans (congrArg some (by kernel_rfl))
  f49 := ⟨Tryz.f202.name, by decide, Tryz.func202.trans (congrArg some (by kernel_rfl))⟩
  f50 := ⟨Tryz.f203.name, by decide, Tryz.func203.trans (congrArg some (by kernel_rfl))⟩
  f57 := ⟨Tryz.f204.name, by decide, Tryz.func204.trans (congrArg some (by kernel_rfl))⟩
  t0 := Tryz.underlying0
  a0 := Tryz.isAgg0
  z0 := Tryz.sizeOf0
  v0 := Tryz.zeroValue0
  t3 := Tryz.underlying3
  a3 := Tryz.isAgg3
  z3 := Tryz.sizeOf3
  v3 := Tryz.zeroValue3
  t4 := Tryz.underlying4
  a4 := Tryz.isAgg4
  z4 := Tryz.sizeOf4
  v4 := Tryz.zeroValue4
  t5 := Tryz.underlying5
  a5 := Tryz.isAgg5
  z5 := Tryz.sizeOf5
  v5 := Tryz.zeroValue5
  t9 := Tryz.underlying9
  a9 := Tryz.isAgg9
  z9 := Tryz.sizeOf9
  v9 := Tryz.zeroValue9
  t22 := Tryz.underlying161
  a22 := Tryz.isAgg161
  z22 := Tryz.sizeOf161
  v22 := Tryz.zeroValue161
  t25 := Tryz.underlying245
  a25 := Tryz.isAgg245
  z25 := Tryz.sizeOf245
  v25 := Tryz.zeroValue245
  t39 := Tryz.underlying151
  a39 := Tryz.isAgg151
  z39 := Tryz.sizeOf151
  v39 := Tryz.zeroValue151
  t45 := Tryz.underlying254
  a45 := Tryz.isAgg254
  z45 := Tryz.sizeOf254
  v45 := Tryz.zeroValue254
  t46 := Tryz.underlying255
  a46 := Tryz.isAgg255
  z46 := Tryz.sizeOf255
  v46 := Tryz.zeroValue255
  t50 := Tryz.underlying158
  a50 := Tryz.isAgg158
  z50 := Tryz.sizeOf158
  v50 := Tryz.zeroValue158
  t53 := Tryz.underlying149
  a53 := Tryz.isAgg149
  z53 := Tryz.sizeOf149
  v53 := Tryz.zeroValue149
  t55 := Tryz.underlying195
  a55 := Tryz.isAgg195
  z55 := Tryz.sizeOf195
  v55 := Tryz.zeroValue195
  t66 := Tryz.underlying260
  a66 := Tryz.isAgg260
  z66 := Tryz.sizeOf260
  v66 := Tryz.zeroValue260
  t70 := Tryz.underlying264
  a70 := Tryz.isAgg264
  z70 := Tryz.sizeOf264
  v70 := Tryz.zeroValue264
  t76 := Tryz.underlying266
  a76 := Tryz.isAgg266
  z76 := Tryz.sizeOf266
  v76 := Tryz.zeroValue266
  t77 := Tryz.underlying267
  a77 := Tryz.isAgg267
  z77 := Tryz.sizeOf267
  v77 := Tryz.zeroValue267 }
end Go.Proofs
