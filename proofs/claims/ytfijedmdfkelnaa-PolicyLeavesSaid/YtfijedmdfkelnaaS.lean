/-
  DERIVED: THE SHELF's CONTRACTS AT THIS DUMP, IN PLAIN WORDS (tools/lay-plain.mjs out of 'YtfijedmdfkelnaaShelf.lean', which tools/lay-shelf.mjs wrote): THE SAME DECLARATIONS UNDER THE SAME NAMES: 'import', 'namespace', 'open', 'def', 'theorem' AND NOTHING ELSE: no command of the shelf's: FOR A HAND-IN. Each laying: the table of numbers ('.._ren') and one theorem, a field a fact of the dump's own or the kernel's comparison; each contract: ONE APPLICATION.
-/
import Derived.Ground.SlsfProg
import Derived.Ground.NamesProg
import Derived.Shelf.SlSortCmp.WholeK
import Derived.Test.YtfijedmdfkelnaaProg
namespace Go.Proofs
open Go.Shelf
def Try.sortPt_ren : Go.Shelf.Ren := ⟨fun | 6 => 119 | 15 => 127 | 14 => 126 | 28 => 136 | 29 => 137 | 20 => 128 | 21 => 129 | 22 => 130 | 23 => 131 | 24 => 132 | 25 => 133 | 26 => 134 | 27 => 135 | 46 => 138 | 47 => 139 | 48 => 140 | 49 => 141 | 50 => 142 | 57 => 143 | n => n, fun | 22 => 105 | 24 => 128 | 25 => 167 | 3 => 3 | 39 => 135 | 0 => 0 | 53 => 142 | 55 => 183 | 4 => 4 | 46 => 176 | 45 => 175 | 50 => 100 | 5 => 5 | 9 => 9 | 66 => 184 | 70 => 188 | 76 => 190 | 77 => 191 | n => n, fun | n => n⟩
theorem Try.sortPt : Go.Proofs.SlLaysF0.n6 Try.prog Try.sortPt_ren := {
  mixed := by kernel_rfl
  f6 := ⟨Try.f119.name, by decide, Try.func119.trans (congrArg some (by kernel_rfl))⟩
  f14 := ⟨Try.f126.name, by decide, Try.func126.trans (congrArg some (by kernel_rfl))⟩
  f15 := Try.func127.trans (congrArg some (by kernel_rfl))
  f20 := ⟨Try.f128.name, by decide, Try.func128.trans (congrArg some (by kernel_rfl))⟩
  f21 := ⟨Try.f129.name, by decide, Try.func129.trans (congrArg some (by kernel_rfl))⟩
  f22 := ⟨Try.f130.name, by decide, Try.func130.trans (congrArg some (by kernel_rfl))⟩
  f23 := ⟨Try.f131.name, by decide, Try.func131.trans (congrArg some (by kernel_rfl))⟩
  f24 := ⟨Try.f132.name, by decide, Try.func132.trans (congrArg some (by kernel_rfl))⟩
  f25 := ⟨Try.f133.name, by decide, Try.func133.trans (congrArg some (by kernel_rfl))⟩
  f26 := ⟨Try.f134.name, by decide, Try.func134.trans (congrArg some (by kernel_rfl))⟩
  f27 := ⟨Try.f135.name, by decide, Try.func135.trans (congrArg some (by kernel_rfl))⟩
  f28 := Try.func136.trans (congrArg some (by kernel_rfl))
  f29 := Try.func137.trans (congrArg some (by kernel_rfl))
  f46 := ⟨Try.f138.name, by decide, Try.func138.trans (congrArg some (by kernel_rfl))⟩
  f47 := Try.func139.trans (congrArg some (by kernel_rfl))
  f48 := Try.func140.trans (congrArg some (by kernel_rfl))
  f49 := ⟨Try.f141.name, by decide, Try.func141.trans (congrArg some (by kernel_rfl))⟩
  f50 := ⟨Try.f142.name, by decide, Try.func142.trans (congrArg some (by kernel_rfl))⟩
  f57 := ⟨Try.f143.name, by decide, Try.func143.trans (congrArg some (by kernel_rfl))⟩
  t0 := Try.underlying0
  a0 := Try.isAgg0
  z0 := Try.sizeOf0
  v0 := Try.zeroValue0
  t3 := Try.underlying3
  a3 := Try.isAgg3
  z3 := Try.sizeOf3
  v3 := Try.zeroValue3
  t4 := Try.underlying4
  a4 := Try.isAgg4
  z4 := Try.sizeOf4
  v4 := Try.zeroValue4
  t5 := Try.underlying5
  a5 := Try.isAgg5
  z5 := Try.sizeOf5
  v5 := Try.zeroValue5
  t9 := Try.underlying9
  a9 := Try.isAgg9
  z9 := Try.sizeOf9
  v9 := Try.zeroValue9
  t22 := Try.underlying105
  a22 := Try.isAgg105
  z22 := Try.sizeOf105
  v22 := Try.zeroValue105
  t25 := Try.underlying167
  a25 := Try.isAgg167
  z25 := Try.sizeOf167
  v25 := Try.zeroValue167
  t39 := Try.underlying135
  a39 := Try.isAgg135
  z39 := Try.sizeOf135
  v39 := Try.zeroValue135
  t45 := Try.underlying175
  a45 := Try.isAgg175
  z45 := Try.sizeOf175
  v45 := Try.zeroValue175
  t46 := Try.underlying176
  a46 := Try.isAgg176
  z46 := Try.sizeOf176
  v46 := Try.zeroValue176
  t50 := Try.underlying100
  a50 := Try.isAgg100
  z50 := Try.sizeOf100
  v50 := Try.zeroValue100
  t53 := Try.underlying142
  a53 := Try.isAgg142
  z53 := Try.sizeOf142
  v53 := Try.zeroValue142
  t55 := Try.underlying183
  a55 := Try.isAgg183
  z55 := Try.sizeOf183
  v55 := Try.zeroValue183
  t66 := Try.underlying184
  a66 := Try.isAgg184
  z66 := Try.sizeOf184
  v66 := Try.zeroValue184
  t70 := Try.underlying188
  a70 := Try.isAgg188
  z70 := Try.sizeOf188
  v70 := Try.zeroValue188
  t76 := Try.underlying190
  a76 := Try.isAgg190
  z76 := Try.sizeOf190
  v76 := Try.zeroValue190
  t77 := Try.underlying191
  a77 := Try.isAgg191
  z77 := Try.sizeOf191
  v77 := Try.zeroValue191 }
end Go.Proofs
