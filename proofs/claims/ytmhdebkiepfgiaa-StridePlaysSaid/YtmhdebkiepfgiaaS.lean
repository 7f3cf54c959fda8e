/-
  DERIVED: THE SHELF's CONTRACTS AT THIS DUMP, IN PLAIN WORDS (tools/lay-plain.mjs out of 'YtmhdebkiepfgiaaShelf.lean', which tools/lay-shelf.mjs wrote): THE SAME DECLARATIONS UNDER THE SAME NAMES: 'import', 'namespace', 'open', 'def', 'theorem' AND NOTHING ELSE: no command of the shelf's: FOR A HAND-IN. Each laying: the table of numbers ('.._ren') and one theorem, a field a fact of the dump's own or the kernel's comparison; each contract: ONE APPLICATION.
-/
import Derived.Ground.SlsfProg
import Derived.Ground.NamesProg
import Derived.Shelf.SlSortCmp.WholeK
import Derived.Test.YtmhdebkiepfgiaaProg
namespace Go.Proofs
open Go.Shelf
def Try.sortPt_ren : Go.Shelf.Ren := ⟨fun | 6 => 106 | 15 => 131 | 14 => 130 | 28 => 145 | 29 => 146 | 20 => 137 | 21 => 138 | 22 => 139 | 23 => 140 | 24 => 141 | 25 => 142 | 26 => 143 | 27 => 144 | 46 => 147 | 47 => 148 | 48 => 149 | 49 => 150 | 50 => 151 | 57 => 152 | n => n, fun | 22 => 114 | 24 => 123 | 25 => 157 | 3 => 3 | 39 => 167 | 0 => 0 | 53 => 181 | 55 => 194 | 4 => 4 | 46 => 187 | 45 => 186 | 50 => 63 | 5 => 5 | 9 => 9 | 66 => 195 | 70 => 199 | 76 => 201 | 77 => 202 | n => n, fun | n => n⟩
theorem Try.sortPt : Go.Proofs.SlLaysF0.n6 Try.prog Try.sortPt_ren := {
  mixed := by kernel_rfl
  f6 := ⟨Try.f106.name, by decide, Try.func106.trans (congrArg some (by kernel_rfl))⟩
  f14 := ⟨Try.f130.name, by decide, Try.func130.trans (congrArg some (by kernel_rfl))⟩
  f15 := Try.func131.trans (congrArg some (by kernel_rfl))
  f20 := ⟨Try.f137.name, by decide, Try.func137.trans (congrArg some (by kernel_rfl))⟩
  f21 := ⟨Try.f138.name, by decide, Try.func138.trans (congrArg some (by kernel_rfl))⟩
  f22 := ⟨Try.f139.name, by decide, Try.func139.trans (congrArg some (by kernel_rfl))⟩
  f23 := ⟨Try.f140.name, by decide, Try.func140.trans (congrArg some (by kernel_rfl))⟩
  f24 := ⟨Try.f141.name, by decide, Try.func141.trans (congrArg some (by kernel_rfl))⟩
  f25 := ⟨Try.f142.name, by decide, Try.func142.trans (congrArg some (by kernel_rfl))⟩
  f26 := ⟨Try.f143.name, by decide, Try.func143.trans (congrArg some (by kernel_rfl))⟩
  f27 := ⟨Try.f144.name, by decide, Try.func144.trans (congrArg some (by kernel_rfl))⟩
  f28 := Try.func145.trans (congrArg some (by kernel_rfl))
  f29 := Try.func146.trans (congrArg some (by kernel_rfl))
  f46 := ⟨Try.f147.name, by decide, Try.func147.trans (congrArg some (by kernel_rfl))⟩
  f47 := Try.func148.trans (congrArg some (by kernel_rfl))
  f48 := Try.func149.trans (congrArg some (by kernel_rfl))
  f49 := ⟨Try.f150.name, by decide, Try.func150.trans (congrArg some (by kernel_rfl))⟩
  f50 := ⟨Try.f151.name, by decide, Try.func151.trans (congrArg some (by kernel_rfl))⟩
  f57 := ⟨Try.f152.name, by decide, Try.func152.trans (congrArg some (by kernel_rfl))⟩
  t0 := Try.underlying0
  a0 := Try.isAgg0
  z0 := Try.sizeOf0
  v0 := Try.zeroValue0
  t3 := Try.underlying3
  a3 := Try.isAgg3
  z3 := Try.sizeOf3
  v3 := Try.zeroValue3
  t4 := Try.underlying4
  a4 := Try.isAgg4
  z4 := Try.sizeOf4
  v4 := Try.zeroValue4
  t5 := Try.underlying5
  a5 := Try.isAgg5
  z5 := Try.sizeOf5
  v5 := Try.zeroValue5
  t9 := Try.underlying9
  a9 := Try.isAgg9
  z9 := Try.sizeOf9
  v9 := Try.zeroValue9
  t22 := Try.underlying114
  a22 := Try.isAgg114
  z22 := Try.sizeOf114
  v22 := Try.zeroValue114
  t25 := Try.underlying157
  a25 := Try.isAgg157
  z25 := Try.sizeOf157
  v25 := Try.zeroValue157
  t39 := Try.underlying167
  a39 := Try.isAgg167
  z39 := Try.sizeOf167
  v39 := Try.zeroValue167
  t45 := Try.underlying186
  a45 := Try.isAgg186
  z45 := Try.sizeOf186
  v45 := Try.zeroValue186
  t46 := Try.underlying187
  a46 := Try.isAgg187
  z46 := Try.sizeOf187
  v46 := Try.zeroValue187
  t50 := Try.underlying63
  a50 := Try.isAgg63
  z50 := Try.sizeOf63
  v50 := Try.zeroValue63
  t53 := Try.underlying181
  a53 := Try.isAgg181
  z53 := Try.sizeOf181
  v53 := Try.zeroValue181
  t55 := Try.underlying194
  a55 := Try.isAgg194
  z55 := Try.sizeOf194
  v55 := Try.zeroValue194
  t66 := Try.underlying195
  a66 := Try.isAgg195
  z66 := Try.sizeOf195
  v66 := Try.zeroValue195
  t70 := Try.underlying199
  a70 := Try.isAgg199
  z70 := Try.sizeOf199
  v70 := Try.zeroValue199
  t76 := Try.underlying201
  a76 := Try.isAgg201
  z76 := Try.sizeOf201
  v76 := Try.zeroValue201
  t77 := Try.underlying202
  a77 := Try.isAgg202
  z77 := Try.sizeOf202
  v77 := Try.zeroValue202 }
end Go.Proofs
