/-
  DERIVED: THE SHELF's CONTRACTS AT THIS DUMP, IN PLAIN WORDS (tools/lay-plain.mjs out of 'YtpcmihgfcaelfaaSrt0.lean', which tools/lay-shelf.mjs wrote): THE SAME DECLARATIONS UNDER THE SAME NAMES: 'import', 'namespace', 'open', 'def', 'theorem' AND NOTHING ELSE: no command of the shelf's: FOR A HAND-IN. Each laying: the table of numbers ('.._ren') and one theorem, a field a fact of the dump's own or the kernel's comparison; each contract: ONE APPLICATION.
-/
import Derived.Shelf.SlSortCmp.WholeK
import Derived.Test.YtpcmihgfcaelfaaProg
namespace Go.Proofs
open Go.Shelf
def Try.sortL_ren : Go.Shelf.Ren := ⟨fun | 6 => 58 | 15 => 73 | 14 => 72 | 28 => 90 | 29 => 91 | 20 => 82 | 21 => 83 | 22 => 84 | 23 => 85 | 24 => 86 | 25 => 87 | 26 => 88 | 27 => 89 | 46 => 93 | 47 => 94 | 48 => 95 | 49 => 96 | 50 => 97 | 57 => 98 | n => n, fun | 22 => 38 | 24 => 66 | 25 => 94 | 3 => 3 | 39 => 107 | 0 => 0 | 53 => 125 | 55 => 127 | 4 => 4 | 46 => 119 | 45 => 118 | 50 => 51 | 5 => 5 | 9 => 9 | 66 => 128 | 70 => 132 | 76 => 134 | 77 => 135 | n => n, fun | n => n⟩
theorem Try.sortL : Go.Proofs.SlLaysF0.n6 Try.prog Try.sortL_ren := {
  mixed := by kernel_rfl
  f6 := ⟨Try.f58.name, by decide, Try.func58.trans (congrArg some (by kernel_rfl))⟩
  f14 := ⟨Try.f72.name, by decide, Try.func72.trans (congrArg some (by kernel_rfl))⟩
  f15 := Try.func73.trans (congrArg some (by kernel_rfl))
  f20 := ⟨Try.f82.name, by decide, Try.func82.trans (congrArg some (by kernel_rfl))⟩
  f21 := ⟨Try.f83.name, by decide, Try.func83.trans (congrArg some (by kernel_rfl))⟩
  f22 := ⟨Try.f84.name, by decide, Try.func84.trans (congrArg some (by kernel_rfl))⟩
  f23 := ⟨Try.f85.name, by decide, Try.func85.trans (congrArg some (by kernel_rfl))⟩
  f24 := ⟨Try.f86.name, by decide, Try.func86.trans (congrArg some (by kernel_rfl))⟩
  f25 := ⟨Try.f87.name, by decide, Try.func87.trans (congrArg some (by kernel_rfl))⟩
  f26 := ⟨Try.f88.name, by decide, Try.func88.trans (congrArg some (by kernel_rfl))⟩
  f27 := ⟨Try.f89.name, by decide, Try.func89.trans (congrArg some (by kernel_rfl))⟩
  f28 := Try.func90.trans (congrArg some (by kernel_rfl))
  f29 := Try.func91.trans (congrArg some (by kernel_rfl))
  f46 := ⟨Try.f93.name, by decide, Try.func93.trans (congrArg some (by kernel_rfl))⟩
  f47 := Try.func94.trans (congrArg some (by kernel_rfl))
  f48 := Try.func95.trans (congrArg some (by kernel_rfl))
  f49 := ⟨Try.f96.name, by decide, Try.func96.trans (congrArg some (by kernel_rfl))⟩
  f50 := ⟨Try.f97.name, by decide, Try.func97.trans (congrArg some (by kernel_rfl))⟩
  f57 := ⟨Try.f98.name, by decide, Try.func98.trans (congrArg some (by kernel_rfl))⟩
  t0 := Try.underlying0
  a0 := Try.isAgg0
  z0 := Try.sizeOf0
  v0 := Try.zeroValue0
  t3 := Try.underlying3
  a3 := Try.isAgg3
  z3 := Try.sizeOf3
  v3 := Try.zeroValue3
  t4 := Try.underlying4
  a4 := Try.isAgg4
  z4 := Try.sizeOf4
  v4 := Try.zeroValue4
  t5 := Try.underlying5
  a5 := Try.isAgg5
  z5 := Try.sizeOf5
  v5 := Try.zeroValue5
  t9 := Try.underlying9
  a9 := Try.isAgg9
  z9 := Try.sizeOf9
  v9 := Try.zeroValue9
  t22 := Try.underlying38
  a22 := Try.isAgg38
  z22 := Try.sizeOf38
  v22 := Try.zeroValue38
  t25 := Try.underlying94
  a25 := Try.isAgg94
  z25 := Try.sizeOf94
  v25 := Try.zeroValue94
  t39 := Try.underlying107
  a39 := Try.isAgg107
  z39 := Try.sizeOf107
  v39 := Try.zeroValue107
  t45 := Try.underlying118
  a45 := Try.isAgg118
  z45 := Try.sizeOf118
  v45 := Try.zeroValue118
  t46 := Try.underlying119
  a46 := Try.isAgg119
  z46 := Try.sizeOf119
  v46 := Try.zeroValue119
  t50 := Try.underlying51
  a50 := Try.isAgg51
  z50 := Try.sizeOf51
  v50 := Try.zeroValue51
  t53 := Try.underlying125
  a53 := Try.isAgg125
  z53 := Try.sizeOf125
  v53 := Try.zeroValue125
  t55 := Try.underlying127
  a55 := Try.isAgg127
  z55 := Try.sizeOf127
  v55 := Try.zeroValue127
  t66 := Try.underlying128
  a66 := Try.isAgg128
  z66 := Try.sizeOf128
  v66 := Try.zeroValue128
  t70 := Try.underlying132
  a70 := Try.isAgg132
  z70 := Try.sizeOf132
  v70 := Try.zeroValue132
  t76 := Try.underlying134
  a76 := Try.isAgg134
  z76 := Try.sizeOf134
  v76 := Try.zeroValue134
  t77 := Try.underlying135
  a77 := Try.isAgg135
  z77 := Try.sizeOf135
  v77 := Try.zeroValue135 }
end Go.Proofs
