/- slices.SortFunc and math/bits.Mul at this program: the numbers of the shelf's contracts, as its tool reckons them (wip/tools/lay3.py, lay2.py) -/
import Derived.Test.YtonpdclccgpceaaChecked
import Derived.Shelf.SlSortCmp.NoneTotal
import Derived.Shelf.Bits.Mul64
namespace Go.Proofs.Ytonpdclccgpceaa
open Go Go.RowKit

def sortL_ren : Go.Shelf.Ren := ⟨fun | 6 => 59 | 15 => 76 | 14 => 75 | 28 => 93 | 29 => 94 | 20 => 85 | 21 => 86 | 22 => 87 | 23 => 88 | 24 => 89 | 25 => 90 | 26 => 91 | 27 => 92 | 46 => 96 | 47 => 97 | 48 => 98 | 49 => 99 | 50 => 100 | 57 => 101 | n => n, fun | 22 => 49 | 24 => 55 | 25 => 82 | 3 => 3 | 39 => 76 | 0 => 0 | 53 => 74 | 55 => 98 | 4 => 4 | 46 => 103 | 45 => 102 | 50 => 107 | 5 => 5 | 9 => 9 | 66 => 112 | 70 => 116 | 76 => 118 | 77 => 119 | n => n, fun | n => n⟩
theorem sortL : Go.Proofs.SlLaysF0.n6 Try.prog sortL_ren where
  mixed := by kernel_rfl
  f6 := ⟨"slices.SortFunc[[]cspcheck/api.Arc,cspcheck/api.Arc]", by decide, Try.func59.trans (congrArg some (by kernel_rfl))⟩
  f14 := ⟨"slices.pdqsortCmpFunc[cspcheck/api.Arc]", by decide, Try.func75.trans (congrArg some (by kernel_rfl))⟩
  f15 := Try.func76.trans (congrArg some (by kernel_rfl))
  f20 := ⟨"slices.insertionSortCmpFunc[cspcheck/api.Arc]", by decide, Try.func85.trans (congrArg some (by kernel_rfl))⟩
  f21 := ⟨"slices.heapSortCmpFunc[cspcheck/api.Arc]", by decide, Try.func86.trans (congrArg some (by kernel_rfl))⟩
  f22 := ⟨"slices.breakPatternsCmpFunc[cspcheck/api.Arc]", by decide, Try.func87.trans (congrArg some (by kernel_rfl))⟩
  f23 := ⟨"slices.choosePivotCmpFunc[cspcheck/api.Arc]", by decide, Try.func88.trans (congrArg some (by kernel_rfl))⟩
  f24 := ⟨"slices.reverseRangeCmpFunc[cspcheck/api.Arc]", by decide, Try.func89.trans (congrArg some (by kernel_rfl))⟩
  f25 := ⟨"slices.partialInsertionSortCmpFunc[cspcheck/api.Arc]", by decide, Try.func90.trans (congrArg some (by kernel_rfl))⟩
  f26 := ⟨"slices.partitionEqualCmpFunc[cspcheck/api.Arc]", by decide, Try.func91.trans (congrArg some (by kernel_rfl))⟩
  f27 := ⟨"slices.partitionCmpFunc[cspcheck/api.Arc]", by decide, Try.func92.trans (congrArg some (by kernel_rfl))⟩
  f28 := Try.func93.trans (congrArg some (by kernel_rfl))
  f29 := Try.func94.trans (congrArg some (by kernel_rfl))
  f46 := ⟨"slices.siftDownCmpFunc[cspcheck/api.Arc]", by decide, Try.func96.trans (congrArg some (by kernel_rfl))⟩
  f47 := Try.func97.trans (congrArg some (by kernel_rfl))
  f48 := Try.func98.trans (congrArg some (by kernel_rfl))
  f49 := ⟨"slices.medianAdjacentCmpFunc[cspcheck/api.Arc]", by decide, Try.func99.trans (congrArg some (by kernel_rfl))⟩
  f50 := ⟨"slices.medianCmpFunc[cspcheck/api.Arc]", by decide, Try.func100.trans (congrArg some (by kernel_rfl))⟩
  f57 := ⟨"slices.order2CmpFunc[cspcheck/api.Arc]", by decide, Try.func101.trans (congrArg some (by kernel_rfl))⟩
  t0 := Try.underlying0
  a0 := Try.isAgg0
  z0 := Try.sizeOf0
  v0 := Try.zeroValue0
  t3 := Try.underlying3
  a3 := Try.isAgg3
  z3 := Try.sizeOf3
  v3 := Try.zeroValue3
  t4 := Try.underlying4
  a4 := Try.isAgg4
  z4 := Try.sizeOf4
  v4 := Try.zeroValue4
  t5 := Try.underlying5
  a5 := Try.isAgg5
  z5 := Try.sizeOf5
  v5 := Try.zeroValue5
  t9 := Try.underlying9
  a9 := Try.isAgg9
  z9 := Try.sizeOf9
  v9 := Try.zeroValue9
  t22 := Try.underlying49
  a22 := Try.isAgg49
  z22 := Try.sizeOf49
  v22 := Try.zeroValue49
  t25 := Try.underlying82
  a25 := Try.isAgg82
  z25 := Try.sizeOf82
  v25 := Try.zeroValue82
  t39 := Try.underlying76
  a39 := Try.isAgg76
  z39 := Try.sizeOf76
  v39 := Try.zeroValue76
  t45 := Try.underlying102
  a45 := Try.isAgg102
  z45 := Try.sizeOf102
  v45 := Try.zeroValue102
  t46 := Try.underlying103
  a46 := Try.isAgg103
  z46 := Try.sizeOf103
  v46 := Try.zeroValue103
  t50 := Try.underlying107
  a50 := Try.isAgg107
  z50 := Try.sizeOf107
  v50 := Try.zeroValue107
  t53 := Try.underlying74
  a53 := Try.isAgg74
  z53 := Try.sizeOf74
  v53 := Try.zeroValue74
  t55 := Try.underlying98
  a55 := Try.isAgg98
  z55 := Try.sizeOf98
  v55 := Try.zeroValue98
  t66 := Try.underlying112
  a66 := Try.isAgg112
  z66 := Try.sizeOf112
  v66 := Try.zeroValue112
  t70 := Try.underlying116
  a70 := Try.isAgg116
  z70 := Try.sizeOf116
  v70 := Try.zeroValue116
  t76 := Try.underlying118
  a76 := Try.isAgg118
  z76 := Try.sizeOf118
  v76 := Try.zeroValue118
  t77 := Try.underlying119
  a77 := Try.isAgg119
  z77 := Try.sizeOf119
  v77 := Try.zeroValue119

def mulL_ren : Go.Shelf.Ren := ⟨fun | 212 => 74 | 263 => 83 | 264 => 84 | n => n, fun | 46 => 76 | 51 => 74 | 146 => 96 | 53 => 98 | 148 => 99 | n => n, fun | n => n⟩
theorem mulL : Go.Proofs.Lays.n212 Try.prog mulL_ren where
  mixed := by kernel_rfl
  f212 := Try.func74.trans (congrArg some (by kernel_rfl))
  f263 := Try.func83.trans (congrArg some (by kernel_rfl))
  f264 := Try.func84.trans (congrArg some (by kernel_rfl))
  t46 := Try.underlying76
  a46 := Try.isAgg76
  z46 := Try.sizeOf76
  v46 := Try.zeroValue76
  t51 := Try.underlying74
  a51 := Try.isAgg74
  z51 := Try.sizeOf74
  v51 := Try.zeroValue74
  t53 := Try.underlying98
  a53 := Try.isAgg98
  z53 := Try.sizeOf98
  v53 := Try.zeroValue98
  t146 := Try.underlying96
  a146 := Try.isAgg96
  z146 := Try.sizeOf96
  v146 := Try.zeroValue96
  t148 := Try.underlying99
  a148 := Try.isAgg99
  z148 := Try.sizeOf99
  v148 := Try.zeroValue99

end Go.Proofs.Ytonpdclccgpceaa
