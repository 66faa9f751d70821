import Derived.Test.YtgagnohelibaoaaDoorProg
import Derived.Shelf.SlSortCmp.NoneTotal
import Derived.KernelRfl
/-! The contract of slices.SortFunc at the verbs: which of its numbers is which here. -/
namespace Go.Proofs
open Go.Shelf
def Tryd.sortV_ren : Go.Shelf.Ren := ⟨fun | 6 => 27 | 15 => 38 | 14 => 37 | 28 => 52 | 29 => 53 | 20 => 44 | 21 => 45 | 22 => 46 | 23 => 47 | 24 => 48 | 25 => 49 | 26 => 50 | 27 => 51 | 46 => 55 | 47 => 56 | 48 => 57 | 49 => 58 | 50 => 59 | 57 => 64 | n => n, fun | 22 => 40 | 24 => 35 | 25 => 56 | 3 => 3 | 39 => 73 | 0 => 0 | 53 => 97 | 55 => 99 | 4 => 4 | 46 => 90 | 45 => 89 | 50 => 94 | 5 => 5 | 9 => 9 | 66 => 100 | 70 => 104 | 76 => 108 | 77 => 109 | n => n, fun n => n⟩
set_option maxRecDepth 100000 in
theorem Tryd.sortV : SlLaysF0.n6 Tryd.prog Tryd.sortV_ren where
  mixed := by kernel_rfl
  f6 := ⟨ "slices.SortFunc[[]wharfinger/api.Verb,wharfinger/api.Verb]", by decide, Tryd.func27.trans (congrArg some (by kernel_rfl))⟩
  f14 := ⟨ "slices.pdqsortCmpFunc[wharfinger/api.Verb]", by decide, Tryd.func37.trans (congrArg some (by kernel_rfl))⟩
  f15 := Tryd.func38.trans (congrArg some (by kernel_rfl))
  f20 := ⟨ "slices.insertionSortCmpFunc[wharfinger/api.Verb]", by decide, Tryd.func44.trans (congrArg some (by kernel_rfl))⟩
  f21 := ⟨ "slices.heapSortCmpFunc[wharfinger/api.Verb]", by decide, Tryd.func45.trans (congrArg some (by kernel_rfl))⟩
  f22 := ⟨ "slices.breakPatternsCmpFunc[wharfinger/api.Verb]", by decide, Tryd.func46.trans (congrArg some (by kernel_rfl))⟩
  f23 := ⟨ "slices.choosePivotCmpFunc[wharfinger/api.Verb]", by decide, Tryd.func47.trans (congrArg some (by kernel_rfl))⟩
  f24 := ⟨ "slices.reverseRangeCmpFunc[wharfinger/api.Verb]", by decide, Tryd.func48.trans (congrArg some (by kernel_rfl))⟩
  f25 := ⟨ "slices.partialInsertionSortCmpFunc[wharfinger/api.Verb]", by decide, Tryd.func49.trans (congrArg some (by kernel_rfl))⟩
  f26 := ⟨ "slices.partitionEqualCmpFunc[wharfinger/api.Verb]", by decide, Tryd.func50.trans (congrArg some (by kernel_rfl))⟩
  f27 := ⟨ "slices.partitionCmpFunc[wharfinger/api.Verb]", by decide, Tryd.func51.trans (congrArg some (by kernel_rfl))⟩
  f28 := Tryd.func52.trans (congrArg some (by kernel_rfl))
  f29 := Tryd.func53.trans (congrArg some (by kernel_rfl))
  f46 := ⟨ "slices.siftDownCmpFunc[wharfinger/api.Verb]", by decide, Tryd.func55.trans (congrArg some (by kernel_rfl))⟩
  f47 := Tryd.func56.trans (congrArg some (by kernel_rfl))
  f48 := Tryd.func57.trans (congrArg some (by kernel_rfl))
  f49 := ⟨ "slices.medianAdjacentCmpFunc[wharfinger/api.Verb]", by decide, Tryd.func58.trans (congrArg some (by kernel_rfl))⟩
  f50 := ⟨ "slices.medianCmpFunc[wharfinger/api.Verb]", by decide, Tryd.func59.trans (congrArg some (by kernel_rfl))⟩
  f57 := ⟨ "slices.order2CmpFunc[wharfinger/api.Verb]", by decide, Tryd.func64.trans (congrArg some (by kernel_rfl))⟩
  t0 := Tryd.underlying0
  a0 := Tryd.isAgg0
  z0 := Tryd.sizeOf0
  v0 := Tryd.zeroValue0
  t3 := Tryd.underlying3
  a3 := Tryd.isAgg3
  z3 := Tryd.sizeOf3
  v3 := Tryd.zeroValue3
  t4 := Tryd.underlying4
  a4 := Tryd.isAgg4
  z4 := Tryd.sizeOf4
  v4 := Tryd.zeroValue4
  t5 := Tryd.underlying5
  a5 := Tryd.isAgg5
  z5 := Tryd.sizeOf5
  v5 := Tryd.zeroValue5
  t9 := Tryd.underlying9
  a9 := Tryd.isAgg9
  z9 := Tryd.sizeOf9
  v9 := Tryd.zeroValue9
  t22 := Tryd.underlying40
  a22 := Tryd.isAgg40
  z22 := Tryd.sizeOf40
  v22 := Tryd.zeroValue40
  t25 := Tryd.underlying56
  a25 := Tryd.isAgg56
  z25 := Tryd.sizeOf56
  v25 := Tryd.zeroValue56
  t39 := Tryd.underlying73
  a39 := Tryd.isAgg73
  z39 := Tryd.sizeOf73
  v39 := Tryd.zeroValue73
  t45 := Tryd.underlying89
  a45 := Tryd.isAgg89
  z45 := Tryd.sizeOf89
  v45 := Tryd.zeroValue89
  t46 := Tryd.underlying90
  a46 := Tryd.isAgg90
  z46 := Tryd.sizeOf90
  v46 := Tryd.zeroValue90
  t50 := Tryd.underlying94
  a50 := Tryd.isAgg94
  z50 := Tryd.sizeOf94
  v50 := Tryd.zeroValue94
  t53 := Tryd.underlying97
  a53 := Tryd.isAgg97
  z53 := Tryd.sizeOf97
  v53 := Tryd.zeroValue97
  t55 := Tryd.underlying99
  a55 := Tryd.isAgg99
  z55 := Tryd.sizeOf99
  v55 := Tryd.zeroValue99
  t66 := Tryd.underlying100
  a66 := Tryd.isAgg100
  z66 := Tryd.sizeOf100
  v66 := Tryd.zeroValue100
  t70 := Tryd.underlying104
  a70 := Tryd.isAgg104
  z70 := Tryd.sizeOf104
  v70 := Tryd.zeroValue104
  t76 := Tryd.underlying108
  a76 := Tryd.isAgg108
  z76 := Tryd.sizeOf108
  v76 := Tryd.zeroValue108
  t77 := Tryd.underlying109
  a77 := Tryd.isAgg109
  z77 := Tryd.sizeOf109
  v77 := Tryd.zeroValue109
end Go.Proofs
