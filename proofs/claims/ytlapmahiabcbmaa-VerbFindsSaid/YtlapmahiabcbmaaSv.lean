import Derived.Test.YtlapmahiabcbmaaProg
import Derived.Shelf.SlSortCmp.NoneTotal
import Derived.KernelRfl
/-! The contract of slices.SortFunc at the verbs: which of its numbers is which here. -/
namespace Go.Proofs
open Go.Shelf
def Try.sortV_ren : Go.Shelf.Ren := ⟨fun | 6 => 16 | 15 => 20 | 14 => 19 | 28 => 30 | 29 => 31 | 20 => 22 | 21 => 23 | 22 => 24 | 23 => 25 | 24 => 26 | 25 => 27 | 26 => 28 | 27 => 29 | 46 => 32 | 47 => 33 | 48 => 34 | 49 => 35 | 50 => 36 | 57 => 37 | n => n, fun | 22 => 27 | 24 => 24 | 25 => 39 | 3 => 3 | 39 => 42 | 0 => 0 | 53 => 52 | 55 => 54 | 4 => 4 | 46 => 45 | 45 => 44 | 50 => 49 | 5 => 5 | 9 => 9 | 66 => 55 | 70 => 59 | 76 => 61 | 77 => 62 | n => n, fun n => n⟩
set_option maxRecDepth 100000 in
theorem Try.sortV : SlLaysF0.n6 Try.prog Try.sortV_ren where
  mixed := by kernel_rfl
  f6 := ⟨ "slices.SortFunc[[]wharfinger/api.Verb,wharfinger/api.Verb]", by decide, Try.func16.trans (congrArg some (by kernel_rfl))⟩
  f14 := ⟨ "slices.pdqsortCmpFunc[wharfinger/api.Verb]", by decide, Try.func19.trans (congrArg some (by kernel_rfl))⟩
  f15 := Try.func20.trans (congrArg some (by kernel_rfl))
  f20 := ⟨ "slices.insertionSortCmpFunc[wharfinger/api.Verb]", by decide, Try.func22.trans (congrArg some (by kernel_rfl))⟩
  f21 := ⟨ "slices.heapSortCmpFunc[wharfinger/api.Verb]", by decide, Try.func23.trans (congrArg some (by kernel_rfl))⟩
  f22 := ⟨ "slices.breakPatternsCmpFunc[wharfinger/api.Verb]", by decide, Try.func24.trans (congrArg some (by kernel_rfl))⟩
  f23 := ⟨ "slices.choosePivotCmpFunc[wharfinger/api.Verb]", by decide, Try.func25.trans (congrArg some (by kernel_rfl))⟩
  f24 := ⟨ "slices.reverseRangeCmpFunc[wharfinger/api.Verb]", by decide, Try.func26.trans (congrArg some (by kernel_rfl))⟩
  f25 := ⟨ "slices.partialInsertionSortCmpFunc[wharfinger/api.Verb]", by decide, Try.func27.trans (congrArg some (by kernel_rfl))⟩
  f26 := ⟨ "slices.partitionEqualCmpFunc[wharfinger/api.Verb]", by decide, Try.func28.trans (congrArg some (by kernel_rfl))⟩
  f27 := ⟨ "slices.partitionCmpFunc[wharfinger/api.Verb]", by decide, Try.func29.trans (congrArg some (by kernel_rfl))⟩
  f28 := Try.func30.trans (congrArg some (by kernel_rfl))
  f29 := Try.func31.trans (congrArg some (by kernel_rfl))
  f46 := ⟨ "slices.siftDownCmpFunc[wharfinger/api.Verb]", by decide, Try.func32.trans (congrArg some (by kernel_rfl))⟩
  f47 := Try.func33.trans (congrArg some (by kernel_rfl))
  f48 := Try.func34.trans (congrArg some (by kernel_rfl))
  f49 := ⟨ "slices.medianAdjacentCmpFunc[wharfinger/api.Verb]", by decide, Try.func35.trans (congrArg some (by kernel_rfl))⟩
  f50 := ⟨ "slices.medianCmpFunc[wharfinger/api.Verb]", by decide, Try.func36.trans (congrArg some (by kernel_rfl))⟩
  f57 := ⟨ "slices.order2CmpFunc[wharfinger/api.Verb]", by decide, Try.func37.trans (congrArg some (by kernel_rfl))⟩
  t0 := Try.underlying0
  a0 := Try.isAgg0
  z0 := Try.sizeOf0
  v0 := Try.zeroValue0
  t3 := Try.underlying3
  a3 := Try.isAgg3
  z3 := Try.sizeOf3
  v3 := Try.zeroValue3
  t4 := Try.underlying4
  a4 := Try.isAgg4
  z4 := Try.sizeOf4
  v4 := Try.zeroValue4
  t5 := Try.underlying5
  a5 := Try.isAgg5
  z5 := Try.sizeOf5
  v5 := Try.zeroValue5
  t9 := Try.underlying9
  a9 := Try.isAgg9
  z9 := Try.sizeOf9
  v9 := Try.zeroValue9
  t22 := Try.underlying27
  a22 := Try.isAgg27
  z22 := Try.sizeOf27
  v22 := Try.zeroValue27
  t25 := Try.underlying39
  a25 := Try.isAgg39
  z25 := Try.sizeOf39
  v25 := Try.zeroValue39
  t39 := Try.underlying42
  a39 := Try.isAgg42
  z39 := Try.sizeOf42
  v39 := Try.zeroValue42
  t45 := Try.underlying44
  a45 := Try.isAgg44
  z45 := Try.sizeOf44
  v45 := Try.zeroValue44
  t46 := Try.underlying45
  a46 := Try.isAgg45
  z46 := Try.sizeOf45
  v46 := Try.zeroValue45
  t50 := Try.underlying49
  a50 := Try.isAgg49
  z50 := Try.sizeOf49
  v50 := Try.zeroValue49
  t53 := Try.underlying52
  a53 := Try.isAgg52
  z53 := Try.sizeOf52
  v53 := Try.zeroValue52
  t55 := Try.underlying54
  a55 := Try.isAgg54
  z55 := Try.sizeOf54
  v55 := Try.zeroValue54
  t66 := Try.underlying55
  a66 := Try.isAgg55
  z66 := Try.sizeOf55
  v66 := Try.zeroValue55
  t70 := Try.underlying59
  a70 := Try.isAgg59
  z70 := Try.sizeOf59
  v70 := Try.zeroValue59
  t76 := Try.underlying61
  a76 := Try.isAgg61
  z76 := Try.sizeOf61
  v76 := Try.zeroValue61
  t77 := Try.underlying62
  a77 := Try.isAgg62
  z77 := Try.sizeOf62
  v77 := Try.zeroValue62
end Go.Proofs
