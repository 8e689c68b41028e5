/- slices.Sort at numbers: the shelf's contract, laid at this program (numbers of the seat of payrolllaw15; printed by wip/tools/lay.py but for the last theorem). -/
import Derived.Test.YtpaeomgnmimjoaaDoorPvSort
import Derived.Shelf.SortM.Plain
import Derived.Shelf.SortM.SortNone
set_option linter.unusedSimpArgs false
set_option linter.unusedVariables false
set_option maxRecDepth 100000
namespace Go.Proofs.YtpaeomgnmimjoaaDoor
open Go.MapKept Go.RowKit Go.Shelf Go.Sort
def sortA_ren : Go.Shelf.Ren := ⟨fun | 5 => 26 | 8 => 32 | 7 => 31 | 19 => 46 | 20 => 47 | 10 => 37 | 11 => 38 | 12 => 39 | 13 => 40 | 14 => 41 | 15 => 42 | 16 => 43 | 17 => 44 | 18 => 45 | 30 => 50 | 31 => 51 | 32 => 52 | 33 => 53 | 34 => 54 | 35 => 55 | 40 => 56 | n => n, fun | 23 => 22 | 25 => 3 | 3 => 3 | 32 => 68 | 22 => 22 | 0 => 0 | 44 => 78 | 46 => 80 | 4 => 4 | 36 => 71 | 35 => 70 | 41 => 55 | 5 => 5 | 9 => 9 | 53 => 82 | 57 => 86 | 63 => 88 | 64 => 89 | n => n, fun | n => n⟩
theorem sortA : SlLaysM.n5 Tryd.prog sortA_ren where
  mixed := by kernel_rfl
  f5 := ⟨ "slices.Sort[[]int,int]", by decide, Tryd.func26.trans (congrArg some (by kernel_rfl))⟩
  f7 := ⟨ "slices.pdqsortOrdered[int]", by decide, Tryd.func31.trans (congrArg some (by kernel_rfl))⟩
  f8 := Tryd.func32.trans (congrArg some (by kernel_rfl))
  f10 := ⟨ "slices.insertionSortOrdered[int]", by decide, Tryd.func37.trans (congrArg some (by kernel_rfl))⟩
  f11 := ⟨ "slices.heapSortOrdered[int]", by decide, Tryd.func38.trans (congrArg some (by kernel_rfl))⟩
  f12 := ⟨ "slices.breakPatternsOrdered[int]", by decide, Tryd.func39.trans (congrArg some (by kernel_rfl))⟩
  f13 := ⟨ "slices.choosePivotOrdered[int]", by decide, Tryd.func40.trans (congrArg some (by kernel_rfl))⟩
  f14 := ⟨ "slices.reverseRangeOrdered[int]", by decide, Tryd.func41.trans (congrArg some (by kernel_rfl))⟩
  f15 := ⟨ "slices.partialInsertionSortOrdered[int]", by decide, Tryd.func42.trans (congrArg some (by kernel_rfl))⟩
  f16 := ⟨ "cmp.Less[int]", by decide, Tryd.func43.trans (congrArg some (by kernel_rfl))⟩
  f17 := ⟨ "slices.partitionEqualOrdered[int]", by decide, Tryd.func44.trans (congrArg some (by kernel_rfl))⟩
  f18 := ⟨ "slices.partitionOrdered[int]", by decide, Tryd.func45.trans (congrArg some (by kernel_rfl))⟩
  f19 := Tryd.func46.trans (congrArg some (by kernel_rfl))
  f20 := Tryd.func47.trans (congrArg some (by kernel_rfl))
  f30 := ⟨ "slices.siftDownOrdered[int]", by decide, Tryd.func50.trans (congrArg some (by kernel_rfl))⟩
  f31 := Tryd.func51.trans (congrArg some (by kernel_rfl))
  f32 := Tryd.func52.trans (congrArg some (by kernel_rfl))
  f33 := ⟨ "slices.medianAdjacentOrdered[int]", by decide, Tryd.func53.trans (congrArg some (by kernel_rfl))⟩
  f34 := ⟨ "slices.medianOrdered[int]", by decide, Tryd.func54.trans (congrArg some (by kernel_rfl))⟩
  f35 := ⟨ "cmp.isNaN[int]", by decide, Tryd.func55.trans (congrArg some (by kernel_rfl))⟩
  f40 := ⟨ "slices.order2Ordered[int]", by decide, Tryd.func56.trans (congrArg some (by kernel_rfl))⟩
  t0 := Tryd.underlying0
  a0 := Tryd.isAgg0
  z0 := Tryd.sizeOf0
  v0 := Tryd.zeroValue0
  t3 := Tryd.underlying3
  a3 := Tryd.isAgg3
  z3 := Tryd.sizeOf3
  v3 := Tryd.zeroValue3
  t4 := Tryd.underlying4
  a4 := Tryd.isAgg4
  z4 := Tryd.sizeOf4
  v4 := Tryd.zeroValue4
  t5 := Tryd.underlying5
  a5 := Tryd.isAgg5
  z5 := Tryd.sizeOf5
  v5 := Tryd.zeroValue5
  t9 := Tryd.underlying9
  a9 := Tryd.isAgg9
  z9 := Tryd.sizeOf9
  v9 := Tryd.zeroValue9
  t22 := Tryd.underlying22
  a22 := Tryd.isAgg22
  z22 := Tryd.sizeOf22
  v22 := Tryd.zeroValue22
  t23 := Tryd.underlying22
  a23 := Tryd.isAgg22
  z23 := Tryd.sizeOf22
  v23 := Tryd.zeroValue22
  t25 := Tryd.underlying3
  a25 := Tryd.isAgg3
  z25 := Tryd.sizeOf3
  v25 := Tryd.zeroValue3
  t32 := Tryd.underlying68
  a32 := Tryd.isAgg68
  z32 := Tryd.sizeOf68
  v32 := Tryd.zeroValue68
  t35 := Tryd.underlying70
  a35 := Tryd.isAgg70
  z35 := Tryd.sizeOf70
  v35 := Tryd.zeroValue70
  t36 := Tryd.underlying71
  a36 := Tryd.isAgg71
  z36 := Tryd.sizeOf71
  v36 := Tryd.zeroValue71
  t41 := Tryd.underlying55
  a41 := Tryd.isAgg55
  z41 := Tryd.sizeOf55
  v41 := Tryd.zeroValue55
  t44 := Tryd.underlying78
  a44 := Tryd.isAgg78
  z44 := Tryd.sizeOf78
  v44 := Tryd.zeroValue78
  t46 := Tryd.underlying80
  a46 := Tryd.isAgg80
  z46 := Tryd.sizeOf80
  v46 := Tryd.zeroValue80
  t53 := Tryd.underlying82
  a53 := Tryd.isAgg82
  z53 := Tryd.sizeOf82
  v53 := Tryd.zeroValue82
  t57 := Tryd.underlying86
  a57 := Tryd.isAgg86
  z57 := Tryd.sizeOf86
  v57 := Tryd.zeroValue86
  t63 := Tryd.underlying88
  a63 := Tryd.isAgg88
  z63 := Tryd.sizeOf88
  v63 := Tryd.zeroValue88
  t64 := Tryd.underlying89
  a64 := Tryd.isAgg89
  z64 := Tryd.sizeOf89
  v64 := Tryd.zeroValue89
theorem sortC : SortC G.P 26 where
  ok := callOk_of Tryd.func26 rfl rfl
  run := fun blk off cap zs w h1 h2 h3 => AnyM.slices_Sort_int sortA blk off cap zs w h1 h2 h3
  nil := fun p cap w => AnyM.slices_Sort_int_none sortA p cap w
end Go.Proofs.YtpaeomgnmimjoaaDoor
