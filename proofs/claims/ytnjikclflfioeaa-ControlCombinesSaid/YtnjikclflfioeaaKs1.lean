/- Sorted keys: the shelf's contracts, laid at this program (numbers of this seat; printed by wip/tools/lay.py but for the last theorem). -/
import Derived.Test.YtnjikclflfioeaaKs0
import Derived.Shelf.SlIterI.Nil
import Derived.Shelf.SortM.Plain
import Derived.Shelf.SortM.SortNone
set_option linter.unusedSimpArgs false
set_option linter.unusedVariables false
set_option maxRecDepth 100000
namespace Go.Proofs.Ytnjikclflfioeaa
open Go.MapKept Go.RowKit Go.Shelf Go.Sort
def keysA_ren : Go.Shelf.Ren := ⟨fun | 7 => 29 | 10 => 36 | n => n, fun | 23 => 56 | 26 => 3 | 3 => 3 | 28 => 59 | 0 => 0 | 27 => 58 | 33 => 52 | 4 => 4 | n => n, fun | n => n⟩
theorem keysA : SlLaysZI.n7 Try.prog keysA_ren where
  mixed := by kernel_rfl
  f7 := ⟨ "maps.Keys[map[int]int,int,int]", by decide, Try.func29.trans (congrArg some (by kernel_rfl))⟩
  f10 := ⟨ "maps.Keys[map[int]int,int,int]$1", by decide, Try.func36.trans (congrArg some (by kernel_rfl))⟩
  t0 := Try.underlying0
  a0 := Try.isAgg0
  z0 := Try.sizeOf0
  v0 := Try.zeroValue0
  t4 := Try.underlying4
  a4 := Try.isAgg4
  z4 := Try.sizeOf4
  v4 := Try.zeroValue4
  t23 := Try.underlying56
  a23 := Try.isAgg56
  z23 := Try.sizeOf56
  v23 := Try.zeroValue56
  t26 := Try.underlying3
  a26 := Try.isAgg3
  z26 := Try.sizeOf3
  v26 := Try.zeroValue3
  t27 := Try.underlying58
  a27 := Try.isAgg58
  z27 := Try.sizeOf58
  v27 := Try.zeroValue58
  t28 := Try.underlying59
  a28 := Try.isAgg59
  z28 := Try.sizeOf59
  v28 := Try.zeroValue59
  t33 := Try.underlying52
  a33 := Try.isAgg52
  z33 := Try.sizeOf52
  v33 := Try.zeroValue52
def sortedA_ren : Go.Shelf.Ren := ⟨fun | 6 => 28 | 8 => 34 | 9 => 35 | 11 => 37 | 13 => 39 | 12 => 38 | 23 => 49 | 24 => 50 | 14 => 40 | 15 => 41 | 16 => 42 | 17 => 43 | 18 => 44 | 19 => 45 | 20 => 46 | 21 => 47 | 22 => 48 | 25 => 51 | 26 => 52 | 27 => 53 | 28 => 54 | 29 => 55 | 30 => 56 | 31 => 57 | n => n, fun | 26 => 3 | 28 => 59 | 24 => 22 | 0 => 0 | 3 => 3 | 37 => 68 | 48 => 79 | 50 => 81 | 4 => 4 | 40 => 71 | 39 => 70 | 45 => 76 | 5 => 5 | 9 => 9 | 51 => 82 | 55 => 86 | 57 => 88 | 58 => 89 | 33 => 52 | n => n, fun | n => n⟩
theorem sortedA : SlLaysZI.n6 Try.prog sortedA_ren where
  mixed := by kernel_rfl
  f6 := ⟨ "slices.Sorted[int]", by decide, Try.func28.trans (congrArg some (by kernel_rfl))⟩
  f8 := ⟨ "slices.Collect[int]", by decide, Try.func34.trans (congrArg some (by kernel_rfl))⟩
  f11 := ⟨ "slices.AppendSeq[[]int,int]", by decide, Try.func37.trans (congrArg some (by kernel_rfl))⟩
  t0 := Try.underlying0
  a0 := Try.isAgg0
  z0 := Try.sizeOf0
  v0 := Try.zeroValue0
  t24 := Try.underlying22
  a24 := Try.isAgg22
  z24 := Try.sizeOf22
  v24 := Try.zeroValue22
  t26 := Try.underlying3
  a26 := Try.isAgg3
  z26 := Try.sizeOf3
  v26 := Try.zeroValue3
  t28 := Try.underlying59
  a28 := Try.isAgg59
  z28 := Try.sizeOf59
  v28 := Try.zeroValue59
  i26 := by kernel_rfl
def sortA_ren : Go.Shelf.Ren := ⟨fun | 5 => 35 | 8 => 39 | 7 => 38 | 19 => 49 | 20 => 50 | 10 => 40 | 11 => 41 | 12 => 42 | 13 => 43 | 14 => 44 | 15 => 45 | 16 => 46 | 17 => 47 | 18 => 48 | 30 => 51 | 31 => 52 | 32 => 53 | 33 => 54 | 34 => 55 | 35 => 56 | 40 => 57 | n => n, fun | 23 => 22 | 25 => 3 | 3 => 3 | 32 => 68 | 22 => 22 | 0 => 0 | 44 => 79 | 46 => 81 | 4 => 4 | 36 => 71 | 35 => 70 | 41 => 76 | 5 => 5 | 9 => 9 | 53 => 82 | 57 => 86 | 63 => 88 | 64 => 89 | n => n, fun | n => n⟩
theorem sortA : SlLaysM.n5 Try.prog sortA_ren where
  mixed := by kernel_rfl
  f5 := ⟨ "slices.Sort[[]int,int]", by decide, Try.func35.trans (congrArg some (by kernel_rfl))⟩
  f7 := ⟨ "slices.pdqsortOrdered[int]", by decide, Try.func38.trans (congrArg some (by kernel_rfl))⟩
  f8 := Try.func39.trans (congrArg some (by kernel_rfl))
  f10 := ⟨ "slices.insertionSortOrdered[int]", by decide, Try.func40.trans (congrArg some (by kernel_rfl))⟩
  f11 := ⟨ "slices.heapSortOrdered[int]", by decide, Try.func41.trans (congrArg some (by kernel_rfl))⟩
  f12 := ⟨ "slices.breakPatternsOrdered[int]", by decide, Try.func42.trans (congrArg some (by kernel_rfl))⟩
  f13 := ⟨ "slices.choosePivotOrdered[int]", by decide, Try.func43.trans (congrArg some (by kernel_rfl))⟩
  f14 := ⟨ "slices.reverseRangeOrdered[int]", by decide, Try.func44.trans (congrArg some (by kernel_rfl))⟩
  f15 := ⟨ "slices.partialInsertionSortOrdered[int]", by decide, Try.func45.trans (congrArg some (by kernel_rfl))⟩
  f16 := ⟨ "cmp.Less[int]", by decide, Try.func46.trans (congrArg some (by kernel_rfl))⟩
  f17 := ⟨ "slices.partitionEqualOrdered[int]", by decide, Try.func47.trans (congrArg some (by kernel_rfl))⟩
  f18 := ⟨ "slices.partitionOrdered[int]", by decide, Try.func48.trans (congrArg some (by kernel_rfl))⟩
  f19 := Try.func49.trans (congrArg some (by kernel_rfl))
  f20 := Try.func50.trans (congrArg some (by kernel_rfl))
  f30 := ⟨ "slices.siftDownOrdered[int]", by decide, Try.func51.trans (congrArg some (by kernel_rfl))⟩
  f31 := Try.func52.trans (congrArg some (by kernel_rfl))
  f32 := Try.func53.trans (congrArg some (by kernel_rfl))
  f33 := ⟨ "slices.medianAdjacentOrdered[int]", by decide, Try.func54.trans (congrArg some (by kernel_rfl))⟩
  f34 := ⟨ "slices.medianOrdered[int]", by decide, Try.func55.trans (congrArg some (by kernel_rfl))⟩
  f35 := ⟨ "cmp.isNaN[int]", by decide, Try.func56.trans (congrArg some (by kernel_rfl))⟩
  f40 := ⟨ "slices.order2Ordered[int]", by decide, Try.func57.trans (congrArg some (by kernel_rfl))⟩
  t0 := Try.underlying0
  a0 := Try.isAgg0
  z0 := Try.sizeOf0
  v0 := Try.zeroValue0
  t3 := Try.underlying3
  a3 := Try.isAgg3
  z3 := Try.sizeOf3
  v3 := Try.zeroValue3
  t4 := Try.underlying4
  a4 := Try.isAgg4
  z4 := Try.sizeOf4
  v4 := Try.zeroValue4
  t5 := Try.underlying5
  a5 := Try.isAgg5
  z5 := Try.sizeOf5
  v5 := Try.zeroValue5
  t9 := Try.underlying9
  a9 := Try.isAgg9
  z9 := Try.sizeOf9
  v9 := Try.zeroValue9
  t22 := Try.underlying22
  a22 := Try.isAgg22
  z22 := Try.sizeOf22
  v22 := Try.zeroValue22
  t23 := Try.underlying22
  a23 := Try.isAgg22
  z23 := Try.sizeOf22
  v23 := Try.zeroValue22
  t25 := Try.underlying3
  a25 := Try.isAgg3
  z25 := Try.sizeOf3
  v25 := Try.zeroValue3
  t32 := Try.underlying68
  a32 := Try.isAgg68
  z32 := Try.sizeOf68
  v32 := Try.zeroValue68
  t35 := Try.underlying70
  a35 := Try.isAgg70
  z35 := Try.sizeOf70
  v35 := Try.zeroValue70
  t36 := Try.underlying71
  a36 := Try.isAgg71
  z36 := Try.sizeOf71
  v36 := Try.zeroValue71
  t41 := Try.underlying76
  a41 := Try.isAgg76
  z41 := Try.sizeOf76
  v41 := Try.zeroValue76
  t44 := Try.underlying79
  a44 := Try.isAgg79
  z44 := Try.sizeOf79
  v44 := Try.zeroValue79
  t46 := Try.underlying81
  a46 := Try.isAgg81
  z46 := Try.sizeOf81
  v46 := Try.zeroValue81
  t53 := Try.underlying82
  a53 := Try.isAgg82
  z53 := Try.sizeOf82
  v53 := Try.zeroValue82
  t57 := Try.underlying86
  a57 := Try.isAgg86
  z57 := Try.sizeOf86
  v57 := Try.zeroValue86
  t63 := Try.underlying88
  a63 := Try.isAgg88
  z63 := Try.sizeOf88
  v63 := Try.zeroValue88
  t64 := Try.underlying89
  a64 := Try.isAgg89
  z64 := Try.sizeOf89
  v64 := Try.zeroValue89
theorem sortsA (m : Nat) : AnyZI.SortsIn Try.prog sortedA_ren Fence.wide m :=
  ⟨fun blk off cap ss W hH hblk hsz => callsIn_wide.2 (AnyM.slices_Sort_int sortA blk off cap ss W hH hblk hsz),
   fun p cap W => callsIn_wide.2 (AnyM.slices_Sort_int_none sortA p cap W)⟩
/-- how an element reads: not at all -/
def noR (_ : Value) : Option (DataW Unit × List MemPlace) := some (.nil, [])
theorem wf_i64 {z : Int} (h1 : -9223372036854775808 ≤ z) (h2 : z ≤ 9223372036854775807) : (Lit.int .i64 z).wf = true := by
  have e1 : IntKind.i64.min = -9223372036854775808 := by decide
  have e2 : IntKind.i64.max = 9223372036854775807 := by decide
  show (decide (IntKind.i64.min ≤ z) && decide (z ≤ IntKind.i64.max)) = true
  rw [e1, e2]
  simp [h1, h2]
theorem mx_le : 100000 ≤ maxLen := by decide
theorem ksorted : KeysSorted G.P 29 28 36 56 3 where
  okK := callOk_of Try.func29 rfl rfl
  okS := callOk_of Try.func28 rfl rfl
  keys := fun mb w => callsIn_wide.1 (AnyZI.keys_in keysA Fence.wide 5 trivial rfl mb w)
  sorted := fun w b m es clock hb hst he hbd hlen => by
    have hkey : ∀ x ∈ es.toList, ∃ z : Int, x.key = .int .i64 z ∧ keyOf Try.prog 3 x.key = some (.int .i64 z) := fun x hx => by
      have h1 : (x.key, x.val) ∈ m.map (fun e => (kI e.1, Value.int .i64 e.2)) := by rw [← he]; exact List.mem_map.2 ⟨x, hx, rfl⟩
      obtain ⟨e, he1, he2⟩ := List.mem_map.1 h1
      have h2 : x.key = .int .i64 e.1 := (congrArg Prod.fst he2).symm
      have h3 := hbd e he1
      refine ⟨e.1, h2, ?_⟩
      rw [h2]
      exact Go.Maps.keyOf_int_mk Try.underlying3 (wf_i64 h3.1 h3.2)
    have hes : es.size = m.length := by have := congrArg List.length he; simpa using this
    have hrd : ∀ x ∈ es.toList, ∃ z : Int, x.key = .int .i64 z ∧ Go.WideElems.rd Try.prog 3 noR x = some (.int .i64 z, .nil) := fun x hx => by
      obtain ⟨z, h1, h2⟩ := hkey x hx
      exact ⟨z, h1, by simp [Go.WideElems.rd, h2, noR]⟩
    have hF : Go.WideElems.Fit Try.prog 3 noR es clock := ⟨by rw [hes]; exact Nat.le_trans hlen mx_le, hst, fun x hx => by obtain ⟨z, _, h⟩ := hrd x hx; exact ⟨_, h⟩⟩
    obtain ⟨D0, hD0⟩ : ∃ D0 : DataW Unit, D0 = .map ((es.toList.map (Go.WideElems.rg Try.prog 3 noR)).foldr DataW.insert []) := ⟨_, rfl⟩
    have hperm : (intKeys D0).Perm (m.map (·.1)) := by
      rw [hD0]
      show (((es.toList.map (Go.WideElems.rg Try.prog 3 noR)).foldr DataW.insert []).map fun p => Go.intOf p.1).Perm _
      refine ((Go.WideShapes.sorted_perm _).map _).trans (List.Perm.of_eq ?_)
      rw [List.map_map]
      have h1 : (m.map fun e => (kI e.1, Value.int .i64 e.2)).map (fun p => match p.1 with | .int _ z => z | _ => 0) = m.map (·.1) := by rw [List.map_map]; rfl
      rw [← h1, ← he, List.map_map]
      refine List.map_congr_left fun x hx => ?_
      obtain ⟨z, h2, h3⟩ := hrd x hx
      show Go.intOf (Go.WideElems.rg Try.prog 3 noR x).1 = match x.key with | .int _ z => z | _ => 0
      rw [h2, Go.WideElems.rg, h3]; rfl
    have hsz : Go.Maps.size D0 = m.length := by
      rw [hD0, Go.Maps.size_eq, length_sorted, List.length_map, Array.length_toList, hes]
    have hbl : b < w.heap.size := by
      by_cases h : b < w.heap.size
      · exact h
      · rw [Array.getElem?_eq_none (by omega)] at hb; cases hb
    have hown : (w.alloc (.cells #[.map (some b)] 56)).ownsMap Try.prog 3 noR b m.length D0 := ⟨es, clock, (Below.heap_alloc _ _ b hbl).trans hb, hF, by omega, hD0⟩
    have hseq : SeqGives Fence.wide 2 Try.prog 36 #[.pointer (some ⟨w.heap.size, 0, none⟩)] encZ (fun ss => ss.Perm (intKeys D0)) (Go.Maps.size D0) (w.alloc (.cells #[.map (some b)] 56)) :=
      AnyZI.keys_gives (ρ := keysA_ren) { keysA with } Fence.wide _ trivial rfl (by omega) w.heap.size b m.length D0 _ (by simp) (by simp) hown
    have cS := AnyZI.sorted_in sortedA Fence.wide 5 trivial trivial trivial trivial rfl (by omega) (sortsA _) (enters_of Try.func35 (by kernel_rfl) rfl) 36 #[.pointer (some ⟨w.heap.size, 0, none⟩)] trivial (enters_of Try.func36 (by kernel_rfl) rfl) _ _ (by rw [hsz]; exact Nat.le_trans hlen mx_le) (by rw [hsz]; omega) _ hseq
    change CallsIn _ _ Try.prog 28 _ _ _ at cS
    refine (callsIn_wide.1 cS).mono ?_
    rintro e w' ⟨v, ss, rfl, hS, hrow, hnil, hb2⟩
    have hl : (ss.mergeSort (fun x y => decide (x ≤ y))).length = ss.length := List.length_mergeSort _
    refine ⟨v, ss.mergeSort (fun x y => decide (x ≤ y)), rfl, ((List.mergeSort_perm _ _).trans hS).trans hperm, ?_, hb2, ?_⟩
    · refine (List.pairwise_mergeSort (fun a b c h1 h2 => ?_) (fun a b => ?_) ss).imp fun h => by simpa using h
      · simp at h1 h2 ⊢; omega
      · simp; omega
    · obtain ⟨r1, r2⟩ := hrow
      rcases r2 with ⟨r2, r3⟩ | ⟨gb, cap, cur, r2, r3, r4, r5, r6, r7, r8⟩
      · have : ss = [] := hnil.1 r2
        subst this
        exact .inl ⟨r2, by simp⟩
      · by_cases h0 : ss = []
        · have := hnil.2 h0
          rw [r2] at this; cases this
        · refine .inr ⟨fun h => h0 ?_, gb, cap, cur, by rw [r2, hl], by simpa using r3, r4, by rw [hl]; exact r5, by simpa using r7, ?_⟩
          · rw [h] at hl; exact List.length_eq_zero_iff.1 hl.symm
          · rw [hl]; simpa using r8
end Go.Proofs.Ytnjikclflfioeaa
