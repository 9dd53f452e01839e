import Derived.Shelf.SlIter.Nil
import Derived.Shelf.SortM.Plain
import Derived.Shelf.SortM.SortNone
import Derived.KernelRfl
import Derived.Test.YtlikeadfohahdaaGreatDoorProg
set_option linter.all false
set_option autoImplicit true
set_option relaxedAutoImplicit true
set_option maxRecDepth 100000
/-
  DERIVED. MADE BY PROGRAM (lay-iter.mjs) off ytlikeadfohahdaagreatdoor.cut.gsa: THE SHELF's CONTRACTS ON 'slices.Sorted(maps.Keys(m))' LAID AT THIS DUMP: 2 map types. NO WALK OF THE LIBRARY's TEXT: each is one application of a contract over any P and ρ (Derived/Shelf/SlIter/, Derived/Shelf/SortM/).
-/
namespace Go.Proofs.YtlikeadfohahdaaGreatDoor
open Go.RowKit Go.Maps Go.Sort Go.Shelf
def Tryz.keys40_ren : Ren :=
  {
  f := fun x =>
    match x with
    | 7 => 40
    | 10 => 61
    | n => n,
  t := fun x =>
    match x with
    | 23 => 50
    | 26 => 9
    | 3 => 9
    | 28 => 79
    | 0 => 0
    | 27 => 78
    | 33 => 68
    | 4 => 4
    | n => n,
  g := fun n => n }
theorem Tryz.keys40 : SlLaysZ.n7 Tryz.prog Tryz.keys40_ren where
  mixed := rfl
  f7 := ⟨ "maps.Keys[map[string]string,string,string]", by decide, by kernel_rfl⟩
  f10 := ⟨ "maps.Keys[map[string]string,string,string]$1", by decide, by kernel_rfl⟩
  t0 := Tryz.underlying0
  a0 := Tryz.isAgg0
  z0 := Tryz.sizeOf0
  v0 := Tryz.zeroValue0
  t4 := Tryz.underlying4
  a4 := Tryz.isAgg4
  z4 := Tryz.sizeOf4
  v4 := Tryz.zeroValue4
  t23 := Tryz.underlying50
  a23 := Tryz.isAgg50
  z23 := Tryz.sizeOf50
  v23 := Tryz.zeroValue50
  t26 := Tryz.underlying9
  a26 := Tryz.isAgg9
  z26 := Tryz.sizeOf9
  v26 := Tryz.zeroValue9
  t27 := Tryz.underlying78
  a27 := Tryz.isAgg78
  z27 := Tryz.sizeOf78
  v27 := Tryz.zeroValue78
  t28 := Tryz.underlying79
  a28 := Tryz.isAgg79
  z28 := Tryz.sizeOf79
  v28 := Tryz.zeroValue79
  t33 := Tryz.underlying68
  a33 := Tryz.isAgg68
  z33 := Tryz.sizeOf68
  v33 := Tryz.zeroValue68
def Tryz.sorted39_ren : Ren :=
  {
  f := fun x =>
    match x with
    | 6 => 39
    | 8 => 59
    | 9 => 60
    | 11 => 75
    | 13 => 77
    | 12 => 76
    | 23 => 103
    | 24 => 104
    | 14 => 94
    | 15 => 95
    | 16 => 96
    | 17 => 97
    | 18 => 98
    | 19 => 99
    | 20 => 100
    | 21 => 101
    | 22 => 102
    | 25 => 121
    | 26 => 122
    | 27 => 123
    | 28 => 124
    | 29 => 125
    | 30 => 126
    | 31 => 157
    | n => n,
  t := fun x =>
    match x with
    | 26 => 9
    | 28 => 79
    | 24 => 71
    | 0 => 0
    | 3 => 3
    | 37 => 130
    | 48 => 156
    | 50 => 158
    | 4 => 4
    | 40 => 149
    | 39 => 148
    | 45 => 88
    | 5 => 5
    | 9 => 9
    | 51 => 171
    | 55 => 175
    | 57 => 205
    | 58 => 187
    | 33 => 68
    | n => n,
  g := fun n => n }
theorem Tryz.sorted39 : SlLaysZ.n6 Tryz.prog Tryz.sorted39_ren where
  mixed := rfl
  f6 := ⟨ "slices.Sorted[string]", by decide, by kernel_rfl⟩
  f8 := ⟨ "slices.Collect[string]", by decide, by kernel_rfl⟩
  f11 := ⟨ "slices.AppendSeq[[]string,string]", by decide, by kernel_rfl⟩
  t0 := Tryz.underlying0
  a0 := Tryz.isAgg0
  z0 := Tryz.sizeOf0
  v0 := Tryz.zeroValue0
  t24 := Tryz.underlying71
  a24 := Tryz.isAgg71
  z24 := Tryz.sizeOf71
  v24 := Tryz.zeroValue71
  t26 := Tryz.underlying9
  a26 := Tryz.isAgg9
  z26 := Tryz.sizeOf9
  v26 := Tryz.zeroValue9
  t28 := Tryz.underlying79
  a28 := Tryz.isAgg79
  z28 := Tryz.sizeOf79
  v28 := Tryz.zeroValue79
  i26 := by kernel_rfl
def Tryz.sort60_ren : Ren :=
  {
  f := fun x =>
    match x with
    | 6 => 60
    | 8 => 77
    | 9 => 76
    | 19 => 103
    | 20 => 104
    | 21 => 94
    | 22 => 95
    | 23 => 96
    | 24 => 97
    | 25 => 98
    | 26 => 99
    | 27 => 100
    | 28 => 101
    | 29 => 102
    | 36 => 121
    | 31 => 122
    | 32 => 123
    | 37 => 124
    | 38 => 125
    | 39 => 126
    | 41 => 157
    | n => n,
  t := fun x =>
    match x with
    | 27 => 71
    | 29 => 9
    | 3 => 3
    | 32 => 130
    | 26 => 71
    | 0 => 0
    | 44 => 156
    | 46 => 158
    | 4 => 4
    | 36 => 149
    | 35 => 148
    | 41 => 88
    | 5 => 5
    | 9 => 9
    | 53 => 171
    | 57 => 175
    | 63 => 205
    | 64 => 187
    | n => n,
  g := fun n => n }
theorem Tryz.sort60 : SlLaysM.n6 Tryz.prog Tryz.sort60_ren where
  mixed := rfl
  f6 := ⟨ "slices.Sort[[]string,string]", by decide, by kernel_rfl⟩
  f9 := ⟨ "slices.pdqsortOrdered[string]", by decide, by kernel_rfl⟩
  f21 := ⟨ "slices.insertionSortOrdered[string]", by decide, by kernel_rfl⟩
  f22 := ⟨ "slices.heapSortOrdered[string]", by decide, by kernel_rfl⟩
  f23 := ⟨ "slices.breakPatternsOrdered[string]", by decide, by kernel_rfl⟩
  f24 := ⟨ "slices.choosePivotOrdered[string]", by decide, by kernel_rfl⟩
  f25 := ⟨ "slices.reverseRangeOrdered[string]", by decide, by kernel_rfl⟩
  f26 := ⟨ "slices.partialInsertionSortOrdered[string]", by decide, by kernel_rfl⟩
  f27 := ⟨ "cmp.Less[string]", by decide, by kernel_rfl⟩
  f28 := ⟨ "slices.partitionEqualOrdered[string]", by decide, by kernel_rfl⟩
  f29 := ⟨ "slices.partitionOrdered[string]", by decide, by kernel_rfl⟩
  f36 := ⟨ "slices.siftDownOrdered[string]", by decide, by kernel_rfl⟩
  f37 := ⟨ "slices.medianAdjacentOrdered[string]", by decide, by kernel_rfl⟩
  f38 := ⟨ "slices.medianOrdered[string]", by decide, by kernel_rfl⟩
  f39 := ⟨ "cmp.isNaN[string]", by decide, by kernel_rfl⟩
  f41 := ⟨ "slices.order2Ordered[string]", by decide, by kernel_rfl⟩
  t0 := Tryz.underlying0
  a0 := Tryz.isAgg0
  z0 := Tryz.sizeOf0
  v0 := Tryz.zeroValue0
  t3 := Tryz.underlying3
  a3 := Tryz.isAgg3
  z3 := Tryz.sizeOf3
  v3 := Tryz.zeroValue3
  t4 := Tryz.underlying4
  a4 := Tryz.isAgg4
  z4 := Tryz.sizeOf4
  v4 := Tryz.zeroValue4
  t5 := Tryz.underlying5
  a5 := Tryz.isAgg5
  z5 := Tryz.sizeOf5
  v5 := Tryz.zeroValue5
  t9 := Tryz.underlying9
  a9 := Tryz.isAgg9
  z9 := Tryz.sizeOf9
  v9 := Tryz.zeroValue9
  t26 := Tryz.underlying71
  a26 := Tryz.isAgg71
  z26 := Tryz.sizeOf71
  v26 := Tryz.zeroValue71
  t27 := Tryz.underlying71
  a27 := Tryz.isAgg71
  z27 := Tryz.sizeOf71
  v27 := Tryz.zeroValue71
  t29 := Tryz.underlying9
  a29 := Tryz.isAgg9
  z29 := Tryz.sizeOf9
  v29 := Tryz.zeroValue9
  t32 := Tryz.underlying130
  a32 := Tryz.isAgg130
  z32 := Tryz.sizeOf130
  v32 := Tryz.zeroValue130
  t35 := Tryz.underlying148
  a35 := Tryz.isAgg148
  z35 := Tryz.sizeOf148
  v35 := Tryz.zeroValue148
  t36 := Tryz.underlying149
  a36 := Tryz.isAgg149
  z36 := Tryz.sizeOf149
  v36 := Tryz.zeroValue149
  t41 := Tryz.underlying88
  a41 := Tryz.isAgg88
  z41 := Tryz.sizeOf88
  v41 := Tryz.zeroValue88
  t44 := Tryz.underlying156
  a44 := Tryz.isAgg156
  z44 := Tryz.sizeOf156
  v44 := Tryz.zeroValue156
  t46 := Tryz.underlying158
  a46 := Tryz.isAgg158
  z46 := Tryz.sizeOf158
  v46 := Tryz.zeroValue158
  t53 := Tryz.underlying171
  a53 := Tryz.isAgg171
  z53 := Tryz.sizeOf171
  v53 := Tryz.zeroValue171
  t57 := Tryz.underlying175
  a57 := Tryz.isAgg175
  z57 := Tryz.sizeOf175
  v57 := Tryz.zeroValue175
  t63 := Tryz.underlying205
  a63 := Tryz.isAgg205
  z63 := Tryz.sizeOf205
  v63 := Tryz.zeroValue205
  t64 := Tryz.underlying187
  a64 := Tryz.isAgg187
  z64 := Tryz.sizeOf187
  v64 := Tryz.zeroValue187
  f8 := by kernel_rfl
  f19 := by kernel_rfl
  f20 := by kernel_rfl
  f31 := by kernel_rfl
  f32 := by kernel_rfl
theorem Tryz.sorts39 (m : Nat) : AnyZ.SortsIn Tryz.prog Tryz.sorted39_ren Fence.wide m :=
  ⟨fun blk off cap ss W hH hblk hsz => callsIn_wide.2 (AnyM.slices_Sort_string Tryz.sort60 blk off cap ss W hH hblk hsz),
   fun p cap W => callsIn_wide.2 (AnyM.slices_Sort_string_none Tryz.sort60 p cap W)⟩
theorem Tryz.maps_Keys_40 (mb : Option Nat) (W : World) : CallsIn Fence.wide 5 Tryz.prog 40 #[.map mb] W fun e w' => e = .returned (.func (.func 61) #[] #[.pointer (some ⟨W.heap.size, 0, none⟩)]) ∧ w' = W.alloc (.cells #[.map mb] 50) :=
  AnyZ.keys_in Tryz.keys40 Fence.wide 5 trivial rfl mb W
def Tryz.keys42_ren : Ren :=
  {
  f := fun x =>
    match x with
    | 7 => 42
    | 10 => 62
    | n => n,
  t := fun x =>
    match x with
    | 23 => 51
    | 26 => 9
    | 3 => 3
    | 28 => 79
    | 0 => 0
    | 27 => 78
    | 33 => 68
    | 4 => 4
    | n => n,
  g := fun n => n }
theorem Tryz.keys42 : SlLaysZ.n7 Tryz.prog Tryz.keys42_ren where
  mixed := rfl
  f7 := ⟨ "maps.Keys[map[string]int,string,int]", by decide, by kernel_rfl⟩
  f10 := ⟨ "maps.Keys[map[string]int,string,int]$1", by decide, by kernel_rfl⟩
  t0 := Tryz.underlying0
  a0 := Tryz.isAgg0
  z0 := Tryz.sizeOf0
  v0 := Tryz.zeroValue0
  t4 := Tryz.underlying4
  a4 := Tryz.isAgg4
  z4 := Tryz.sizeOf4
  v4 := Tryz.zeroValue4
  t23 := Tryz.underlying51
  a23 := Tryz.isAgg51
  z23 := Tryz.sizeOf51
  v23 := Tryz.zeroValue51
  t26 := Tryz.underlying9
  a26 := Tryz.isAgg9
  z26 := Tryz.sizeOf9
  v26 := Tryz.zeroValue9
  t27 := Tryz.underlying78
  a27 := Tryz.isAgg78
  z27 := Tryz.sizeOf78
  v27 := Tryz.zeroValue78
  t28 := Tryz.underlying79
  a28 := Tryz.isAgg79
  z28 := Tryz.sizeOf79
  v28 := Tryz.zeroValue79
  t33 := Tryz.underlying68
  a33 := Tryz.isAgg68
  z33 := Tryz.sizeOf68
  v33 := Tryz.zeroValue68
theorem Tryz.maps_Keys_42 (mb : Option Nat) (W : World) : CallsIn Fence.wide 5 Tryz.prog 42 #[.map mb] W fun e w' => e = .returned (.func (.func 62) #[] #[.pointer (some ⟨W.heap.size, 0, none⟩)]) ∧ w' = W.alloc (.cells #[.map mb] 51) :=
  AnyZ.keys_in Tryz.keys42 Fence.wide 5 trivial rfl mb W
end Go.Proofs.YtlikeadfohahdaaGreatDoor
