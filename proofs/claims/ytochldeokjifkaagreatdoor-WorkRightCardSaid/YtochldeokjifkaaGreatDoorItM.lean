import Derived.Shelf.SlIter.Nil
import Derived.Shelf.SortM.Plain
import Derived.Shelf.SortM.SortNone
import Derived.KernelRfl
import Derived.Test.YtochldeokjifkaaGreatDoorProg
set_option linter.all false
set_option autoImplicit true
set_option relaxedAutoImplicit true
set_option maxRecDepth 100000
/-
  DERIVED. MADE BY PROGRAM (lay-iter.mjs) off ytochldeokjifkaagreatdoor.cut.gsa: THE SHELF's CONTRACTS ON 'slices.Sorted(maps.Keys(m))' LAID AT THIS DUMP: 2 map types. NO WALK OF THE LIBRARY's TEXT: each is one application of a contract over any P and ρ (Derived/Shelf/SlIter/, Derived/Shelf/SortM/).
-/
namespace Go.Proofs.YtochldeokjifkaaGreatDoor
open Go.RowKit Go.Maps Go.Sort Go.Shelf
def Tryz.keys44_ren : Ren :=
  {
  f := fun x =>
    match x with
    | 7 => 44
    | 10 => 61
    | n => n,
  t := fun x =>
    match x with
    | 23 => 57
    | 26 => 9
    | 3 => 9
    | 28 => 81
    | 0 => 0
    | 27 => 80
    | 33 => 56
    | 4 => 4
    | n => n,
  g := fun n => n }
theorem Tryz.keys44 : SlLaysZ.n7 Tryz.prog Tryz.keys44_ren where
  mixed := rfl
  f7 := ⟨ "maps.Keys[map[string]string,string,string]", by decide, by kernel_rfl⟩
  f10 := ⟨ "maps.Keys[map[string]string,string,string]$1", by decide, by kernel_rfl⟩
  t0 := Tryz.underlying0
  a0 := Tryz.isAgg0
  z0 := Tryz.sizeOf0
  v0 := Tryz.zeroValue0
  t4 := Tryz.underlying4
  a4 := Tryz.isAgg4
  z4 := Tryz.sizeOf4
  v4 := Tryz.zeroValue4
  t23 := Tryz.underlying57
  a23 := Tryz.isAgg57
  z23 := Tryz.sizeOf57
  v23 := Tryz.zeroValue57
  t26 := Tryz.underlying9
  a26 := Tryz.isAgg9
  z26 := Tryz.sizeOf9
  v26 := Tryz.zeroValue9
  t27 := Tryz.underlying80
  a27 := Tryz.isAgg80
  z27 := Tryz.sizeOf80
  v27 := Tryz.zeroValue80
  t28 := Tryz.underlying81
  a28 := Tryz.isAgg81
  z28 := Tryz.sizeOf81
  v28 := Tryz.zeroValue81
  t33 := Tryz.underlying56
  a33 := Tryz.isAgg56
  z33 := Tryz.sizeOf56
  v33 := Tryz.zeroValue56
def Tryz.sorted43_ren : Ren :=
  {
  f := fun x =>
    match x with
    | 6 => 43
    | 8 => 59
    | 9 => 60
    | 11 => 75
    | 13 => 77
    | 12 => 76
    | 23 => 103
    | 24 => 104
    | 14 => 94
    | 15 => 95
    | 16 => 96
    | 17 => 97
    | 18 => 98
    | 19 => 99
    | 20 => 100
    | 21 => 101
    | 22 => 102
    | 25 => 121
    | 26 => 122
    | 27 => 123
    | 28 => 124
    | 29 => 125
    | 30 => 126
    | 31 => 157
    | n => n,
  t := fun x =>
    match x with
    | 26 => 9
    | 28 => 81
    | 24 => 52
    | 0 => 0
    | 3 => 3
    | 37 => 129
    | 48 => 155
    | 50 => 157
    | 4 => 4
    | 40 => 148
    | 39 => 147
    | 45 => 99
    | 5 => 5
    | 9 => 9
    | 51 => 170
    | 55 => 174
    | 57 => 204
    | 58 => 188
    | 33 => 56
    | n => n,
  g := fun n => n }
theorem Tryz.sorted43 : SlLaysZ.n6 Tryz.prog Tryz.sorted43_ren where
  mixed := rfl
  f6 := ⟨ "slices.Sorted[string]", by decide, by kernel_rfl⟩
  f8 := ⟨ "slices.Collect[string]", by decide, by kernel_rfl⟩
  f11 := ⟨ "slices.AppendSeq[[]string,string]", by decide, by kernel_rfl⟩
  t0 := Tryz.underlying0
  a0 := Tryz.isAgg0
  z0 := Tryz.sizeOf0
  v0 := Tryz.zeroValue0
  t24 := Tryz.underlying52
  a24 := Tryz.isAgg52
  z24 := Tryz.sizeOf52
  v24 := Tryz.zeroValue52
  t26 := Tryz.underlying9
  a26 := Tryz.isAgg9
  z26 := Tryz.sizeOf9
  v26 := Tryz.zeroValue9
  t28 := Tryz.underlying81
  a28 := Tryz.isAgg81
  z28 := Tryz.sizeOf81
  v28 := Tryz.zeroValue81
  i26 := by kernel_rfl
def Tryz.sort60_ren : Ren :=
  {
  f := fun x =>
    match x with
    | 6 => 60
    | 8 => 77
    | 9 => 76
    | 19 => 103
    | 20 => 104
    | 21 => 94
    | 22 => 95
    | 23 => 96
    | 24 => 97
    | 25 => 98
    | 26 => 99
    | 27 => 100
    | 28 => 101
    | 29 => 102
    | 36 => 121
    | 31 => 122
    | 32 => 123
    | 37 => 124
    | 38 => 125
    | 39 => 126
    | 41 => 157
    | n => n,
  t := fun x =>
    match x with
    | 27 => 52
    | 29 => 9
    | 3 => 3
    | 32 => 129
    | 26 => 52
    | 0 => 0
    | 44 => 155
    | 46 => 157
    | 4 => 4
    | 36 => 148
    | 35 => 147
    | 41 => 99
    | 5 => 5
    | 9 => 9
    | 53 => 170
    | 57 => 174
    | 63 => 204
    | 64 => 188
    | n => n,
  g := fun n => n }
theorem Tryz.sort60 : SlLaysM.n6 Tryz.prog Tryz.sort60_ren where
  mixed := rfl
  f6 := ⟨ "slices.Sort[[]string,string]", by decide, by kernel_rfl⟩
  f9 := ⟨ "slices.pdqsortOrdered[string]", by decide, by kernel_rfl⟩
  f21 := ⟨ "slices.insertionSortOrdered[string]", by decide, by kernel_rfl⟩
  f22 := ⟨ "slices.heapSortOrdered[string]", by decide, by kernel_rfl⟩
  f23 := ⟨ "slices.breakPatternsOrdered[string]", by decide, by kernel_rfl⟩
  f24 := ⟨ "slices.choosePivotOrdered[string]", by decide, by kernel_rfl⟩
  f25 := ⟨ "slices.reverseRangeOrdered[string]", by decide, by kernel_rfl⟩
  f26 := ⟨ "slices.partialInsertionSortOrdered[string]", by decide, by kernel_rfl⟩
  f27 := ⟨ "cmp.Less[string]", by decide, by kernel_rfl⟩
  f28 := ⟨ "slices.partitionEqualOrdered[string]", by decide, by kernel_rfl⟩
  f29 := ⟨ "slices.partitionOrdered[string]", by decide, by kernel_rfl⟩
  f36 := ⟨ "slices.siftDownOrdered[string]", by decide, by kernel_rfl⟩
  f37 := ⟨ "slices.medianAdjacentOrdered[string]", by decide, by kernel_rfl⟩
  f38 := ⟨ "slices.medianOrdered[string]", by decide, by kernel_rfl⟩
  f39 := ⟨ "cmp.isNaN[string]", by decide, by kernel_rfl⟩
  f41 := ⟨ "slices.order2Ordered[string]", by decide, by kernel_rfl⟩
  t0 := Tryz.underlying0
  a0 := Tryz.isAgg0
  z0 := Tryz.sizeOf0
  v0 := Tryz.zeroValue0
  t3 := Tryz.underlying3
  a3 := Tryz.isAgg3
  z3 := Tryz.sizeOf3
  v3 := Tryz.zeroValue3
  t4 := Tryz.underlying4
  a4 := Tryz.isAgg4
  z4 := Tryz.sizeOf4
  v4 := Tryz.zeroValue4
  t5 := Tryz.underlying5
  a5 := Tryz.isAgg5
  z5 := Tryz.sizeOf5
  v5 := Tryz.zeroValue5
  t9 := Tryz.underlying9
  a9 := Tryz.isAgg9
  z9 := Tryz.sizeOf9
  v9 := Tryz.zeroValue9
  t26 := Tryz.underlying52
  a26 := Tryz.isAgg52
  z26 := Tryz.sizeOf52
  v26 := Tryz.zeroValue52
  t27 := Tryz.underlying52
  a27 := Tryz.isAgg52
  z27 := Tryz.sizeOf52
  v27 := Tryz.zeroValue52
  t29 := Tryz.underlying9
  a29 := Tryz.isAgg9
  z29 := Tryz.sizeOf9
  v29 := Tryz.zeroValue9
  t32 := Tryz.underlying129
  a32 := Tryz.isAgg129
  z32 := Tryz.sizeOf129
  v32 := Tryz.zeroValue129
  t35 := Tryz.underlying147
  a35 := Tryz.isAgg147
  z35 := Tryz.sizeOf147
  v35 := Tryz.zeroValue147
  t36 := Tryz.underlying148
  a36 := Tryz.isAgg148
  z36 := Tryz.sizeOf148
  v36 := Tryz.zeroValue148
  t41 := Tryz.underlying99
  a41 := Tryz.isAgg99
  z41 := Tryz.sizeOf99
  v41 := Tryz.zeroValue99
  t44 := Tryz.underlying155
  a44 := Tryz.isAgg155
  z44 := Tryz.sizeOf155
  v44 := Tryz.zeroValue155
  t46 := Tryz.underlying157
  a46 := Tryz.isAgg157
  z46 := Tryz.sizeOf157
  v46 := Tryz.zeroValue157
  t53 := Tryz.underlying170
  a53 := Tryz.isAgg170
  z53 := Tryz.sizeOf170
  v53 := Tryz.zeroValue170
  t57 := Tryz.underlying174
  a57 := Tryz.isAgg174
  z57 := Tryz.sizeOf174
  v57 := Tryz.zeroValue174
  t63 := Tryz.underlying204
  a63 := Tryz.isAgg204
  z63 := Tryz.sizeOf204
  v63 := Tryz.zeroValue204
  t64 := Tryz.underlying188
  a64 := Tryz.isAgg188
  z64 := Tryz.sizeOf188
  v64 := Tryz.zeroValue188
  f8 := by kernel_rfl
  f19 := by kernel_rfl
  f20 := by kernel_rfl
  f31 := by kernel_rfl
  f32 := by kernel_rfl
theorem Tryz.sorts43 (m : Nat) : AnyZ.SortsIn Tryz.prog Tryz.sorted43_ren Fence.wide m :=
  ⟨fun blk off cap ss W hH hblk hsz => callsIn_wide.2 (AnyM.slices_Sort_string Tryz.sort60 blk off cap ss W hH hblk hsz),
   fun p cap W => callsIn_wide.2 (AnyM.slices_Sort_string_none Tryz.sort60 p cap W)⟩
theorem Tryz.maps_Keys_44 (mb : Option Nat) (W : World) : CallsIn Fence.wide 5 Tryz.prog 44 #[.map mb] W fun e w' => e = .returned (.func (.func 61) #[] #[.pointer (some ⟨W.heap.size, 0, none⟩)]) ∧ w' = W.alloc (.cells #[.map mb] 57) :=
  AnyZ.keys_in Tryz.keys44 Fence.wide 5 trivial rfl mb W
def Tryz.keys46_ren : Ren :=
  {
  f := fun x =>
    match x with
    | 7 => 46
    | 10 => 62
    | n => n,
  t := fun x =>
    match x with
    | 23 => 58
    | 26 => 9
    | 3 => 3
    | 28 => 81
    | 0 => 0
    | 27 => 80
    | 33 => 56
    | 4 => 4
    | n => n,
  g := fun n => n }
theorem Tryz.keys46 : SlLaysZ.n7 Tryz.prog Tryz.keys46_ren where
  mixed := rfl
  f7 := ⟨ "maps.Keys[map[string]int,string,int]", by decide, by kernel_rfl⟩
  f10 := ⟨ "maps.Keys[map[string]int,string,int]$1", by decide, by kernel_rfl⟩
  t0 := Tryz.underlying0
  a0 := Tryz.isAgg0
  z0 := Tryz.sizeOf0
  v0 := Tryz.zeroValue0
  t4 := Tryz.underlying4
  a4 := Tryz.isAgg4
  z4 := Tryz.sizeOf4
  v4 := Tryz.zeroValue4
  t23 := Tryz.underlying58
  a23 := Tryz.isAgg58
  z23 := Tryz.sizeOf58
  v23 := Tryz.zeroValue58
  t26 := Tryz.underlying9
  a26 := Tryz.isAgg9
  z26 := Tryz.sizeOf9
  v26 := Tryz.zeroValue9
  t27 := Tryz.underlying80
  a27 := Tryz.isAgg80
  z27 := Tryz.sizeOf80
  v27 := Tryz.zeroValue80
  t28 := Tryz.underlying81
  a28 := Tryz.isAgg81
  z28 := Tryz.sizeOf81
  v28 := Tryz.zeroValue81
  t33 := Tryz.underlying56
  a33 := Tryz.isAgg56
  z33 := Tryz.sizeOf56
  v33 := Tryz.zeroValue56
theorem Tryz.maps_Keys_46 (mb : Option Nat) (W : World) : CallsIn Fence.wide 5 Tryz.prog 46 #[.map mb] W fun e w' => e = .returned (.func (.func 62) #[] #[.pointer (some ⟨W.heap.size, 0, none⟩)]) ∧ w' = W.alloc (.cells #[.map mb] 58) :=
  AnyZ.keys_in Tryz.keys46 Fence.wide 5 trivial rfl mb W
end Go.Proofs.YtochldeokjifkaaGreatDoor
