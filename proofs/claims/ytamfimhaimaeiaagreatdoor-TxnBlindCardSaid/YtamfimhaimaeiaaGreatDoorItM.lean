import Derived.Shelf.SlIter.Nil
import Derived.Shelf.SortM.Plain
import Derived.Shelf.SortM.SortNone
import Derived.KernelRfl
import Derived.Test.YtamfimhaimaeiaaGreatDoorProg
set_option linter.all false
set_option autoImplicit true
set_option relaxedAutoImplicit true
set_option maxRecDepth 100000
/-
  DERIVED. MADE BY PROGRAM (lay-iter.mjs) off ytamfimhaimaeiaagreatdoor.cut.gsa: THE SHELF's CONTRACTS ON 'slices.Sorted(maps.Keys(m))' LAID AT THIS DUMP: 1 map type. NO WALK OF THE LIBRARY's TEXT: each is one application of a contract over any P and ρ (Derived/Shelf/SlIter/, Derived/Shelf/SortM/).
-/
namespace Go.Proofs.YtamfimhaimaeiaaGreatDoor
open Go.RowKit Go.Maps Go.Sort Go.Shelf
def Tryz.keys78_ren : Ren :=
  {
  f := fun x =>
    match x with
    | 7 => 78
    | 10 => 95
    | n => n,
  t := fun x =>
    match x with
    | 23 => 64
    | 26 => 9
    | 3 => 80
    | 28 => 126
    | 0 => 0
    | 27 => 125
    | 33 => 81
    | 4 => 4
    | n => n,
  g := fun n => n }
theorem Tryz.keys78 : SlLaysZ.n7 Tryz.prog Tryz.keys78_ren where
  mixed := rfl
  f7 := ⟨ "maps.Keys[map[string][]letterpress/store.version,string,[]letterpress/store.version]", by decide, by kernel_rfl⟩
  f10 := ⟨ "maps.Keys[map[string][]letterpress/store.version,string,[]letterpress/store.version]$1", by decide, by kernel_rfl⟩
  t0 := Tryz.underlying0
  a0 := Tryz.isAgg0
  z0 := Tryz.sizeOf0
  v0 := Tryz.zeroValue0
  t4 := Tryz.underlying4
  a4 := Tryz.isAgg4
  z4 := Tryz.sizeOf4
  v4 := Tryz.zeroValue4
  t23 := Tryz.underlying64
  a23 := Tryz.isAgg64
  z23 := Tryz.sizeOf64
  v23 := Tryz.zeroValue64
  t26 := Tryz.underlying9
  a26 := Tryz.isAgg9
  z26 := Tryz.sizeOf9
  v26 := Tryz.zeroValue9
  t27 := Tryz.underlying125
  a27 := Tryz.isAgg125
  z27 := Tryz.sizeOf125
  v27 := Tryz.zeroValue125
  t28 := Tryz.underlying126
  a28 := Tryz.isAgg126
  z28 := Tryz.sizeOf126
  v28 := Tryz.zeroValue126
  t33 := Tryz.underlying81
  a33 := Tryz.isAgg81
  z33 := Tryz.sizeOf81
  v33 := Tryz.zeroValue81
def Tryz.sorted77_ren : Ren :=
  {
  f := fun x =>
    match x with
    | 6 => 77
    | 8 => 93
    | 9 => 94
    | 11 => 112
    | 13 => 114
    | 12 => 113
    | 23 => 144
    | 24 => 145
    | 14 => 135
    | 15 => 136
    | 16 => 137
    | 17 => 138
    | 18 => 139
    | 19 => 140
    | 20 => 141
    | 21 => 142
    | 22 => 143
    | 25 => 171
    | 26 => 172
    | 27 => 173
    | 28 => 174
    | 29 => 175
    | 30 => 176
    | 31 => 216
    | n => n,
  t := fun x =>
    match x with
    | 26 => 9
    | 28 => 126
    | 24 => 24
    | 0 => 0
    | 3 => 3
    | 37 => 137
    | 48 => 166
    | 50 => 172
    | 4 => 4
    | 40 => 205
    | 39 => 204
    | 45 => 210
    | 5 => 5
    | 9 => 9
    | 51 => 240
    | 55 => 244
    | 57 => 278
    | 58 => 263
    | 33 => 81
    | n => n,
  g := fun n => n }
theorem Tryz.sorted77 : SlLaysZ.n6 Tryz.prog Tryz.sorted77_ren where
  mixed := rfl
  f6 := ⟨ "slices.Sorted[string]", by decide, by kernel_rfl⟩
  f8 := ⟨ "slices.Collect[string]", by decide, by kernel_rfl⟩
  f11 := ⟨ "slices.AppendSeq[[]string,string]", by decide, by kernel_rfl⟩
  t0 := Tryz.underlying0
  a0 := Tryz.isAgg0
  z0 := Tryz.sizeOf0
  v0 := Tryz.zeroValue0
  t24 := Tryz.underlying24
  a24 := Tryz.isAgg24
  z24 := Tryz.sizeOf24
  v24 := Tryz.zeroValue24
  t26 := Tryz.underlying9
  a26 := Tryz.isAgg9
  z26 := Tryz.sizeOf9
  v26 := Tryz.zeroValue9
  t28 := Tryz.underlying126
  a28 := Tryz.isAgg126
  z28 := Tryz.sizeOf126
  v28 := Tryz.zeroValue126
  i26 := by kernel_rfl
def Tryz.sort94_ren : Ren :=
  {
  f := fun x =>
    match x with
    | 6 => 94
    | 8 => 114
    | 9 => 113
    | 19 => 144
    | 20 => 145
    | 21 => 135
    | 22 => 136
    | 23 => 137
    | 24 => 138
    | 25 => 139
    | 26 => 140
    | 27 => 141
    | 28 => 142
    | 29 => 143
    | 36 => 171
    | 31 => 172
    | 32 => 173
    | 37 => 174
    | 38 => 175
    | 39 => 176
    | 41 => 216
    | n => n,
  t := fun x =>
    match x with
    | 27 => 24
    | 29 => 9
    | 3 => 3
    | 32 => 137
    | 26 => 24
    | 0 => 0
    | 44 => 166
    | 46 => 172
    | 4 => 4
    | 36 => 205
    | 35 => 204
    | 41 => 210
    | 5 => 5
    | 9 => 9
    | 53 => 240
    | 57 => 244
    | 63 => 278
    | 64 => 263
    | n => n,
  g := fun n => n }
theorem Tryz.sort94 : SlLaysM.n6 Tryz.prog Tryz.sort94_ren where
  mixed := rfl
  f6 := ⟨ "slices.Sort[[]string,string]", by decide, by kernel_rfl⟩
  f9 := ⟨ "slices.pdqsortOrdered[string]", by decide, by kernel_rfl⟩
  f21 := ⟨ "slices.insertionSortOrdered[string]", by decide, by kernel_rfl⟩
  f22 := ⟨ "slices.heapSortOrdered[string]", by decide, by kernel_rfl⟩
  f23 := ⟨ "slices.breakPatternsOrdered[string]", by decide, by kernel_rfl⟩
  f24 := ⟨ "slices.choosePivotOrdered[string]", by decide, by kernel_rfl⟩
  f25 := ⟨ "slices.reverseRangeOrdered[string]", by decide, by kernel_rfl⟩
  f26 := ⟨ "slices.partialInsertionSortOrdered[string]", by decide, by kernel_rfl⟩
  f27 := ⟨ "cmp.Less[string]", by decide, by kernel_rfl⟩
  f28 := ⟨ "slices.partitionEqualOrdered[string]", by decide, by kernel_rfl⟩
  f29 := ⟨ "slices.partitionOrdered[string]", by decide, by kernel_rfl⟩
  f36 := ⟨ "slices.siftDownOrdered[string]", by decide, by kernel_rfl⟩
  f37 := ⟨ "slices.medianAdjacentOrdered[string]", by decide, by kernel_rfl⟩
  f38 := ⟨ "slices.medianOrdered[string]", by decide, by kernel_rfl⟩
  f39 := ⟨ "cmp.isNaN[string]", by decide, by kernel_rfl⟩
  f41 := ⟨ "slices.order2Ordered[string]", by decide, by kernel_rfl⟩
  t0 := Tryz.underlying0
  a0 := Tryz.isAgg0
  z0 := Tryz.sizeOf0
  v0 := Tryz.zeroValue0
  t3 := Tryz.underlying3
  a3 := Tryz.isAgg3
  z3 := Tryz.sizeOf3
  v3 := Tryz.zeroValue3
  t4 := Tryz.underlying4
  a4 := Tryz.isAgg4
  z4 := Tryz.sizeOf4
  v4 := Tryz.zeroValue4
  t5 := Tryz.underlying5
  a5 := Tryz.isAgg5
  z5 := Tryz.sizeOf5
  v5 := Tryz.zeroValue5
  t9 := Tryz.underlying9
  a9 := Tryz.isAgg9
  z9 := Tryz.sizeOf9
  v9 := Tryz.zeroValue9
  t26 := Tryz.underlying24
  a26 := Tryz.isAgg24
  z26 := Tryz.sizeOf24
  v26 := Tryz.zeroValue24
  t27 := Tryz.underlying24
  a27 := Tryz.isAgg24
  z27 := Tryz.sizeOf24
  v27 := Tryz.zeroValue24
  t29 := Tryz.underlying9
  a29 := Tryz.isAgg9
  z29 := Tryz.sizeOf9
  v29 := Tryz.zeroValue9
  t32 := Tryz.underlying137
  a32 := Tryz.isAgg137
  z32 := Tryz.sizeOf137
  v32 := Tryz.zeroValue137
  t35 := Tryz.underlying204
  a35 := Tryz.isAgg204
  z35 := Tryz.sizeOf204
  v35 := Tryz.zeroValue204
  t36 := Tryz.underlying205
  a36 := Tryz.isAgg205
  z36 := Tryz.sizeOf205
  v36 := Tryz.zeroValue205
  t41 := Tryz.underlying210
  a41 := Tryz.isAgg210
  z41 := Tryz.sizeOf210
  v41 := Tryz.zeroValue210
  t44 := Tryz.underlying166
  a44 := Tryz.isAgg166
  z44 := Tryz.sizeOf166
  v44 := Tryz.zeroValue166
  t46 := Tryz.underlying172
  a46 := Tryz.isAgg172
  z46 := Tryz.sizeOf172
  v46 := Tryz.zeroValue172
  t53 := Tryz.underlying240
  a53 := Tryz.isAgg240
  z53 := Tryz.sizeOf240
  v53 := Tryz.zeroValue240
  t57 := Tryz.underlying244
  a57 := Tryz.isAgg244
  z57 := Tryz.sizeOf244
  v57 := Tryz.zeroValue244
  t63 := Tryz.underlying278
  a63 := Tryz.isAgg278
  z63 := Tryz.sizeOf278
  v63 := Tryz.zeroValue278
  t64 := Tryz.underlying263
  a64 := Tryz.isAgg263
  z64 := Tryz.sizeOf263
  v64 := Tryz.zeroValue263
  f8 := by kernel_rfl
  f19 := by kernel_rfl
  f20 := by kernel_rfl
  f31 := by kernel_rfl
  f32 := by kernel_rfl
theorem Tryz.sorts77 (m : Nat) : AnyZ.SortsIn Tryz.prog Tryz.sorted77_ren Fence.wide m :=
  ⟨fun blk off cap ss W hH hblk hsz => callsIn_wide.2 (AnyM.slices_Sort_string Tryz.sort94 blk off cap ss W hH hblk hsz),
   fun p cap W => callsIn_wide.2 (AnyM.slices_Sort_string_none Tryz.sort94 p cap W)⟩
theorem Tryz.maps_Keys_78 (mb : Option Nat) (W : World) : CallsIn Fence.wide 5 Tryz.prog 78 #[.map mb] W fun e w' => e = .returned (.func (.func 95) #[] #[.pointer (some ⟨W.heap.size, 0, none⟩)]) ∧ w' = W.alloc (.cells #[.map mb] 64) :=
  AnyZ.keys_in Tryz.keys78 Fence.wide 5 trivial rfl mb W
end Go.Proofs.YtamfimhaimaeiaaGreatDoor
