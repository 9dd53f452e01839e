/-
  DERIVED. MADE BY PROGRAM (lay-iter.mjs) off ythekegghphkddaagreatdoor.cut.gsa: THE SHELF's CONTRACTS ON 'slices.Sorted(maps.Keys(m))' LAID AT THIS DUMP: 1 map type. NO WALK OF THE LIBRARY's TEXT: each is one application of a contract over any P and ρ (Derived/Shelf/SlIter/, Derived/Shelf/SortM/).
-/
import Derived.Shelf.SlIter.Nil
import Derived.Shelf.SortM.Plain
import Derived.Shelf.SortM.SortNone
import Derived.KernelRfl
import Derived.Test.YthekegghphkddaaGreatDoorProg
set_option linter.all false
set_option autoImplicit true
set_option relaxedAutoImplicit true
namespace Go.Proofs.YthekegghphkddaaGreatDoor
open Go.RowKit Go.Maps Go.Sort Go.Shelf

-- maps.Keys[map[string][]letterpress/store.version,string,[]letterpress/store.version] (function 79; its iterator 96) · slices.Sorted[string] (78) · slices.Sort[[]string,string] (95) · the map's type 65, the keys' 9
def Tryz.keys79_ren : Ren :=
  {
  f := fun x =>
    match x with
    | 7 => 79
    | 10 => 96
    | n => n,
  t := fun x =>
    match x with
    | 23 => 65
    | 26 => 9
    | 3 => 81
    | 28 => 127
    | 0 => 0
    | 27 => 126
    | 33 => 82
    | 4 => 4
    | n => n,
  g := fun n => n }
theorem Tryz.keys79 : SlLaysZ.n7 Tryz.prog Tryz.keys79_ren where
  mixed := rfl
  f7 := ⟨ "maps.Keys[map[string][]letterpress/store.version,string,[]letterpress/store.version]", by decide, by kernel_rfl⟩
  f10 := ⟨ "maps.Keys[map[string][]letterpress/store.version,string,[]letterpress/store.version]$1", by decide, by kernel_rfl⟩
  t0 := Tryz.underlying0
  a0 := Tryz.isAgg0
  z0 := Tryz.sizeOf0
  v0 := Tryz.zeroValue0
  t4 := Tryz.underlying4
  a4 := Tryz.isAgg4
  z4 := Tryz.sizeOf4
  v4 := Tryz.zeroValue4
  t23 := Tryz.underlying65
  a23 := Tryz.isAgg65
  z23 := Tryz.sizeOf65
  v23 := Tryz.zeroValue65
  t26 := Tryz.underlying9
  a26 := Tryz.isAgg9
  z26 := Tryz.sizeOf9
  v26 := Tryz.zeroValue9
  t27 := Tryz.underlying126
  a27 := Tryz.isAgg126
  z27 := Tryz.sizeOf126
  v27 := Tryz.zeroValue126
  t28 := Tryz.underlying127
  a28 := Tryz.isAgg127
  z28 := Tryz.sizeOf127
  v28 := Tryz.zeroValue127
  t33 := Tryz.underlying82
  a33 := Tryz.isAgg82
  z33 := Tryz.sizeOf82
  v33 := Tryz.zeroValue82

def Tryz.sorted78_ren : Ren :=
  {
  f := fun x =>
    match x with
    | 6 => 78
    | 8 => 94
    | 9 => 95
    | 11 => 113
    | 13 => 115
    | 12 => 114
    | 23 => 145
    | 24 => 146
    | 14 => 136
    | 15 => 137
    | 16 => 138
    | 17 => 139
    | 18 => 140
    | 19 => 141
    | 20 => 142
    | 21 => 143
    | 22 => 144
    | 25 => 172
    | 26 => 173
    | 27 => 174
    | 28 => 175
    | 29 => 176
    | 30 => 177
    | 31 => 217
    | n => n,
  t := fun x =>
    match x with
    | 26 => 9
    | 28 => 127
    | 24 => 24
    | 0 => 0
    | 3 => 3
    | 37 => 138
    | 48 => 167
    | 50 => 173
    | 4 => 4
    | 40 => 206
    | 39 => 205
    | 45 => 211
    | 5 => 5
    | 9 => 9
    | 51 => 241
    | 55 => 245
    | 57 => 279
    | 58 => 264
    | 33 => 82
    | n => n,
  g := fun n => n }
theorem Tryz.sorted78 : SlLaysZ.n6 Tryz.prog Tryz.sorted78_ren where
  mixed := rfl
  f6 := ⟨ "slices.Sorted[string]", by decide, by kernel_rfl⟩
  f8 := ⟨ "slices.Collect[string]", by decide, by kernel_rfl⟩
  f11 := ⟨ "slices.AppendSeq[[]string,string]", by decide, by kernel_rfl⟩
  t0 := Tryz.underlying0
  a0 := Tryz.isAgg0
  z0 := Tryz.sizeOf0
  v0 := Tryz.zeroValue0
  t24 := Tryz.underlying24
  a24 := Tryz.isAgg24
  z24 := Tryz.sizeOf24
  v24 := Tryz.zeroValue24
  t26 := Tryz.underlying9
  a26 := Tryz.isAgg9
  z26 := Tryz.sizeOf9
  v26 := Tryz.zeroValue9
  t28 := Tryz.underlying127
  a28 := Tryz.isAgg127
  z28 := Tryz.sizeOf127
  v28 := Tryz.zeroValue127
  i26 := by kernel_rfl

def Tryz.sort95_ren : Ren :=
  {
  f := fun x =>
    match x with
    | 6 => 95
    | 8 => 115
    | 9 => 114
    | 19 => 145
    | 20 => 146
    | 21 => 136
    | 22 => 137
    | 23 => 138
    | 24 => 139
    | 25 => 140
    | 26 => 141
    | 27 => 142
    | 28 => 143
    | 29 => 144
    | 36 => 172
    | 31 => 173
    | 32 => 174
    | 37 => 175
    | 38 => 176
    | 39 => 177
    | 41 => 217
    | n => n,
  t := fun x =>
    match x with
    | 27 => 24
    | 29 => 9
    | 3 => 3
    | 32 => 138
    | 26 => 24
    | 0 => 0
    | 44 => 167
    | 46 => 173
    | 4 => 4
    | 36 => 206
    | 35 => 205
    | 41 => 211
    | 5 => 5
    | 9 => 9
    | 53 => 241
    | 57 => 245
    | 63 => 279
    | 64 => 264
    | n => n,
  g := fun n => n }
theorem Tryz.sort95 : SlLaysM.n6 Tryz.prog Tryz.sort95_ren where
  mixed := rfl
  f6 := ⟨ "slices.Sort[[]string,string]", by decide, by kernel_rfl⟩
  f9 := ⟨ "slices.pdqsortOrdered[string]", by decide, by kernel_rfl⟩
  f21 := ⟨ "slices.insertionSortOrdered[string]", by decide, by kernel_rfl⟩
  f22 := ⟨ "slices.heapSortOrdered[string]", by decide, by kernel_rfl⟩
  f23 := ⟨ "slices.breakPatternsOrdered[string]", by decide, by kernel_rfl⟩
  f24 := ⟨ "slices.choosePivotOrdered[string]", by decide, by kernel_rfl⟩
  f25 := ⟨ "slices.reverseRangeOrdered[string]", by decide, by kernel_rfl⟩
  f26 := ⟨ "slices.partialInsertionSortOrdered[string]", by decide, by kernel_rfl⟩
  f27 := ⟨ "cmp.Less[string]", by decide, by kernel_rfl⟩
  f28 := ⟨ "slices.partitionEqualOrdered[string]", by decide, by kernel_rfl⟩
  f29 := ⟨ "slices.partitionOrdered[string]", by decide, by kernel_rfl⟩
  f36 := ⟨ "slices.siftDownOrdered[string]", by decide, by kernel_rfl⟩
  f37 := ⟨ "slices.medianAdjacentOrdered[string]", by decide, by kernel_rfl⟩
  f38 := ⟨ "slices.medianOrdered[string]", by decide, by kernel_rfl⟩
  f39 := ⟨ "cmp.isNaN[string]", by decide, by kernel_rfl⟩
  f41 := ⟨ "slices.order2Ordered[string]", by decide, by kernel_rfl⟩
  t0 := Tryz.underlying0
  a0 := Tryz.isAgg0
  z0 := Tryz.sizeOf0
  v0 := Tryz.zeroValue0
  t3 := Tryz.underlying3
  a3 := Tryz.isAgg3
  z3 := Tryz.sizeOf3
  v3 := Tryz.zeroValue3
  t4 := Tryz.underlying4
  a4 := Tryz.isAgg4
  z4 := Tryz.sizeOf4
  v4 := Tryz.zeroValue4
  t5 := Tryz.underlying5
  a5 := Tryz.isAgg5
  z5 := Tryz.sizeOf5
  v5 := Tryz.zeroValue5
  t9 := Tryz.underlying9
  a9 := Tryz.isAgg9
  z9 := Tryz.sizeOf9
  v9 := Tryz.zeroValue9
  t26 := Tryz.underlying24
  a26 := Tryz.isAgg24
  z26 := Tryz.sizeOf24
  v26 := Tryz.zeroValue24
  t27 := Tryz.underlying24
  a27 := Tryz.isAgg24
  z27 := Tryz.sizeOf24
  v27 := Tryz.zeroValue24
  t29 := Tryz.underlying9
  a29 := Tryz.isAgg9
  z29 := Tryz.sizeOf9
  v29 := Tryz.zeroValue9
  t32 := Tryz.underlying138
  a32 := Tryz.isAgg138
  z32 := Tryz.sizeOf138
  v32 := Tryz.zeroValue138
  t35 := Tryz.underlying205
  a35 := Tryz.isAgg205
  z35 := Tryz.sizeOf205
  v35 := Tryz.zeroValue205
  t36 := Tryz.underlying206
  a36 := Tryz.isAgg206
  z36 := Tryz.sizeOf206
  v36 := Tryz.zeroValue206
  t41 := Tryz.underlying211
  a41 := Tryz.isAgg211
  z41 := Tryz.sizeOf211
  v41 := Tryz.zeroValue211
  t44 := Tryz.underlying167
  a44 := Tryz.isAgg167
  z44 := Tryz.sizeOf167
  v44 := Tryz.zeroValue167
  t46 := Tryz.underlying173
  a46 := Tryz.isAgg173
  z46 := Tryz.sizeOf173
  v46 := Tryz.zeroValue173
  t53 := Tryz.underlying241
  a53 := Tryz.isAgg241
  z53 := Tryz.sizeOf241
  v53 := Tryz.zeroValue241
  t57 := Tryz.underlying245
  a57 := Tryz.isAgg245
  z57 := Tryz.sizeOf245
  v57 := Tryz.zeroValue245
  t63 := Tryz.underlying279
  a63 := Tryz.isAgg279
  z63 := Tryz.sizeOf279
  v63 := Tryz.zeroValue279
  t64 := Tryz.underlying264
  a64 := Tryz.isAgg264
  z64 := Tryz.sizeOf264
  v64 := Tryz.zeroValue264
  f8 := by kernel_rfl
  f19 := by kernel_rfl
  f20 := by kernel_rfl
  f31 := by kernel_rfl
  f32 := by kernel_rfl


/-- slices.Sort's two contracts at this dump, at the fence that asks nothing. -/
theorem Tryz.sorts78 (m : Nat) : AnyZ.SortsIn Tryz.prog Tryz.sorted78_ren Fence.wide m :=
  ⟨fun blk off cap ss W hH hblk hsz => callsIn_wide.2 (AnyM.slices_Sort_string Tryz.sort95 blk off cap ss W hH hblk hsz),
   fun p cap W => callsIn_wide.2 (AnyM.slices_Sort_string_none Tryz.sort95 p cap W)⟩

/-- **maps.Keys[map[string][]letterpress/store.version,string,[]letterpress/store.version], at whatever map, the nil one too:** a function value over ONE NEW BLOCK, which holds the map. -/
theorem Tryz.maps_Keys_79 (mb : Option Nat) (W : World) : CallsIn Fence.wide 5 Tryz.prog 79 #[.map mb] W fun e w' => e = .returned (.func (.func 96) #[] #[.pointer (some ⟨W.heap.size, 0, none⟩)]) ∧ w' = W.alloc (.cells #[.map mb] 65) :=
  AnyZ.keys_in Tryz.keys79 Fence.wide 5 trivial rfl mb W

set_option maxHeartbeats 1000000 in
/-- **slices.Sorted[string] AT WHAT maps.Keys[map[string][]letterpress/store.version,string,[]letterpress/store.version] HANDED BACK FOR A MAP THAT IS NOT nil** ('w': the world AHEAD of maps.Keys' call): A NEW SLICE THAT HOLDS THE MAP's KEYS, SORTED; nil just where it has none; nothing that lay before has turned. -/
theorem Tryz.slices_Sorted_keys_78_79 {H : Type} (b nn : Nat) (D0 : DataW H) (R : Value → Option (DataW H × List MemPlace)) (w : World) (hown : w.ownsMap Tryz.prog 9 R b nn D0) (hmax : Maps.size D0 ≤ maxLen) (hbytes : Maps.size D0 * 16 ≤ 140737488355328) :
    CallsIn Fence.wide 5 Tryz.prog 78 #[.func (.func 96) #[] #[.pointer (some ⟨w.heap.size, 0, none⟩)]] (w.alloc (.cells #[.map (some b)] 65)) fun e w' => ∃ (v : Value) (ss : List (List UInt8)), e = .returned v ∧ ss.Perm (strKeys D0) ∧
      w'.ownsRow (w.alloc (.cells #[.map (some b)] 65)).heap.size 9 1 v ss.length ((ss.mergeSort (fun x y => decide (x ≤ y))).map encStr) ∧ (v = .slice none 0 0 ↔ ss = []) ∧ Below (w.alloc (.cells #[.map (some b)] 65)).heap.size (w.alloc (.cells #[.map (some b)] 65)) w' := by
  have hbl := hown.lt
  have hseq : SeqGives Fence.wide 2 Tryz.prog 96 #[.pointer (some ⟨w.heap.size, 0, none⟩)] encStr (fun ss => ss.Perm (strKeys D0)) (Maps.size D0) (w.alloc (.cells #[.map (some b)] 65)) :=
    AnyZ.keys_gives (ρ := Tryz.keys79_ren) { Tryz.keys79 with } Fence.wide _ trivial rfl (by omega) w.heap.size b nn D0 _ (by simp) (by simp) (by
      obtain ⟨es, clock, hb, Ft, hs, hD⟩ := hown
      exact ⟨es, clock, (Below.heap_alloc _ _ b hbl).trans hb, Ft, hs, hD⟩)
  exact AnyZ.sorted_in Tryz.sorted78 Fence.wide 5 trivial trivial trivial trivial rfl (by omega) (Tryz.sorts78 _) (enters_of Tryz.func95 (by kernel_rfl) rfl) 96 #[.pointer (some ⟨w.heap.size, 0, none⟩)] trivial (enters_of Tryz.func96 (by kernel_rfl) rfl) _ _ hmax hbytes _ hseq

set_option maxHeartbeats 1000000 in
/-- **.. AND FOR THE nil MAP: nil.** -/
theorem Tryz.slices_Sorted_keys_nil_78_79 (w : World) :
    CallsIn Fence.wide 5 Tryz.prog 78 #[.func (.func 96) #[] #[.pointer (some ⟨w.heap.size, 0, none⟩)]] (w.alloc (.cells #[.map none] 65)) fun e w' => ∃ (v : Value) (ss : List (List UInt8)), e = .returned v ∧ ss = [] ∧
      w'.ownsRow (w.alloc (.cells #[.map none] 65)).heap.size 9 1 v ss.length ((ss.mergeSort (fun x y => decide (x ≤ y))).map encStr) ∧ (v = .slice none 0 0 ↔ ss = []) ∧ Below (w.alloc (.cells #[.map none] 65)).heap.size (w.alloc (.cells #[.map none] 65)) w' := by
  have hseq : SeqGives Fence.wide 2 Tryz.prog 96 #[.pointer (some ⟨w.heap.size, 0, none⟩)] encStr (fun ss : List (List UInt8) => ss = []) 0 (w.alloc (.cells #[.map none] 65)) :=
    AnyZ.keys_gives_nil (ρ := Tryz.keys79_ren) { Tryz.keys79 with } Fence.wide _ trivial rfl w.heap.size _ (by simp) (by simp)
  exact AnyZ.sorted_in Tryz.sorted78 Fence.wide 5 trivial trivial trivial trivial rfl (by omega) (Tryz.sorts78 _) (enters_of Tryz.func95 (by kernel_rfl) rfl) 96 #[.pointer (some ⟨w.heap.size, 0, none⟩)] trivial (enters_of Tryz.func96 (by kernel_rfl) rfl) _ 0 (Nat.zero_le _) (by omega) _ hseq

-- THE CALLER's WALK over 'slices.Sorted(maps.Keys(m))' (inside '(callsIn_wide (n := 6)).1'; 'have hfK : Fence.wide.fn 79 := trivial', 'have hfS : Fence.wide.fn 78 := trivial' ahead): THE TWO ARMS TO PASTE:
--   gi_wp2_with (first
--     | (gi_at_call 79; refine (Tryz.maps_Keys_79 _ _).mono ?_; rintro e w' ⟨rfl, rfl⟩)
--     | (gi_at_call 78; refine (Tryz.slices_Sorted_keys_78_79 b nn D0 R w hown hmax hbytes).mono ?_; rintro e w' ⟨v, ss, rfl, hS, hrow, hnil, hb⟩))


end Go.Proofs.YthekegghphkddaaGreatDoor
