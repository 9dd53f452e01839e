import Derived.Shelf.SlIter.Nil
import Derived.Shelf.SortM.Plain
import Derived.Shelf.SortM.SortNone
import Derived.KernelRfl
import Derived.Test.YtgkmmcdhhkllnaaGreatDoorProg
set_option linter.all false
set_option autoImplicit true
set_option relaxedAutoImplicit true
set_option maxRecDepth 100000
/-
  DERIVED. MADE BY PROGRAM (lay-iter.mjs) off ytgkmmcdhhkllnaagreatdoor.cut.gsa: THE SHELF's CONTRACTS ON 'slices.Sorted(maps.Keys(m))' LAID AT THIS DUMP: 2 map types. NO WALK OF THE LIBRARY's TEXT: each is one application of a contract over any P and ρ (Derived/Shelf/SlIter/, Derived/Shelf/SortM/).
-/
namespace Go.Proofs.YtgkmmcdhhkllnaaGreatDoor
open Go.RowKit Go.Maps Go.Sort Go.Shelf
def Tryz.keys52_ren:Ren:=
 {
 f:=fun x=>
  match x with
  | 7=>52
  | 10=>93
  | n=>n,
 t:=fun x=>
  match x with
  | 23=>75
  | 26=>9
  | 3=>9
  | 28=>113
  | 0=>0
  | 27=>112
  | 33=>88
  | 4=>4
  | n=>n,
 g:=fun n=>n }
theorem Tryz.keys52:SlLaysZ.n7 Tryz.prog Tryz.keys52_ren where
 mixed:=rfl
 f7 := ⟨ "maps.Keys[map[string]string,string,string]", by decide, by kernel_rfl⟩
 f10 := ⟨ "maps.Keys[map[string]string,string,string]$1", by decide, by kernel_rfl⟩
 t0:=Tryz.underlying0
 a0:=Tryz.isAgg0
 z0:=Tryz.sizeOf0
 v0:=Tryz.zeroValue0
 t4:=Tryz.underlying4
 a4:=Tryz.isAgg4
 z4:=Tryz.sizeOf4
 v4:=Tryz.zeroValue4
 t23:=Tryz.underlying75
 a23:=Tryz.isAgg75
 z23:=Tryz.sizeOf75
 v23:=Tryz.zeroValue75
 t26:=Tryz.underlying9
 a26:=Tryz.isAgg9
 z26:=Tryz.sizeOf9
 v26:=Tryz.zeroValue9
 t27:=Tryz.underlying112
 a27:=Tryz.isAgg112
 z27:=Tryz.sizeOf112
 v27:=Tryz.zeroValue112
 t28:=Tryz.underlying113
 a28:=Tryz.isAgg113
 z28:=Tryz.sizeOf113
 v28:=Tryz.zeroValue113
 t33:=Tryz.underlying88
 a33:=Tryz.isAgg88
 z33:=Tryz.sizeOf88
 v33:=Tryz.zeroValue88
def Tryz.sorted51_ren:Ren:=
 {
 f:=fun x=>
  match x with
  | 6=>51
  | 8=>91
  | 9=>92
  | 11=>127
  | 13=>129
  | 12=>128
  | 23=>184
  | 24=>185
  | 14=>175
  | 15=>176
  | 16=>177
  | 17=>178
  | 18=>179
  | 19=>180
  | 20=>181
  | 21=>182
  | 22=>183
  | 25=>220
  | 26=>221
  | 27=>222
  | 28=>223
  | 29=>224
  | 30=>225
  | 31=>248
  | n=>n,
 t:=fun x=>
  match x with
  | 26=>9
  | 28=>113
  | 24=>59
  | 0=>0
  | 3=>3
  | 37=>184
  | 48=>181
  | 50=>237
  | 4=>4
  | 40=>230
  | 39=>229
  | 45=>154
  | 5=>5
  | 9=>9
  | 51=>269
  | 55=>273
  | 57=>301
  | 58=>212
  | 33=>88
  | n=>n,
 g:=fun n=>n }
theorem Tryz.sorted51:SlLaysZ.n6 Tryz.prog Tryz.sorted51_ren where
 mixed:=rfl
 f6 := ⟨ "slices.Sorted[string]", by decide, by kernel_rfl⟩
 f8 := ⟨ "slices.Collect[string]", by decide, by kernel_rfl⟩
 f11 := ⟨ "slices.AppendSeq[[]string,string]", by decide, by kernel_rfl⟩
 t0:=Tryz.underlying0
 a0:=Tryz.isAgg0
 z0:=Tryz.sizeOf0
 v0:=Tryz.zeroValue0
 t24:=Tryz.underlying59
 a24:=Tryz.isAgg59
 z24:=Tryz.sizeOf59
 v24:=Tryz.zeroValue59
 t26:=Tryz.underlying9
 a26:=Tryz.isAgg9
 z26:=Tryz.sizeOf9
 v26:=Tryz.zeroValue9
 t28:=Tryz.underlying113
 a28:=Tryz.isAgg113
 z28:=Tryz.sizeOf113
 v28:=Tryz.zeroValue113
 i26:=by kernel_rfl
def Tryz.sort92_ren:Ren:=
 {
 f:=fun x=>
  match x with
  | 6=>92
  | 8=>129
  | 9=>128
  | 19=>184
  | 20=>185
  | 21=>175
  | 22=>176
  | 23=>177
  | 24=>178
  | 25=>179
  | 26=>180
  | 27=>181
  | 28=>182
  | 29=>183
  | 36=>220
  | 31=>221
  | 32=>222
  | 37=>223
  | 38=>224
  | 39=>225
  | 41=>248
  | n=>n,
 t:=fun x=>
  match x with
  | 27=>59
  | 29=>9
  | 3=>3
  | 32=>184
  | 26=>59
  | 0=>0
  | 44=>181
  | 46=>237
  | 4=>4
  | 36=>230
  | 35=>229
  | 41=>154
  | 5=>5
  | 9=>9
  | 53=>269
  | 57=>273
  | 63=>301
  | 64=>212
  | n=>n,
 g:=fun n=>n }
theorem Tryz.sort92:SlLaysM.n6 Tryz.prog Tryz.sort92_ren where
 mixed:=rfl
 f6 := ⟨ "slices.Sort[[]string,string]", by decide, by kernel_rfl⟩
 f9 := ⟨ "slices.pdqsortOrdered[string]", by decide, by kernel_rfl⟩
 f21 := ⟨ "slices.insertionSortOrdered[string]", by decide, by kernel_rfl⟩
 f22 := ⟨ "slices.heapSortOrdered[string]", by decide, by kernel_rfl⟩
 f23 := ⟨ "slices.breakPatternsOrdered[string]", by decide, by kernel_rfl⟩
 f24 := ⟨ "slices.choosePivotOrdered[string]", by decide, by kernel_rfl⟩
 f25 := ⟨ "slices.reverseRangeOrdered[string]", by decide, by kernel_rfl⟩
 f26 := ⟨ "slices.partialInsertionSortOrdered[string]", by decide, by kernel_rfl⟩
 f27 := ⟨ "cmp.Less[string]", by decide, by kernel_rfl⟩
 f28 := ⟨ "slices.partitionEqualOrdered[string]", by decide, by kernel_rfl⟩
 f29 := ⟨ "slices.partitionOrdered[string]", by decide, by kernel_rfl⟩
 f36 := ⟨ "slices.siftDownOrdered[string]", by decide, by kernel_rfl⟩
 f37 := ⟨ "slices.medianAdjacentOrdered[string]", by decide, by kernel_rfl⟩
 f38 := ⟨ "slices.medianOrdered[string]", by decide, by kernel_rfl⟩
 f39 := ⟨ "cmp.isNaN[string]", by decide, by kernel_rfl⟩
 f41 := ⟨ "slices.order2Ordered[string]", by decide, by kernel_rfl⟩
 t0:=Tryz.underlying0
 a0:=Tryz.isAgg0
 z0:=Tryz.sizeOf0
 v0:=Tryz.zeroValue0
 t3:=Tryz.underlying3
 a3:=Tryz.isAgg3
 z3:=Tryz.sizeOf3
 v3:=Tryz.zeroValue3
 t4:=Tryz.underlying4
 a4:=Tryz.isAgg4
 z4:=Tryz.sizeOf4
 v4:=Tryz.zeroValue4
 t5:=Tryz.underlying5
 a5:=Tryz.isAgg5
 z5:=Tryz.sizeOf5
 v5:=Tryz.zeroValue5
 t9:=Tryz.underlying9
 a9:=Tryz.isAgg9
 z9:=Tryz.sizeOf9
 v9:=Tryz.zeroValue9
 t26:=Tryz.underlying59
 a26:=Tryz.isAgg59
 z26:=Tryz.sizeOf59
 v26:=Tryz.zeroValue59
 t27:=Tryz.underlying59
 a27:=Tryz.isAgg59
 z27:=Tryz.sizeOf59
 v27:=Tryz.zeroValue59
 t29:=Tryz.underlying9
 a29:=Tryz.isAgg9
 z29:=Tryz.sizeOf9
 v29:=Tryz.zeroValue9
 t32:=Tryz.underlying184
 a32:=Tryz.isAgg184
 z32:=Tryz.sizeOf184
 v32:=Tryz.zeroValue184
 t35:=Tryz.underlying229
 a35:=Tryz.isAgg229
 z35:=Tryz.sizeOf229
 v35:=Tryz.zeroValue229
 t36:=Tryz.underlying230
 a36:=Tryz.isAgg230
 z36:=Tryz.sizeOf230
 v36:=Tryz.zeroValue230
 t41:=Tryz.underlying154
 a41:=Tryz.isAgg154
 z41:=Tryz.sizeOf154
 v41:=Tryz.zeroValue154
 t44:=Tryz.underlying181
 a44:=Tryz.isAgg181
 z44:=Tryz.sizeOf181
 v44:=Tryz.zeroValue181
 t46:=Tryz.underlying237
 a46:=Tryz.isAgg237
 z46:=Tryz.sizeOf237
 v46:=Tryz.zeroValue237
 t53:=Tryz.underlying269
 a53:=Tryz.isAgg269
 z53:=Tryz.sizeOf269
 v53:=Tryz.zeroValue269
 t57:=Tryz.underlying273
 a57:=Tryz.isAgg273
 z57:=Tryz.sizeOf273
 v57:=Tryz.zeroValue273
 t63:=Tryz.underlying301
 a63:=Tryz.isAgg301
 z63:=Tryz.sizeOf301
 v63:=Tryz.zeroValue301
 t64:=Tryz.underlying212
 a64:=Tryz.isAgg212
 z64:=Tryz.sizeOf212
 v64:=Tryz.zeroValue212
 f8:=by kernel_rfl
 f19:=by kernel_rfl
 f20:=by kernel_rfl
 f31:=by kernel_rfl
 f32:=by kernel_rfl
theorem Tryz.sorts51 (m:Nat):AnyZ.SortsIn Tryz.prog Tryz.sorted51_ren Fence.wide m:=
 ⟨fun blk off cap ss W hH hblk hsz=>callsIn_wide.2 (AnyM.slices_Sort_string Tryz.sort92 blk off cap ss W hH hblk hsz),
  fun p cap W=>callsIn_wide.2 (AnyM.slices_Sort_string_none Tryz.sort92 p cap W)⟩
theorem Tryz.maps_Keys_52 (mb:Option Nat) (W:World):CallsIn Fence.wide 5 Tryz.prog 52 #[.map mb] W fun e w'=>e=.returned (.func (.func 93) #[] #[.pointer (some ⟨W.heap.size,0,none⟩)])∧w'=W.alloc (.cells #[.map mb] 75):=
 AnyZ.keys_in Tryz.keys52 Fence.wide 5 trivial rfl mb W
def Tryz.keys54_ren:Ren:=
 {
 f:=fun x=>
  match x with
  | 7=>54
  | 10=>94
  | n=>n,
 t:=fun x=>
  match x with
  | 23=>76
  | 26=>9
  | 3=>3
  | 28=>113
  | 0=>0
  | 27=>112
  | 33=>88
  | 4=>4
  | n=>n,
 g:=fun n=>n }
theorem Tryz.keys54:SlLaysZ.n7 Tryz.prog Tryz.keys54_ren where
 mixed:=rfl
 f7 := ⟨ "maps.Keys[map[string]int,string,int]", by decide, by kernel_rfl⟩
 f10 := ⟨ "maps.Keys[map[string]int,string,int]$1", by decide, by kernel_rfl⟩
 t0:=Tryz.underlying0
 a0:=Tryz.isAgg0
 z0:=Tryz.sizeOf0
 v0:=Tryz.zeroValue0
 t4:=Tryz.underlying4
 a4:=Tryz.isAgg4
 z4:=Tryz.sizeOf4
 v4:=Tryz.zeroValue4
 t23:=Tryz.underlying76
 a23:=Tryz.isAgg76
 z23:=Tryz.sizeOf76
 v23:=Tryz.zeroValue76
 t26:=Tryz.underlying9
 a26:=Tryz.isAgg9
 z26:=Tryz.sizeOf9
 v26:=Tryz.zeroValue9
 t27:=Tryz.underlying112
 a27:=Tryz.isAgg112
 z27:=Tryz.sizeOf112
 v27:=Tryz.zeroValue112
 t28:=Tryz.underlying113
 a28:=Tryz.isAgg113
 z28:=Tryz.sizeOf113
 v28:=Tryz.zeroValue113
 t33:=Tryz.underlying88
 a33:=Tryz.isAgg88
 z33:=Tryz.sizeOf88
 v33:=Tryz.zeroValue88
theorem Tryz.maps_Keys_54 (mb:Option Nat) (W:World):CallsIn Fence.wide 5 Tryz.prog 54 #[.map mb] W fun e w'=>e=.returned (.func (.func 94) #[] #[.pointer (some ⟨W.heap.size,0,none⟩)])∧w'=W.alloc (.cells #[.map mb] 76):=
 AnyZ.keys_in Tryz.keys54 Fence.wide 5 trivial rfl mb W
end Go.Proofs.YtgkmmcdhhkllnaaGreatDoor
