import Derived.Shelf.Strings.Search3
import Derived.KernelRfl
import Derived.Test.YtlikeadfohahdaaGreatDoorProg
set_option linter.all false
set_option autoImplicit true
set_option relaxedAutoImplicit true
set_option maxRecDepth 100000
namespace Go.Proofs.YtlikeadfohahdaaGreatDoor
open Go.Shelf
def Tryz.lays143_ren : Ren :=
  {
  f := fun x =>
    match x with
    | 143 => 188
    | 219 => 218
    | 217 => 189
    | 225 => 233
    | 224 => 234
    | 267 => 235
    | 266 => 219
    | 314 => 249
    | n => n,
  t := fun x =>
    match x with
    | 9 => 9
    | 3 => 3
    | 4 => 4
    | 5 => 5
    | 46 => 130
    | 146 => 301
    | 51 => 156
    | n => n,
  g := fun x =>
    match x with
    | 1 => 3
    | n => n }
theorem Tryz.lays143 : Lays.n143 Tryz.prog Tryz.lays143_ren where
  mixed := rfl
  f143 := by kernel_rfl
  f217 := by kernel_rfl
  f219 := by kernel_rfl
  f224 := by kernel_rfl
  f225 := by kernel_rfl
  f266 := by kernel_rfl
  f267 := by kernel_rfl
  f314 := by kernel_rfl
  t3 := Tryz.underlying3
  a3 := Tryz.isAgg3
  z3 := Tryz.sizeOf3
  v3 := Tryz.zeroValue3
  t4 := Tryz.underlying4
  a4 := Tryz.isAgg4
  z4 := Tryz.sizeOf4
  v4 := Tryz.zeroValue4
  t5 := Tryz.underlying5
  a5 := Tryz.isAgg5
  z5 := Tryz.sizeOf5
  v5 := Tryz.zeroValue5
  t9 := Tryz.underlying9
  a9 := Tryz.isAgg9
  z9 := Tryz.sizeOf9
  v9 := Tryz.zeroValue9
  t46 := Tryz.underlying130
  a46 := Tryz.isAgg130
  z46 := Tryz.sizeOf130
  v46 := Tryz.zeroValue130
  t51 := Tryz.underlying156
  a51 := Tryz.isAgg156
  z51 := Tryz.sizeOf156
  v51 := Tryz.zeroValue156
  t146 := Tryz.underlying301
  a146 := Tryz.isAgg301
  z146 := Tryz.sizeOf301
  v146 := Tryz.zeroValue301
  g1 := by kernel_rfl
end Go.Proofs.YtlikeadfohahdaaGreatDoor
