import Derived.Shelf.Strings.Search3
import Derived.KernelRfl
import Derived.Test.YthigmipcadhnkaaGreatDoorProg
set_option linter.all false
set_option autoImplicit true
set_option relaxedAutoImplicit true
set_option maxRecDepth 100000
namespace Go.Proofs.YthigmipcadhnkaaGreatDoor
open Go.Shelf
def Tryz.lays143_ren : Ren :=
  {
  f := fun x =>
    match x with
    | 143 => 158
    | 219 => 192
    | 217 => 159
    | 225 => 208
    | 224 => 209
    | 267 => 210
    | 266 => 193
    | 314 => 224
    | n => n,
  t := fun x =>
    match x with
    | 9 => 9
    | 3 => 3
    | 4 => 4
    | 5 => 5
    | 46 => 45
    | 146 => 277
    | 51 => 115
    | n => n,
  g := fun x =>
    match x with
    | 1 => 0
    | n => n }
theorem Tryz.lays143 : Lays.n143 Tryz.prog Tryz.lays143_ren where
  mixed := rfl
  f143 := by kernel_rfl
  f217 := by kernel_rfl
  f219 := by kernel_rfl
  f224 := by kernel_rfl
  f225 := by kernel_rfl
  f266 := by kernel_rfl
  f267 := by kernel_rfl
  f314 := by kernel_rfl
  t3 := Tryz.underlying3
  a3 := Tryz.isAgg3
  z3 := Tryz.sizeOf3
  v3 := Tryz.zeroValue3
  t4 := Tryz.underlying4
  a4 := Tryz.isAgg4
  z4 := Tryz.sizeOf4
  v4 := Tryz.zeroValue4
  t5 := Tryz.underlying5
  a5 := Tryz.isAgg5
  z5 := Tryz.sizeOf5
  v5 := Tryz.zeroValue5
  t9 := Tryz.underlying9
  a9 := Tryz.isAgg9
  z9 := Tryz.sizeOf9
  v9 := Tryz.zeroValue9
  t46 := Tryz.underlying45
  a46 := Tryz.isAgg45
  z46 := Tryz.sizeOf45
  v46 := Tryz.zeroValue45
  t51 := Tryz.underlying115
  a51 := Tryz.isAgg115
  z51 := Tryz.sizeOf115
  v51 := Tryz.zeroValue115
  t146 := Tryz.underlying277
  a146 := Tryz.isAgg277
  z146 := Tryz.sizeOf277
  v146 := Tryz.zeroValue277
  g1 := by kernel_rfl
end Go.Proofs.YthigmipcadhnkaaGreatDoor
