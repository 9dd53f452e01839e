import Derived.Shelf.Strings.Search3
import Derived.KernelRfl
import Derived.Test.YtgkmmcdhhkllnaaGreatDoorProg
set_option linter.all false
set_option autoImplicit true
set_option relaxedAutoImplicit true
set_option maxRecDepth 100000
namespace Go.Proofs.YtgkmmcdhhkllnaaGreatDoor
open Go.Shelf
def Tryz.lays143_ren:Ren:=
 {
 f:=fun x=>
  match x with
  | 143=>137
  | 219=>191
  | 217=>138
  | 225=>232
  | 224=>233
  | 267=>234
  | 266=>192
  | 314=>250
  | n=>n,
 t:=fun x=>
  match x with
  | 9=>9
  | 3=>3
  | 4=>4
  | 5=>5
  | 46=>184
  | 146=>306
  | 51=>181
  | n=>n,
 g:=fun x=>
  match x with
  | 1=>2
  | n=>n }
theorem Tryz.lays143:Lays.n143 Tryz.prog Tryz.lays143_ren where
 mixed:=rfl
 f143:=by kernel_rfl
 f217:=by kernel_rfl
 f219:=by kernel_rfl
 f224:=by kernel_rfl
 f225:=by kernel_rfl
 f266:=by kernel_rfl
 f267:=by kernel_rfl
 f314:=by kernel_rfl
 t3:=Tryz.underlying3
 a3:=Tryz.isAgg3
 z3:=Tryz.sizeOf3
 v3:=Tryz.zeroValue3
 t4:=Tryz.underlying4
 a4:=Tryz.isAgg4
 z4:=Tryz.sizeOf4
 v4:=Tryz.zeroValue4
 t5:=Tryz.underlying5
 a5:=Tryz.isAgg5
 z5:=Tryz.sizeOf5
 v5:=Tryz.zeroValue5
 t9:=Tryz.underlying9
 a9:=Tryz.isAgg9
 z9:=Tryz.sizeOf9
 v9:=Tryz.zeroValue9
 t46:=Tryz.underlying184
 a46:=Tryz.isAgg184
 z46:=Tryz.sizeOf184
 v46:=Tryz.zeroValue184
 t51:=Tryz.underlying181
 a51:=Tryz.isAgg181
 z51:=Tryz.sizeOf181
 v51:=Tryz.zeroValue181
 t146:=Tryz.underlying306
 a146:=Tryz.isAgg306
 z146:=Tryz.sizeOf306
 v146:=Tryz.zeroValue306
 g1:=by kernel_rfl
end Go.Proofs.YtgkmmcdhhkllnaaGreatDoor
