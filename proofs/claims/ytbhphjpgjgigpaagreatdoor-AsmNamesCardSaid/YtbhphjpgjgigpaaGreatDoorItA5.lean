import Derived.Shelf.Strings.Search3
import Derived.KernelRfl
import Derived.Test.YtbhphjpgjgigpaaGreatDoorProg
set_option linter.all false
set_option autoImplicit true
set_option relaxedAutoImplicit true
set_option maxRecDepth 100000
namespace Go.Proofs.YtbhphjpgjgigpaaGreatDoor
open Go.Shelf
def Tryz.lays143_ren:Ren:=
 {
 f:=fun x=>
  match x with
  | 143=>134
  | 219=>168
  | 217=>135
  | 225=>184
  | 224=>185
  | 267=>186
  | 266=>169
  | 314=>200
  | n=>n,
 t:=fun x=>
  match x with
  | 9=>9
  | 3=>3
  | 4=>4
  | 5=>5
  | 46=>111
  | 146=>256
  | 51=>108
  | n=>n,
 g:=fun x=>
  match x with
  | 1=>3
  | n=>n }
theorem Tryz.lays143:Lays.n143 Tryz.prog Tryz.lays143_ren where
 mixed:=rfl
 f143:=by kernel_rfl
 f217:=by kernel_rfl
 f219:=by kernel_rfl
 f224:=by kernel_rfl
 f225:=by kernel_rfl
 f266:=by kernel_rfl
 f267:=by kernel_rfl
 f314:=by kernel_rfl
 t3:=Tryz.underlying3
 a3:=Tryz.isAgg3
 z3:=Tryz.sizeOf3
 v3:=Tryz.zeroValue3
 t4:=Tryz.underlying4
 a4:=Tryz.isAgg4
 z4:=Tryz.sizeOf4
 v4:=Tryz.zeroValue4
 t5:=Tryz.underlying5
 a5:=Tryz.isAgg5
 z5:=Tryz.sizeOf5
 v5:=Tryz.zeroValue5
 t9:=Tryz.underlying9
 a9:=Tryz.isAgg9
 z9:=Tryz.sizeOf9
 v9:=Tryz.zeroValue9
 t46:=Tryz.underlying111
 a46:=Tryz.isAgg111
 z46:=Tryz.sizeOf111
 v46:=Tryz.zeroValue111
 t51:=Tryz.underlying108
 a51:=Tryz.isAgg108
 z51:=Tryz.sizeOf108
 v51:=Tryz.zeroValue108
 t146:=Tryz.underlying256
 a146:=Tryz.isAgg256
 z146:=Tryz.sizeOf256
 v146:=Tryz.zeroValue256
 g1:=by kernel_rfl
end Go.Proofs.YtbhphjpgjgigpaaGreatDoor
