import Derived.Test.YtpjhnkdbfdglgaaGreatDoorF5
set_option linter.all false
set_option autoImplicit true
set_option relaxedAutoImplicit true
set_option maxRecDepth 100000
namespace Go.Proofs.YtpjhnkdbfdglgaaGreatDoor.AL
noncomputable section
open Go.Proofs
variable [Tabs]
def law8_within_j0 (s5 : AV) (h : AHeap) (Q : QT) : Prop :=
  Q s5 h
def law8_within (a0 a1 : AV) (h : AHeap) (Q : QT) : Prop :=
  qBin .rem a0 a1 fun t8 =>
  qBin .lss t8 (I 0) fun t10 =>
  ifB t10 (
  qBin .add t8 a1 fun t13 =>
  law8_within_j0 t13 h Q) (
  law8_within_j0 t8 h Q)
theorem law8_within_ok (a0 a1 : AV) (h : AHeap) (Q : QT) (k : law8_within a0 a1 h Q) : C fn_law8_within [a0, a1] h Q :=
  okF (pl := []) Tryz.func6 Tryz.ntmps6 (by kernel_rfl) (by kernel_rfl) rfl (by kernel_rfl) k
end
end Go.Proofs.YtpjhnkdbfdglgaaGreatDoor.AL
