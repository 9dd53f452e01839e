import Derived.Test.YtamfimhaimaeiaaGreatDoorF5A
set_option linter.all false
set_option autoImplicit true
set_option relaxedAutoImplicit true
set_option maxRecDepth 100000
namespace Go.Proofs.YtamfimhaimaeiaaGreatDoor.AL
noncomputable section
open Go.Proofs
variable [Tabs]
def line_Word (a0 : AV) (h : AHeap) (Q : QT) : Prop :=
  qBin .eql a0 (S ⟨#[]⟩) fun t4 =>
  ifB t4 (Q (B false) h) (
  qLenS a0 fun t7 =>
  qBin .gtr t7 (I 12) fun t8 =>
  ifB t8 (Q (B false) h) (
  qIndexS a0 (I 0) fun t12 =>
  C fn_line_digit [t12] h fun t13 h0 =>
  ifB t13 (Q (B false) h0) (
  C fn_line_front [a0, (.fn (.func fn_line_inner) [] [])] h0 fun t17 h1 =>
  qLenS a0 fun t19 =>
  qBin .neq t17 t19 fun t20 =>
  ifB t20 (
  Q (B false) h1) (
  qIndexS a0 (I 0) fun t23 =>
  qBin .neq t23 (.lit (.int .u8 114)) fun t24 =>
  ifB t24 (Q (B true) h1) (
  qLenS a0 fun t27 =>
  qBin .eql t27 (I 1) fun t28 =>
  ifB t28 (Q (B true) h1) (
  qSliceS a0 (some (I 1)) none fun t32 =>
  C fn_line_front [t32, (.fn (.func fn_line_digit) [] [])] h1 fun t33 h2 =>
  qLenS a0 fun t35 =>
  qBin .sub t35 (I 1) fun t36 =>
  qBin .neq t33 t36 fun t37 =>
  Q t37 h2))))))
theorem line_Word_ok (a0 : AV) (h : AHeap) (Q : QT) (k : line_Word a0 h Q) : C fn_line_Word [a0] h Q :=
  okF (pl := []) Tryz.func42 Tryz.ntmps42 (by kernel_rfl) (by kernel_rfl) rfl (by kernel_rfl) k
def line_digit (a0 : AV) (h : AHeap) (Q : QT) : Prop :=
  qBin .geq a0 (.lit (.int .u8 48)) fun t4 =>
  ifB t4 (qBin .leq a0 (.lit (.int .u8 57)) fun t7 =>
  Q t7 h) (
  Q (B false) h)
theorem line_digit_ok (a0 : AV) (h : AHeap) (Q : QT) (k : line_digit a0 h Q) : C fn_line_digit [a0] h Q :=
  okF (pl := []) Tryz.func58 Tryz.ntmps58 (by kernel_rfl) (by kernel_rfl) rfl (by kernel_rfl) k
def line_front_l2 (s0 s1 : AV) (Q : QT) (vs0 : List AV) (h : AHeap) (next0 : NT) : Prop :=
  qLenS s0 fun t8 =>
  qBin .lss (nthA vs0 0) t8 fun t9 =>
  ifB t9 (qIndexS s0 (nthA vs0 0) fun t14 =>
  CV s1 [t14] h fun t15 h1 =>
  ifB t15 (
  qBin .add (nthA vs0 0) (I 1) fun t18 =>
  next0 [t18] h1) (
  Q (nthA vs0 0) h1)) (
  Q (nthA vs0 0) h)
def line_front (a0 a1 : AV) (h : AHeap) (Q : QT) : Prop :=
  Loop [(I 0)] h fun vs0 h next0 => line_front_l2 a0 a1 Q vs0 h next0
theorem line_front_ok (a0 a1 : AV) (h : AHeap) (Q : QT) (k : line_front a0 a1 h Q) : C fn_line_front [a0, a1] h Q :=
  okF (pl := [(3, [5, 6, 7, 8, 9, 10, 11, 12, 13, 14, 15, 16, 17, 18], [5])]) Tryz.func59 Tryz.ntmps59 (by kernel_rfl) (by kernel_rfl) rfl (by kernel_rfl) k
def line_inner (a0 : AV) (h : AHeap) (Q : QT) : Prop :=
  qBin .geq a0 (.lit (.int .u8 97)) fun t4 =>
  ifB t4 (qBin .leq a0 (.lit (.int .u8 122)) fun t7 =>
  ifB t7 (Q (B true) h) (
  qBin .eql a0 (.lit (.int .u8 95)) fun t11 =>
  ifB t11 (Q (B true) h) (
  C fn_line_digit [a0] h fun t15 h0 =>
  Q t15 h0))) (
  qBin .eql a0 (.lit (.int .u8 95)) fun t11 =>
  ifB t11 (Q (B true) h) (
  C fn_line_digit [a0] h fun t15 h1 =>
  Q t15 h1))
theorem line_inner_ok (a0 : AV) (h : AHeap) (Q : QT) (k : line_inner a0 h Q) : C fn_line_inner [a0] h Q :=
  okF (pl := []) Tryz.func60 Tryz.ntmps60 (by kernel_rfl) (by kernel_rfl) rfl (by kernel_rfl) k
end
end Go.Proofs.YtamfimhaimaeiaaGreatDoor.AL
