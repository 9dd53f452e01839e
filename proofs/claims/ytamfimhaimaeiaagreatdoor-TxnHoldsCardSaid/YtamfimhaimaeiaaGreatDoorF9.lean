import Derived.Test.YtamfimhaimaeiaaGreatDoorF5
set_option linter.all false
set_option autoImplicit true
set_option relaxedAutoImplicit true
set_option maxRecDepth 100000
namespace Go.Proofs.YtamfimhaimaeiaaGreatDoor.AL
noncomputable section
open Go.Proofs
variable [Tabs]
def law10_within_j0 (s5 : AV) (h : AHeap) (Q : QT) : Prop :=
  Q s5 h
def law10_within (a0 a1 : AV) (h : AHeap) (Q : QT) : Prop :=
  qBin .rem a0 a1 fun t8 =>
  qBin .lss t8 (I 0) fun t10 =>
  ifB t10 (
  qBin .add t8 a1 fun t13 =>
  law10_within_j0 t13 h Q) (
  law10_within_j0 t8 h Q)
theorem law10_within_ok (a0 a1 : AV) (h : AHeap) (Q : QT) (k : law10_within a0 a1 h Q) : C fn_law10_within [a0, a1] h Q :=
  okF (pl := []) Tryz.func19 Tryz.ntmps19 (by kernel_rfl) (by kernel_rfl) rfl (by kernel_rfl) k
def store_Store_Changed (a0 a1 a2 : AV) (h : AHeap) (Q : QT) : Prop :=
  qNil a0 fun t9 =>
  qFieldAddr 3 t9 fun t10 =>
  qLoad1 t10 h fun t11 =>
  qLookup .string false (.full 0 []) t11 a1 h fun t13 =>
  qLenL t13 fun t15 =>
  qBin .gtr t15 (I 0) fun t16 =>
  ifB t16 (qLenL t13 fun t20 =>
  qBin .sub t20 (I 1) fun t21 =>
  qIndexAddr 4 t13 t21 fun t22 =>
  qFieldAddr 3 t22 fun t23 =>
  qLoad1 t23 h fun t24 =>
  qBin .gtr t24 a2 fun t26 =>
  Q t26 h) (
  Q (B false) h)
theorem store_Store_Changed_ok (a0 a1 a2 : AV) (h : AHeap) (Q : QT) (k : store_Store_Changed a0 a1 a2 h Q) : C fn_store_Store_Changed [a0, a1, a2] h Q :=
  okF (pl := []) Tryz.func69 Tryz.ntmps69 (by kernel_rfl) (by kernel_rfl) rfl (by kernel_rfl) k
def store_Store_Count (a0 : AV) (h : AHeap) (Q : QT) : Prop :=
  CV (.fn (.func fn_store_Store_total) [] []) [a0, (.fn (.func fn_store_length) [] [])] h fun t6 h0 =>
  Q t6 h0
theorem store_Store_Count_ok (a0 : AV) (h : AHeap) (Q : QT) (k : store_Store_Count a0 h Q) : C fn_store_Store_Count [a0] h Q :=
  okF (pl := []) Tryz.func25 Tryz.ntmps25 (by kernel_rfl) (by kernel_rfl) rfl (by kernel_rfl) k
def store_Store_total_l4 (s12 s1 : AV) (Q : QT) (vs1 : List AV) (h : AHeap) (next1 : NT) : Prop :=
  qNextM s12 h fun t13 h2 =>
  qExtract 0 t13 fun t14 =>
  ifB t14 (
  qEntry s12 h2 fun t15 =>
  qExtract 1 t15 fun t16 =>
  CV s1 [t16] h2 fun t20 h3 =>
  qBin .add (nthA vs1 0) t20 fun t21 =>
  next1 [t21] h3) (
  Q (nthA vs1 0) h2)
def store_Store_total (a0 a1 : AV) (h : AHeap) (Q : QT) : Prop :=
  qNil a0 fun t9 =>
  qFieldAddr 3 t9 fun t10 =>
  qLoad1 t10 h fun t11 =>
  qRangeM t11 h fun t12 h0 =>
  Loop [(I 0)] h0 fun vs1 h next1 => store_Store_total_l4 t12 a1 Q vs1 h next1
theorem store_Store_total_ok (a0 a1 : AV) (h : AHeap) (Q : QT) (k : store_Store_total a0 a1 h Q) : C fn_store_Store_total [a0, a1] h Q :=
  okF (pl := [(4, [5, 7, 13, 14, 15, 16, 17, 18, 19, 20, 21], [5])]) Tryz.func38 Tryz.ntmps38 (by kernel_rfl) (by kernel_rfl) rfl (by kernel_rfl) k
def store_length (a0 : AV) (h : AHeap) (Q : QT) : Prop :=
  qLenL a0 fun t4 =>
  Q t4 h
theorem store_length_ok (a0 : AV) (h : AHeap) (Q : QT) (k : store_length a0 h Q) : C fn_store_length [a0] h Q :=
  okF (pl := []) Tryz.func39 Tryz.ntmps39 (by kernel_rfl) (by kernel_rfl) rfl (by kernel_rfl) k
def store_pins_least_l3 (s7 : AV) (Q : QT) (vs1 : List AV) (h : AHeap) (next1 : NT) : Prop :=
  qNextM s7 h fun t8 h2 =>
  qExtract 0 t8 fun t9 =>
  ifB t9 (
  qEntry s7 h2 fun t10 =>
  qExtract 0 t10 fun t11 =>
  qMin (nthA vs1 0) t11 fun t14 =>
  next1 [t14] h2) (
  Q (nthA vs1 0) h2)
def store_pins_least (a0 a1 : AV) (h : AHeap) (Q : QT) : Prop :=
  qRangeM a0 h fun t7 h0 =>
  Loop [a1] h0 fun vs1 h next1 => store_pins_least_l3 t7 Q vs1 h next1
theorem store_pins_least_ok (a0 a1 : AV) (h : AHeap) (Q : QT) (k : store_pins_least a0 a1 h Q) : C fn_store_pins_least [a0, a1] h Q :=
  okF (pl := [(3, [1, 5, 8, 9, 10, 11, 12, 13, 14], [1])]) Tryz.func76 Tryz.ntmps76 (by kernel_rfl) (by kernel_rfl) rfl (by kernel_rfl) k
def txn_Txn_changed_l4 (s8 s0 : AV) (Q : QT) (vs1 : List AV) (h : AHeap) (next1 : NT) : Prop :=
  qNextM s8 h fun t9 h2 =>
  qExtract 0 t9 fun t10 =>
  ifB t10 (
  qEntry s8 h2 fun t11 =>
  qExtract 0 t11 fun t12 =>
  qNil s0 fun t14 =>
  qFieldAddr 0 t14 fun t15 =>
  qLoad1 t15 h2 fun t16 =>
  qNil s0 fun t19 =>
  qFieldAddr 9 t19 fun t20 =>
  qLoad1 t20 h2 fun t21 =>
  C fn_store_Store_Changed [t16, t12, t21] h2 fun t22 h3 =>
  ifB t22 (
  Q (B true) h3) (
  next1 [(nthA vs1 0)] h3)) (
  Q (B false) h2)
def txn_Txn_changed (a0 : AV) (h : AHeap) (Q : QT) : Prop :=
  qNil a0 fun t5 =>
  qFieldAddr 11 t5 fun t6 =>
  qLoad1 t6 h fun t7 =>
  qRangeM t7 h fun t8 h0 =>
  Loop [(B false)] h0 fun vs1 h next1 => txn_Txn_changed_l4 t8 a0 Q vs1 h next1
theorem txn_Txn_changed_ok (a0 : AV) (h : AHeap) (Q : QT) (k : txn_Txn_changed a0 h Q) : C fn_txn_Txn_changed [a0] h Q :=
  okF (pl := [(3, [2, 3, 9, 10, 11, 12, 13, 14, 15, 16, 17, 18, 19, 20, 21, 22], [2]), (1000004, [0, 1, 2, 3, 4, 5, 6, 7, 8, 9], [])]) Tryz.func52 Tryz.ntmps52 (by kernel_rfl) (by kernel_rfl) rfl (by kernel_rfl) k
end
end Go.Proofs.YtamfimhaimaeiaaGreatDoor.AL
