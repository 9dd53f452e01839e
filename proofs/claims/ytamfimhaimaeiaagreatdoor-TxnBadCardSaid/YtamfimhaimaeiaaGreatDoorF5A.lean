import Derived.Test.YtamfimhaimaeiaaGreatDoorAM4toAM6
import Derived.Test.YtamfimhaimaeiaaGreatDoorAL33
import Derived.Test.YtamfimhaimaeiaaGreatDoorProg
import Derived.KernelRfl
set_option linter.all false
set_option autoImplicit true
set_option relaxedAutoImplicit true
set_option maxRecDepth 100000
namespace Go.Proofs.YtamfimhaimaeiaaGreatDoor.AL
noncomputable section
open Go.Proofs
variable [Tabs]
noncomputable abbrev Pg : Program := Tryz.prog
abbrev C := ACall Pg
abbrev CV := ACallV Pg
def bodyOf (fn : Func) : Code := fn.body.getD .skip
theorem okF {f : FuncId} {fn : Func} {m : Nat} {l : List AV} {h : AHeap} {Q : QT} {pl : Plan} {p : Prop} (hf : Pg.funcs[f]? = some fn) (hm : fn.ntmps = m) (hb : fn.body = some (bodyOf fn)) (hn : (fn.name == "runtime.NumGoroutine") = false) (hl : Nat.ble l.length m = true) (he : denF Pg pl fn (bodyOf fn) l h Q = p) (k : p) : ACall Pg f l h Q :=
  acall_of_den hf hb hn (by rw [hm]; exact Nat.le_of_ble_eq_true hl) (by rw [he]; exact k)
abbrev fn_incr_New : Nat := 16
abbrev fn_law10_TxnBad : Nat := 6
abbrev fn_law10_known : Nat := 8
abbrev fn_law10_within : Nat := 19
abbrev fn_line_Word : Nat := 42
abbrev fn_line_digit : Nat := 58
abbrev fn_line_front : Nat := 59
abbrev fn_line_inner : Nat := 60
abbrev fn_maps_Keys_map_string_store_version_string__store_version : Nat := 78
abbrev fn_maps_Keys_map_string_store_version_string__store_version_1 : Nat := 95
abbrev fn_ref3_Word : Nat := 54
abbrev fn_ref4_Word : Nat := 37
abbrev fn_ref9_Right : Nat := 24
abbrev fn_slices_Clone__api_Arg_api_Arg : Nat := 153
abbrev fn_slices_Clone__api_Diag_api_Diag : Nat := 103
abbrev fn_slices_Clone__api_Stmt_api_Stmt : Nat := 119
abbrev fn_slices_Clone__byte_byte : Nat := 105
abbrev fn_slices_Clone__int_int : Nat := 120
abbrev fn_slices_Clone__store_version_store_version : Nat := 70
abbrev fn_slices_Clone__string_string : Nat := 30
abbrev fn_slices_Sorted_string : Nat := 77
abbrev fn_store_New : Nat := 15
abbrev fn_store_Store_Changed : Nat := 69
abbrev fn_store_Store_Count : Nat := 25
abbrev fn_store_Store_Now : Nat := 23
abbrev fn_store_Store_total : Nat := 38
abbrev fn_store_length : Nat := 39
abbrev fn_store_pins_least : Nat := 76
abbrev fn_txn_Begin : Nat := 18
abbrev fn_txn_Txn_Step : Nat := 20
abbrev fn_txn_Txn_Tries : Nat := 21
abbrev fn_txn_Txn_begin : Nat := 33
abbrev fn_txn_Txn_changed : Nat := 52
abbrev fn_txn_Txn_last : Nat := 35
abbrev fn_txn_Txn_read : Nat := 34
abbrev fn_txn_Txn_told : Nat := 32
abbrev fn_work_Right : Nat := 31
abbrev fn_work_defines : Nat := 44
abbrev fn_work_writes : Nat := 43
def slices_Clone__api_Arg_api_Arg (a0 : AV) (h : AHeap) (Q : QT) : Prop :=
  qIsNilS .eql a0 fun t4 =>
  ifB t4 (
  Q (.full 0 []) h) (
  qBuildSlice 0 5 [] fun t5 =>
  qAppend 5 64 t5 a0 h fun t7 h0 =>
  Q t7 h0)
theorem slices_Clone__api_Arg_api_Arg_ok (a0 : AV) (h : AHeap) (Q : QT) (k : slices_Clone__api_Arg_api_Arg a0 h Q) : C fn_slices_Clone__api_Arg_api_Arg [a0] h Q :=
  okF (pl := []) Tryz.func153 Tryz.ntmps153 (by kernel_rfl) (by kernel_rfl) rfl (by kernel_rfl) k
def slices_Clone__api_Diag_api_Diag (a0 : AV) (h : AHeap) (Q : QT) : Prop :=
  qIsNilS .eql a0 fun t4 =>
  ifB t4 (
  Q (.full 0 []) h) (
  qBuildSlice 0 3 [] fun t5 =>
  qAppend 3 32 t5 a0 h fun t7 h0 =>
  Q t7 h0)
theorem slices_Clone__api_Diag_api_Diag_ok (a0 : AV) (h : AHeap) (Q : QT) (k : slices_Clone__api_Diag_api_Diag a0 h Q) : C fn_slices_Clone__api_Diag_api_Diag [a0] h Q :=
  okF (pl := []) Tryz.func103 Tryz.ntmps103 (by kernel_rfl) (by kernel_rfl) rfl (by kernel_rfl) k
def slices_Clone__api_Stmt_api_Stmt (a0 : AV) (h : AHeap) (Q : QT) : Prop :=
  qIsNilS .eql a0 fun t4 =>
  ifB t4 (
  Q (.full 0 []) h) (
  qBuildSlice 0 6 [] fun t5 =>
  qAppend 6 80 t5 a0 h fun t7 h0 =>
  Q t7 h0)
theorem slices_Clone__api_Stmt_api_Stmt_ok (a0 : AV) (h : AHeap) (Q : QT) (k : slices_Clone__api_Stmt_api_Stmt a0 h Q) : C fn_slices_Clone__api_Stmt_api_Stmt [a0] h Q :=
  okF (pl := []) Tryz.func119 Tryz.ntmps119 (by kernel_rfl) (by kernel_rfl) rfl (by kernel_rfl) k
def slices_Clone__byte_byte (a0 : AV) (h : AHeap) (Q : QT) : Prop :=
  qIsNilS .eql a0 fun t4 =>
  ifB t4 (
  Q (.full 0 []) h) (
  qBuildSlice 0 1 [] fun t5 =>
  qAppend 1 1 t5 a0 h fun t7 h0 =>
  Q t7 h0)
theorem slices_Clone__byte_byte_ok (a0 : AV) (h : AHeap) (Q : QT) (k : slices_Clone__byte_byte a0 h Q) : C fn_slices_Clone__byte_byte [a0] h Q :=
  okF (pl := []) Tryz.func105 Tryz.ntmps105 (by kernel_rfl) (by kernel_rfl) rfl (by kernel_rfl) k
def slices_Clone__int_int (a0 : AV) (h : AHeap) (Q : QT) : Prop :=
  qIsNilS .eql a0 fun t4 =>
  ifB t4 (
  Q (.full 0 []) h) (
  qBuildSlice 0 1 [] fun t5 =>
  qAppend 1 8 t5 a0 h fun t7 h0 =>
  Q t7 h0)
theorem slices_Clone__int_int_ok (a0 : AV) (h : AHeap) (Q : QT) (k : slices_Clone__int_int a0 h Q) : C fn_slices_Clone__int_int [a0] h Q :=
  okF (pl := []) Tryz.func120 Tryz.ntmps120 (by kernel_rfl) (by kernel_rfl) rfl (by kernel_rfl) k
def slices_Clone__store_version_store_version (a0 : AV) (h : AHeap) (Q : QT) : Prop :=
  qIsNilS .eql a0 fun t4 =>
  ifB t4 (
  Q (.full 0 []) h) (
  qBuildSlice 0 4 [] fun t5 =>
  qAppend 4 48 t5 a0 h fun t7 h0 =>
  Q t7 h0)
theorem slices_Clone__store_version_store_version_ok (a0 : AV) (h : AHeap) (Q : QT) (k : slices_Clone__store_version_store_version a0 h Q) : C fn_slices_Clone__store_version_store_version [a0] h Q :=
  okF (pl := []) Tryz.func70 Tryz.ntmps70 (by kernel_rfl) (by kernel_rfl) rfl (by kernel_rfl) k
def slices_Clone__string_string (a0 : AV) (h : AHeap) (Q : QT) : Prop :=
  qIsNilS .eql a0 fun t4 =>
  ifB t4 (
  Q (.full 0 []) h) (
  qBuildSlice 0 1 [] fun t5 =>
  qAppend 1 16 t5 a0 h fun t7 h0 =>
  Q t7 h0)
theorem slices_Clone__string_string_ok (a0 : AV) (h : AHeap) (Q : QT) (k : slices_Clone__string_string a0 h Q) : C fn_slices_Clone__string_string [a0] h Q :=
  okF (pl := []) Tryz.func30 Tryz.ntmps30 (by kernel_rfl) (by kernel_rfl) rfl (by kernel_rfl) k
end
end Go.Proofs.YtamfimhaimaeiaaGreatDoor.AL
