import Derived.Test.YtamfimhaimaeiaaGreatDoorAM4toAM6
import Derived.Test.YtamfimhaimaeiaaGreatDoorAL33
import Derived.Test.YtamfimhaimaeiaaGreatDoorProg
import Derived.KernelRfl
set_option linter.all false
set_option autoImplicit true
set_option relaxedAutoImplicit true
set_option maxRecDepth 100000
namespace Go.Proofs.YtamfimhaimaeiaaGreatDoor.AL
noncomputable section
open Go.Proofs
variable [Tabs]
noncomputable abbrev Pg : Program := Tryz.prog
abbrev C := ACall Pg
abbrev CV := ACallV Pg
abbrev CD := ACallD Pg
def bodyOf (fn : Func) : Code := fn.body.getD .skip
theorem okF {f : FuncId} {fn : Func} {m : Nat} {l : List AV} {h : AHeap} {Q : QT} {pl : Plan} {p : Prop} (hf : Pg.funcs[f]? = some fn) (hm : fn.ntmps = m) (hb : fn.body = some (bodyOf fn)) (hn : (fn.name == "runtime.NumGoroutine") = false) (hl : Nat.ble l.length m = true) (he : denF Pg pl fn (bodyOf fn) l h Q = p) (k : p) : ACall Pg f l h Q :=
  acall_of_den hf hb hn (by rw [hm]; exact Nat.le_of_ble_eq_true hl) (by rw [he]; exact k)
abbrev fn_incr_New : Nat := 16
abbrev fn_law10_TxnBlind : Nat := 4
abbrev fn_law10_finish : Nat := 17
abbrev fn_law10_known : Nat := 8
abbrev fn_law10_within : Nat := 19
abbrev fn_line_Word : Nat := 42
abbrev fn_line_digit : Nat := 58
abbrev fn_line_front : Nat := 59
abbrev fn_line_inner : Nat := 60
abbrev fn_maps_Keys_map_string_store_version_string__store_version : Nat := 78
abbrev fn_maps_Keys_map_string_store_version_string__store_version_1 : Nat := 95
abbrev fn_slices_Clone__api_Arg_api_Arg : Nat := 153
abbrev fn_slices_Clone__api_Diag_api_Diag : Nat := 103
abbrev fn_slices_Clone__api_Stmt_api_Stmt : Nat := 119
abbrev fn_slices_Clone__byte_byte : Nat := 105
abbrev fn_slices_Clone__int_int : Nat := 120
abbrev fn_slices_Clone__store_version_store_version : Nat := 70
abbrev fn_slices_Clone__string_string : Nat := 30
abbrev fn_slices_Compact__string_string : Nat := 106
abbrev fn_slices_Contains__string_string : Nat := 61
abbrev fn_slices_DeleteFunc__string_string : Nat := 108
abbrev fn_slices_IndexFunc__string_string : Nat := 134
abbrev fn_slices_Index__string_string : Nat := 75
abbrev fn_slices_Sort__string_string : Nat := 94
abbrev fn_slices_Sorted_string : Nat := 77
abbrev fn_store_New : Nat := 15
abbrev fn_store_Store_Changed : Nat := 69
abbrev fn_store_Store_Clean : Nat := 63
abbrev fn_store_Store_Commit : Nat := 53
abbrev fn_store_Store_Count : Nat := 25
abbrev fn_store_Store_Now : Nat := 23
abbrev fn_store_Store_Pin : Nat := 45
abbrev fn_store_Store_Read : Nat := 22
abbrev fn_store_Store_Unpin : Nat := 40
abbrev fn_store_Store_newest : Nat := 36
abbrev fn_store_Store_total : Nat := 38
abbrev fn_store_gone : Nat := 79
abbrev fn_store_length : Nat := 39
abbrev fn_store_pins_least : Nat := 76
abbrev fn_strings_Count : Nat := 56
abbrev fn_strings_Index : Nat := 57
abbrev fn_strings_Split : Nat := 29
abbrev fn_strings_explode : Nat := 55
abbrev fn_strings_genSplit : Nat := 41
abbrev fn_txn_Begin : Nat := 18
abbrev fn_txn_Join : Nat := 10
abbrev fn_txn_Parts : Nat := 13
abbrev fn_txn_Txn_Step : Nat := 20
abbrev fn_txn_Txn_Tries : Nat := 21
abbrev fn_txn_Txn_begin : Nat := 33
abbrev fn_txn_Txn_changed : Nat := 52
abbrev fn_txn_Txn_end : Nat := 48
abbrev fn_txn_Txn_first : Nat := 46
abbrev fn_txn_Txn_gone : Nat := 68
abbrev fn_txn_Txn_last : Nat := 35
abbrev fn_txn_Txn_more : Nat := 47
abbrev fn_txn_Txn_names : Nat := 62
abbrev fn_txn_Txn_read : Nat := 34
abbrev fn_txn_Txn_set : Nat := 66
abbrev fn_txn_Txn_show : Nat := 49
abbrev fn_txn_Txn_told : Nat := 32
abbrev fn_txn_Txn_writes : Nat := 51
abbrev fn_txn_list : Nat := 84
abbrev fn_txn_with : Nat := 85
abbrev fn_txn_without : Nat := 87
abbrev fn_txn_without_1 : Nat := 109
abbrev fn_unicode_utf8_RuneCountInString : Nat := 71
abbrev fn_work_Right : Nat := 31
abbrev fn_work_defines : Nat := 44
abbrev fn_work_writes : Nat := 43
def slices_Clone__api_Arg_api_Arg (a0 : AV) (h : AHeap) (Q : QT) : Prop :=
  qIsNilS .eql a0 fun t4 =>
  ifB t4 (
  Q (.full 0 []) h) (
  qBuildSlice 0 5 [] fun t5 =>
  qAppend 5 64 t5 a0 h fun t7 h0 =>
  Q t7 h0)
theorem slices_Clone__api_Arg_api_Arg_ok (a0 : AV) (h : AHeap) (Q : QT) (k : slices_Clone__api_Arg_api_Arg a0 h Q) : C fn_slices_Clone__api_Arg_api_Arg [a0] h Q :=
  okF (pl := []) Tryz.func153 Tryz.ntmps153 (by kernel_rfl) (by kernel_rfl) rfl (by kernel_rfl) k
def slices_Clone__api_Diag_api_Diag (a0 : AV) (h : AHeap) (Q : QT) : Prop :=
  qIsNilS .eql a0 fun t4 =>
  ifB t4 (
  Q (.full 0 []) h) (
  qBuildSlice 0 3 [] fun t5 =>
  qAppend 3 32 t5 a0 h fun t7 h0 =>
  Q t7 h0)
theorem slices_Clone__api_Diag_api_Diag_ok (a0 : AV) (h : AHeap) (Q : QT) (k : slices_Clone__api_Diag_api_Diag a0 h Q) : C fn_slices_Clone__api_Diag_api_Diag [a0] h Q :=
  okF (pl := []) Tryz.func103 Tryz.ntmps103 (by kernel_rfl) (by kernel_rfl) rfl (by kernel_rfl) k
def slices_Clone__api_Stmt_api_Stmt (a0 : AV) (h : AHeap) (Q : QT) : Prop :=
  qIsNilS .eql a0 fun t4 =>
  ifB t4 (
  Q (.full 0 []) h) (
  qBuildSlice 0 6 [] fun t5 =>
  qAppend 6 80 t5 a0 h fun t7 h0 =>
  Q t7 h0)
theorem slices_Clone__api_Stmt_api_Stmt_ok (a0 : AV) (h : AHeap) (Q : QT) (k : slices_Clone__api_Stmt_api_Stmt a0 h Q) : C fn_slices_Clone__api_Stmt_api_Stmt [a0] h Q :=
  okF (pl := []) Tryz.func119 Tryz.ntmps119 (by kernel_rfl) (by kernel_rfl) rfl (by kernel_rfl) k
def slices_Clone__byte_byte (a0 : AV) (h : AHeap) (Q : QT) : Prop :=
  qIsNilS .eql a0 fun t4 =>
  ifB t4 (
  Q (.full 0 []) h) (
  qBuildSlice 0 1 [] fun t5 =>
  qAppend 1 1 t5 a0 h fun t7 h0 =>
  Q t7 h0)
theorem slices_Clone__byte_byte_ok (a0 : AV) (h : AHeap) (Q : QT) (k : slices_Clone__byte_byte a0 h Q) : C fn_slices_Clone__byte_byte [a0] h Q :=
  okF (pl := []) Tryz.func105 Tryz.ntmps105 (by kernel_rfl) (by kernel_rfl) rfl (by kernel_rfl) k
def slices_Clone__int_int (a0 : AV) (h : AHeap) (Q : QT) : Prop :=
  qIsNilS .eql a0 fun t4 =>
  ifB t4 (
  Q (.full 0 []) h) (
  qBuildSlice 0 1 [] fun t5 =>
  qAppend 1 8 t5 a0 h fun t7 h0 =>
  Q t7 h0)
theorem slices_Clone__int_int_ok (a0 : AV) (h : AHeap) (Q : QT) (k : slices_Clone__int_int a0 h Q) : C fn_slices_Clone__int_int [a0] h Q :=
  okF (pl := []) Tryz.func120 Tryz.ntmps120 (by kernel_rfl) (by kernel_rfl) rfl (by kernel_rfl) k
def slices_Clone__store_version_store_version (a0 : AV) (h : AHeap) (Q : QT) : Prop :=
  qIsNilS .eql a0 fun t4 =>
  ifB t4 (
  Q (.full 0 []) h) (
  qBuildSlice 0 4 [] fun t5 =>
  qAppend 4 48 t5 a0 h fun t7 h0 =>
  Q t7 h0)
theorem slices_Clone__store_version_store_version_ok (a0 : AV) (h : AHeap) (Q : QT) (k : slices_Clone__store_version_store_version a0 h Q) : C fn_slices_Clone__store_version_store_version [a0] h Q :=
  okF (pl := []) Tryz.func70 Tryz.ntmps70 (by kernel_rfl) (by kernel_rfl) rfl (by kernel_rfl) k
def slices_Clone__string_string (a0 : AV) (h : AHeap) (Q : QT) : Prop :=
  qIsNilS .eql a0 fun t4 =>
  ifB t4 (
  Q (.full 0 []) h) (
  qBuildSlice 0 1 [] fun t5 =>
  qAppend 1 16 t5 a0 h fun t7 h0 =>
  Q t7 h0)
theorem slices_Clone__string_string_ok (a0 : AV) (h : AHeap) (Q : QT) (k : slices_Clone__string_string a0 h Q) : C fn_slices_Clone__string_string [a0] h Q :=
  okF (pl := []) Tryz.func30 Tryz.ntmps30 (by kernel_rfl) (by kernel_rfl) rfl (by kernel_rfl) k
def slices_Compact__string_string_j3 (s3 s5 : AV) (h : AHeap) (next1 : NT) : Prop :=
  qBin .add s5 (I 1) fun t34 =>
  next1 [s3, t34] h
def slices_Compact__string_string_b4 (s3 s5 : AV) (h : AHeap) (next1 : NT) : Prop :=
  slices_Compact__string_string_j3 s3 s5 h next1
def slices_Compact__string_string_l6 (s4 s0 : AV) (Q : QT) (vs1 : List AV) (h : AHeap) (next1 : NT) : Prop :=
  qLenL s4 fun t31 =>
  qBin .lss (nthA vs1 1) t31 fun t32 =>
  ifB t32 (
  qIndexAddr 1 s4 (nthA vs1 1) fun t37 =>
  qLoad1 t37 h fun t38 =>
  qBin .sub (nthA vs1 1) (I 1) fun t41 =>
  qIndexAddr 1 s4 t41 fun t42 =>
  qLoad1 t42 h fun t43 =>
  qBin .neq t38 t43 fun t44 =>
  ifB t44 (
  qIndexAddr 1 s4 (nthA vs1 1) fun t49 =>
  qLoad1 t49 h fun t50 =>
  qIndexAddr 1 s0 (nthA vs1 0) fun t51 =>
  qStore 1 t51 t50 h fun h2 =>
  qBin .add (nthA vs1 0) (I 1) fun t53 =>
  slices_Compact__string_string_b4 t53 (nthA vs1 1) h2 next1) (
  slices_Compact__string_string_b4 (nthA vs1 0) (nthA vs1 1) h next1)) (
  qSliceL 1 s0 (some (nthA vs1 0)) none fun t56 =>
  qClear 1 (S ⟨#[]⟩) t56 h fun h5 =>
  qSliceL 1 s0 none (some (nthA vs1 0)) fun t59 =>
  Q t59 h5)
def slices_Compact__string_string_l7 (s0 : AV) (Q : QT) (vs0 : List AV) (h : AHeap) (next0 : NT) : Prop :=
  qLenL s0 fun t12 =>
  qBin .lss (nthA vs0 1) t12 fun t13 =>
  ifB t13 (
  qIndexAddr 1 s0 (nthA vs0 1) fun t18 =>
  qLoad1 t18 h fun t19 =>
  qBin .sub (nthA vs0 1) (I 1) fun t22 =>
  qIndexAddr 1 s0 t22 fun t23 =>
  qLoad1 t23 h fun t24 =>
  qBin .eql t19 t24 fun t25 =>
  ifB t25 (
  qSliceL 1 s0 (some (nthA vs0 1)) none fun t28 =>
  Loop [(nthA vs0 1), (I 1)] h fun vs1 h next1 => slices_Compact__string_string_l6 t28 s0 Q vs1 h next1) (
  qBin .add (nthA vs0 1) (I 1) fun t15 =>
  next0 [(nthA vs0 0), t15] h)) (
  Q s0 h)
def slices_Compact__string_string (a0 : AV) (h : AHeap) (Q : QT) : Prop :=
  qLenL a0 fun t7 =>
  qBin .lss t7 (I 2) fun t8 =>
  ifB t8 (
  Q a0 h) (
  Loop [(.full 0 []), (I 1)] h fun vs0 h next0 => slices_Compact__string_string_l7 a0 Q vs0 h next0)
theorem slices_Compact__string_string_ok (a0 : AV) (h : AHeap) (Q : QT) (k : slices_Compact__string_string a0 h Q) : C fn_slices_Compact__string_string [a0] h Q :=
  okF (pl := [(5, [2, 3, 4, 5, 10, 11, 12, 13, 14, 15, 16, 17, 18, 19, 20, 21, 22, 23, 24, 25, 26, 27, 28, 29, 30, 31, 32, 33, 34, 35, 36, 37, 38, 39, 40, 41, 42, 43, 44, 45, 46, 47, 48, 49, 50, 51, 52, 53, 54, 55, 56, 57, 58, 59], [2, 3]), (1000006, [0, 1, 2, 3, 4, 5, 6, 7, 8, 9], []), (10, [3, 5, 29, 30, 31, 32, 33, 34, 35, 36, 37, 38, 39, 40, 41, 42, 43, 44, 45, 46, 47, 48, 49, 50, 51, 52, 53], [3, 5]), (1000011, [0, 1, 2, 3, 4, 5, 6, 7, 8, 9], [])]) Tryz.func106 Tryz.ntmps106 (by kernel_rfl) (by kernel_rfl) rfl (by kernel_rfl) k
def slices_Contains__string_string (a0 a1 : AV) (h : AHeap) (Q : QT) : Prop :=
  C fn_slices_Index__string_string [a0, a1] h fun t7 h0 =>
  qBin .geq t7 (I 0) fun t8 =>
  Q t8 h0
theorem slices_Contains__string_string_ok (a0 a1 : AV) (h : AHeap) (Q : QT) (k : slices_Contains__string_string a0 a1 h Q) : C fn_slices_Contains__string_string [a0, a1] h Q :=
  okF (pl := []) Tryz.func61 Tryz.ntmps61 (by kernel_rfl) (by kernel_rfl) rfl (by kernel_rfl) k
def slices_DeleteFunc__string_string_j4 (s5 s6 : AV) (h : AHeap) (next1 : NT) : Prop :=
  qBin .add s6 (I 1) fun t21 =>
  next1 [s5, t21] h
def slices_DeleteFunc__string_string_b5 (s5 s6 : AV) (h : AHeap) (next1 : NT) : Prop :=
  slices_DeleteFunc__string_string_j4 s5 s6 h next1
def slices_DeleteFunc__string_string_l7 (s0 s1 : AV) (Q : QT) (vs1 : List AV) (h : AHeap) (next1 : NT) : Prop :=
  qLenL s0 fun t18 =>
  qBin .lss (nthA vs1 1) t18 fun t19 =>
  ifB t19 (
  qIndexAddr 1 s0 (nthA vs1 1) fun t24 =>
  qLoad1 t24 h fun t25 =>
  CV s1 [t25] h fun t28 h2 =>
  qUn .not t28 fun t29 =>
  ifB t29 (
  qIndexAddr 1 s0 (nthA vs1 0) fun t33 =>
  qStore 1 t33 t25 h2 fun h3 =>
  qBin .add (nthA vs1 0) (I 1) fun t35 =>
  slices_DeleteFunc__string_string_b5 t35 (nthA vs1 1) h3 next1) (
  slices_DeleteFunc__string_string_b5 (nthA vs1 0) (nthA vs1 1) h2 next1)) (
  qSliceL 1 s0 (some (nthA vs1 0)) none fun t38 =>
  qClear 1 (S ⟨#[]⟩) t38 h fun h6 =>
  qSliceL 1 s0 none (some (nthA vs1 0)) fun t41 =>
  Q t41 h6)
def slices_DeleteFunc__string_string (a0 a1 : AV) (h : AHeap) (Q : QT) : Prop :=
  C fn_slices_IndexFunc__string_string [a0, a1] h fun t10 h0 =>
  qBin .eql t10 (I (-1)) fun t12 =>
  ifB t12 (
  Q a0 h0) (
  qBin .add t10 (I 1) fun t15 =>
  Loop [t10, t15] h0 fun vs1 h next1 => slices_DeleteFunc__string_string_l7 a0 a1 Q vs1 h next1)
theorem slices_DeleteFunc__string_string_ok (a0 a1 : AV) (h : AHeap) (Q : QT) (k : slices_DeleteFunc__string_string a0 a1 h Q) : C fn_slices_DeleteFunc__string_string [a0, a1] h Q :=
  okF (pl := [(6, [5, 6, 7, 16, 17, 18, 19, 20, 21, 22, 23, 24, 25, 26, 27, 28, 29, 30, 31, 32, 33, 34, 35], [5, 6])]) Tryz.func108 Tryz.ntmps108 (by kernel_rfl) (by kernel_rfl) rfl (by kernel_rfl) k
def slices_IndexFunc__string_string_l2 (s7 s0 s1 : AV) (Q : QT) (vs0 : List AV) (h : AHeap) (next0 : NT) : Prop :=
  qBin .lss (nthA vs0 1) s7 fun t9 =>
  ifB t9 (
  qIndexAddr 1 s0 (nthA vs0 1) fun t14 =>
  qLoad1 t14 h fun t15 =>
  CV s1 [t15] h fun t16 h1 =>
  ifB t16 (
  Q (nthA vs0 1) h1) (
  qBin .add (nthA vs0 1) (I 1) fun t18 =>
  next0 [(nthA vs0 0), t18] h1)) (
  Q (I (-1)) h)
def slices_IndexFunc__string_string (a0 a1 : AV) (h : AHeap) (Q : QT) : Prop :=
  qLenL a0 fun t7 =>
  Loop [(I 0), (I 0)] h fun vs0 h next0 => slices_IndexFunc__string_string_l2 t7 a0 a1 Q vs0 h next0
theorem slices_IndexFunc__string_string_ok (a0 a1 : AV) (h : AHeap) (Q : QT) (k : slices_IndexFunc__string_string a0 a1 h Q) : C fn_slices_IndexFunc__string_string [a0, a1] h Q :=
  okF (pl := [(3, [4, 5, 8, 9, 10, 11, 12, 13, 14, 15, 16, 17, 18], [4, 8])]) Tryz.func134 Tryz.ntmps134 (by kernel_rfl) (by kernel_rfl) rfl (by kernel_rfl) k
def slices_Index__string_string_l1 (s7 s0 s1 : AV) (Q : QT) (vs0 : List AV) (h : AHeap) (next0 : NT) : Prop :=
  qBin .lss (nthA vs0 1) s7 fun t9 =>
  ifB t9 (
  qIndexAddr 1 s0 (nthA vs0 1) fun t14 =>
  qLoad1 t14 h fun t15 =>
  qBin .eql s1 t15 fun t16 =>
  ifB t16 (
  Q (nthA vs0 1) h) (
  qBin .add (nthA vs0 1) (I 1) fun t18 =>
  next0 [(nthA vs0 0), t18] h)) (
  Q (I (-1)) h)
def slices_Index__string_string (a0 a1 : AV) (h : AHeap) (Q : QT) : Prop :=
  qLenL a0 fun t7 =>
  Loop [(I 0), (I 0)] h fun vs0 h next0 => slices_Index__string_string_l1 t7 a0 a1 Q vs0 h next0
theorem slices_Index__string_string_ok (a0 a1 : AV) (h : AHeap) (Q : QT) (k : slices_Index__string_string a0 a1 h Q) : C fn_slices_Index__string_string [a0, a1] h Q :=
  okF (pl := [(3, [4, 5, 8, 9, 10, 11, 12, 13, 14, 15, 16, 17, 18], [4, 8])]) Tryz.func75 Tryz.ntmps75 (by kernel_rfl) (by kernel_rfl) rfl (by kernel_rfl) k
def strings_Count_l3 (s1 : AV) (Q : QT) (vs1 : List AV) (h : AHeap) (next1 : NT) : Prop :=
  C fn_strings_Index [(nthA vs1 0), s1] h fun t22 h2 =>
  qBin .eql t22 (I (-1)) fun t24 =>
  ifB t24 (
  Q (nthA vs1 2) h2) (
  qBin .add (nthA vs1 2) (I 1) fun t27 =>
  qLenS s1 fun t31 =>
  qBin .add t22 t31 fun t32 =>
  qSliceS (nthA vs1 0) (some t32) none fun t33 =>
  next1 [t33, (nthA vs1 1), t27] h2)
def strings_Count (a0 a1 : AV) (h : AHeap) (Q : QT) : Prop :=
  qLenS a1 fun t8 =>
  qBin .eql t8 (I 0) fun t9 =>
  ifB t9 (
  C fn_unicode_utf8_RuneCountInString [a0] h fun t11 h0 =>
  qBin .add t11 (I 1) fun t12 =>
  Q t12 h0) (
  qLenS a1 fun t14 =>
  qBin .eql t14 (I 1) fun t15 =>
  ifB t15 (
  qIndexS a1 (I 0) fun t18 =>
  qExt .count [a0, t18] fun t19 =>
  Q t19 h) (
  Loop [a0, (I 0), (I 0)] h fun vs1 h next1 => strings_Count_l3 a1 Q vs1 h next1))
theorem strings_Count_ok (a0 a1 : AV) (h : AHeap) (Q : QT) (k : strings_Count a0 a1 h Q) : C fn_strings_Count [a0, a1] h Q :=
  okF (pl := [(7, [0, 4, 5, 6, 20, 21, 22, 23, 24, 25, 26, 27, 28, 29, 30, 31, 32, 33], [0, 4, 5])]) Tryz.func56 Tryz.ntmps56 (by kernel_rfl) (by kernel_rfl) rfl (by kernel_rfl) k
def strings_Split (a0 a1 : AV) (h : AHeap) (Q : QT) : Prop :=
  C fn_strings_genSplit [a0, a1, (I 0), (I (-1))] h fun t7 h0 =>
  Q t7 h0
theorem strings_Split_ok (a0 a1 : AV) (h : AHeap) (Q : QT) (k : strings_Split a0 a1 h Q) : C fn_strings_Split [a0, a1] h Q :=
  okF (pl := []) Tryz.func29 Tryz.ntmps29 (by kernel_rfl) (by kernel_rfl) rfl (by kernel_rfl) k
def strings_genSplit_j6 (s0 s10 s9 : AV) (h : AHeap) (Q : QT) : Prop :=
  qIndexAddr 1 s9 s10 fun t61 =>
  qStore 1 t61 s0 h fun h5 =>
  qBin .add s10 (I 1) fun t64 =>
  qSliceL 1 s9 none (some t64) fun t65 =>
  Q t65 h5
def strings_genSplit_b7 (s0 s10 s9 : AV) (h : AHeap) (Q : QT) : Prop :=
  strings_genSplit_j6 s0 s10 s9 h Q
def strings_genSplit_l9 (s3 s9 s1 s2 : AV) (Q : QT) (vs3 : List AV) (h : AHeap) (next3 : NT) : Prop :=
  qBin .lss (nthA vs3 1) s3 fun t36 =>
  ifB t36 (
  C fn_strings_Index [(nthA vs3 0), s1] h fun t39 h4 =>
  qBin .lss t39 (I 0) fun t41 =>
  ifB t41 (
  strings_genSplit_b7 (nthA vs3 0) (nthA vs3 1) s9 h4 Q) (
  qBin .add t39 s2 fun t47 =>
  qSliceS (nthA vs3 0) none (some t47) fun t48 =>
  qIndexAddr 1 s9 (nthA vs3 1) fun t49 =>
  qStore 1 t49 t48 h4 fun h8 =>
  qLenS s1 fun t53 =>
  qBin .add t39 t53 fun t54 =>
  qSliceS (nthA vs3 0) (some t54) none fun t55 =>
  qBin .add (nthA vs3 1) (I 1) fun t57 =>
  next3 [t55, t57] h8)) (
  strings_genSplit_b7 (nthA vs3 0) (nthA vs3 1) s9 h Q)
def strings_genSplit_j10 (s3 s0 s1 s2 : AV) (h : AHeap) (Q : QT) : Prop :=
  qLenS s0 fun t27 =>
  qBin .add t27 (I 1) fun t28 =>
  qMin s3 t28 fun t29 =>
  qMakeSlice 16 (S ⟨#[]⟩) t29 t29 h fun t31 h2 =>
  qBin .sub t29 (I 1) fun t33 =>
  Loop [s0, (I 0)] h2 fun vs3 h next3 => strings_genSplit_l9 t33 t31 s1 s2 Q vs3 h next3
def strings_genSplit (a0 a1 a2 a3 : AV) (h : AHeap) (Q : QT) : Prop :=
  qBin .eql a3 (I 0) fun t13 =>
  ifB t13 (
  Q (.full 0 []) h) (
  qBin .eql a1 (S ⟨#[]⟩) fun t15 =>
  ifB t15 (
  C fn_strings_explode [a0, a3] h fun t18 h0 =>
  Q t18 h0) (
  qBin .lss a3 (I 0) fun t20 =>
  ifB t20 (
  C fn_strings_Count [a0, a1] h fun t23 h1 =>
  qBin .add t23 (I 1) fun t24 =>
  strings_genSplit_j10 t24 a0 a1 a2 h1 Q) (
  strings_genSplit_j10 a3 a0 a1 a2 h Q)))
theorem strings_genSplit_ok (a0 a1 a2 a3 : AV) (h : AHeap) (Q : QT) (k : strings_genSplit a0 a1 a2 a3 h Q) : C fn_strings_genSplit [a0, a1, a2, a3] h Q :=
  okF (pl := [(12, [0, 10, 11, 34, 35, 36, 37, 38, 39, 40, 41, 42, 43, 44, 45, 46, 47, 48, 49, 50, 51, 52, 53, 54, 55, 56, 57], [0, 10])]) Tryz.func41 Tryz.ntmps41 (by kernel_rfl) (by kernel_rfl) rfl (by kernel_rfl) k
end
end Go.Proofs.YtamfimhaimaeiaaGreatDoor.AL
