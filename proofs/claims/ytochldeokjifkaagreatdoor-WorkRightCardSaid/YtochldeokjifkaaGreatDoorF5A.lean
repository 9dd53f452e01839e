import Derived.Test.YtochldeokjifkaaGreatDoorAM4toAM6
import Derived.Test.YtochldeokjifkaaGreatDoorAL33
import Derived.Test.YtochldeokjifkaaGreatDoorProg
import Derived.KernelRfl
set_option linter.all false
set_option autoImplicit true
set_option relaxedAutoImplicit true
set_option maxRecDepth 100000
namespace Go.Proofs.YtochldeokjifkaaGreatDoor.AL
noncomputable section
open Go.Proofs
variable [Tabs]
noncomputable abbrev Pg : Program := Tryz.prog
abbrev C := ACall Pg
abbrev CV := ACallV Pg
def bodyOf (fn : Func) : Code := fn.body.getD .skip
theorem okF {f : FuncId} {fn : Func} {m : Nat} {l : List AV} {h : AHeap} {Q : QT} {pl : Plan} {p : Prop} (hf : Pg.funcs[f]? = some fn) (hm : fn.ntmps = m) (hb : fn.body = some (bodyOf fn)) (hn : (fn.name == "runtime.NumGoroutine") = false) (hl : Nat.ble l.length m = true) (he : denF Pg pl fn (bodyOf fn) l h Q = p) (k : p) : ACall Pg f l h Q :=
  acall_of_den hf hb hn (by rw [hm]; exact Nat.le_of_ble_eq_true hl) (by rw [he]; exact k)
abbrev fn_law9_Make : Nat := 9
abbrev fn_law9_Name : Nat := 14
abbrev fn_law9_WorkRight : Nat := 3
abbrev fn_law9_known : Nat := 8
abbrev fn_law9_within : Nat := 10
abbrev fn_line_Word : Nat := 19
abbrev fn_line_digit : Nat := 32
abbrev fn_line_front : Nat := 33
abbrev fn_line_inner : Nat := 34
abbrev fn_maps_Keys_map_stringint_string_int : Nat := 46
abbrev fn_maps_Keys_map_stringint_string_int_1 : Nat := 62
abbrev fn_maps_Keys_map_stringstring_string_string : Nat := 44
abbrev fn_maps_Keys_map_stringstring_string_string_1 : Nat := 61
abbrev fn_ref3_Word : Nat := 35
abbrev fn_ref4_Word : Nat := 22
abbrev fn_ref9_Right : Nat := 12
abbrev fn_slices_Clone__api_Arg_api_Arg : Nat := 164
abbrev fn_slices_Clone__api_Diag_api_Diag : Nat := 72
abbrev fn_slices_Clone__api_Frag_api_Frag : Nat := 45
abbrev fn_slices_Clone__api_Stmt_api_Stmt : Nat := 134
abbrev fn_slices_Clone__api_Sym_api_Sym : Nat := 47
abbrev fn_slices_Clone__byte_byte : Nat := 74
abbrev fn_slices_Clone__int_int : Nat := 135
abbrev fn_slices_Clone__string_string : Nat := 166
abbrev fn_slices_Sorted_string : Nat := 43
abbrev fn_work_Right : Nat := 11
abbrev fn_work_defines : Nat := 21
abbrev fn_work_writes : Nat := 20
def slices_Clone__api_Arg_api_Arg (a0 : AV) (h : AHeap) (Q : QT) : Prop :=
  qIsNilS .eql a0 fun t4 =>
  ifB t4 (
  Q (.full 0 []) h) (
  qBuildSlice 0 5 [] fun t5 =>
  qAppend 5 64 t5 a0 h fun t7 h0 =>
  Q t7 h0)
theorem slices_Clone__api_Arg_api_Arg_ok (a0 : AV) (h : AHeap) (Q : QT) (k : slices_Clone__api_Arg_api_Arg a0 h Q) : C fn_slices_Clone__api_Arg_api_Arg [a0] h Q :=
  okF (pl := []) Tryz.func164 Tryz.ntmps164 (by kernel_rfl) (by kernel_rfl) rfl (by kernel_rfl) k
def slices_Clone__api_Diag_api_Diag (a0 : AV) (h : AHeap) (Q : QT) : Prop :=
  qIsNilS .eql a0 fun t4 =>
  ifB t4 (
  Q (.full 0 []) h) (
  qBuildSlice 0 3 [] fun t5 =>
  qAppend 3 32 t5 a0 h fun t7 h0 =>
  Q t7 h0)
theorem slices_Clone__api_Diag_api_Diag_ok (a0 : AV) (h : AHeap) (Q : QT) (k : slices_Clone__api_Diag_api_Diag a0 h Q) : C fn_slices_Clone__api_Diag_api_Diag [a0] h Q :=
  okF (pl := []) Tryz.func72 Tryz.ntmps72 (by kernel_rfl) (by kernel_rfl) rfl (by kernel_rfl) k
def slices_Clone__api_Frag_api_Frag (a0 : AV) (h : AHeap) (Q : QT) : Prop :=
  qIsNilS .eql a0 fun t4 =>
  ifB t4 (
  Q (.full 0 []) h) (
  qBuildSlice 0 2 [] fun t5 =>
  qAppend 2 32 t5 a0 h fun t7 h0 =>
  Q t7 h0)
theorem slices_Clone__api_Frag_api_Frag_ok (a0 : AV) (h : AHeap) (Q : QT) (k : slices_Clone__api_Frag_api_Frag a0 h Q) : C fn_slices_Clone__api_Frag_api_Frag [a0] h Q :=
  okF (pl := []) Tryz.func45 Tryz.ntmps45 (by kernel_rfl) (by kernel_rfl) rfl (by kernel_rfl) k
def slices_Clone__api_Stmt_api_Stmt (a0 : AV) (h : AHeap) (Q : QT) : Prop :=
  qIsNilS .eql a0 fun t4 =>
  ifB t4 (
  Q (.full 0 []) h) (
  qBuildSlice 0 6 [] fun t5 =>
  qAppend 6 80 t5 a0 h fun t7 h0 =>
  Q t7 h0)
theorem slices_Clone__api_Stmt_api_Stmt_ok (a0 : AV) (h : AHeap) (Q : QT) (k : slices_Clone__api_Stmt_api_Stmt a0 h Q) : C fn_slices_Clone__api_Stmt_api_Stmt [a0] h Q :=
  okF (pl := []) Tryz.func134 Tryz.ntmps134 (by kernel_rfl) (by kernel_rfl) rfl (by kernel_rfl) k
def slices_Clone__api_Sym_api_Sym (a0 : AV) (h : AHeap) (Q : QT) : Prop :=
  qIsNilS .eql a0 fun t4 =>
  ifB t4 (
  Q (.full 0 []) h) (
  qBuildSlice 0 2 [] fun t5 =>
  qAppend 2 24 t5 a0 h fun t7 h0 =>
  Q t7 h0)
theorem slices_Clone__api_Sym_api_Sym_ok (a0 : AV) (h : AHeap) (Q : QT) (k : slices_Clone__api_Sym_api_Sym a0 h Q) : C fn_slices_Clone__api_Sym_api_Sym [a0] h Q :=
  okF (pl := []) Tryz.func47 Tryz.ntmps47 (by kernel_rfl) (by kernel_rfl) rfl (by kernel_rfl) k
def slices_Clone__byte_byte (a0 : AV) (h : AHeap) (Q : QT) : Prop :=
  qIsNilS .eql a0 fun t4 =>
  ifB t4 (
  Q (.full 0 []) h) (
  qBuildSlice 0 1 [] fun t5 =>
  qAppend 1 1 t5 a0 h fun t7 h0 =>
  Q t7 h0)
theorem slices_Clone__byte_byte_ok (a0 : AV) (h : AHeap) (Q : QT) (k : slices_Clone__byte_byte a0 h Q) : C fn_slices_Clone__byte_byte [a0] h Q :=
  okF (pl := []) Tryz.func74 Tryz.ntmps74 (by kernel_rfl) (by kernel_rfl) rfl (by kernel_rfl) k
def slices_Clone__int_int (a0 : AV) (h : AHeap) (Q : QT) : Prop :=
  qIsNilS .eql a0 fun t4 =>
  ifB t4 (
  Q (.full 0 []) h) (
  qBuildSlice 0 1 [] fun t5 =>
  qAppend 1 8 t5 a0 h fun t7 h0 =>
  Q t7 h0)
theorem slices_Clone__int_int_ok (a0 : AV) (h : AHeap) (Q : QT) (k : slices_Clone__int_int a0 h Q) : C fn_slices_Clone__int_int [a0] h Q :=
  okF (pl := []) Tryz.func135 Tryz.ntmps135 (by kernel_rfl) (by kernel_rfl) rfl (by kernel_rfl) k
def slices_Clone__string_string (a0 : AV) (h : AHeap) (Q : QT) : Prop :=
  qIsNilS .eql a0 fun t4 =>
  ifB t4 (
  Q (.full 0 []) h) (
  qBuildSlice 0 1 [] fun t5 =>
  qAppend 1 16 t5 a0 h fun t7 h0 =>
  Q t7 h0)
theorem slices_Clone__string_string_ok (a0 : AV) (h : AHeap) (Q : QT) (k : slices_Clone__string_string a0 h Q) : C fn_slices_Clone__string_string [a0] h Q :=
  okF (pl := []) Tryz.func166 Tryz.ntmps166 (by kernel_rfl) (by kernel_rfl) rfl (by kernel_rfl) k
end
end Go.Proofs.YtochldeokjifkaaGreatDoor.AL
