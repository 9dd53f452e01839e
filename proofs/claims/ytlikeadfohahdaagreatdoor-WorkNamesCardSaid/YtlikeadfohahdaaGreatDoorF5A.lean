import Derived.Test.YtlikeadfohahdaaGreatDoorAM4toAM6
import Derived.Test.YtlikeadfohahdaaGreatDoorAL33
import Derived.Test.YtlikeadfohahdaaGreatDoorProg
import Derived.KernelRfl
set_option linter.all false
set_option autoImplicit true
set_option relaxedAutoImplicit true
set_option maxRecDepth 100000
namespace Go.Proofs.YtlikeadfohahdaaGreatDoor.AL
noncomputable section
open Go.Proofs
variable [Tabs]
noncomputable abbrev Pg : Program := Tryz.prog
abbrev C := ACall Pg
abbrev CV := ACallV Pg
def bodyOf (fn : Func) : Code := fn.body.getD .skip
theorem okF {f : FuncId} {fn : Func} {m : Nat} {l : List AV} {h : AHeap} {Q : QT} {pl : Plan} {p : Prop} (hf : Pg.funcs[f]? = some fn) (hm : fn.ntmps = m) (hb : fn.body = some (bodyOf fn)) (hn : (fn.name == "runtime.NumGoroutine") = false) (hl : Nat.ble l.length m = true) (he : denF Pg pl fn (bodyOf fn) l h Q = p) (k : p) : ACall Pg f l h Q :=
  acall_of_den hf hb hn (by rw [hm]; exact Nat.le_of_ble_eq_true hl) (by rw [he]; exact k)
abbrev fn_asm_Assemble : Nat := 48
abbrev fn_asm_entry_last : Nat := 108
abbrev fn_asm_eval : Nat := 107
abbrev fn_asm_here : Nat := 110
abbrev fn_asm_made : Nat := 63
abbrev fn_asm_read : Nat := 78
abbrev fn_asm_short : Nat := 136
abbrev fn_asm_source_bytes : Nat := 65
abbrev fn_asm_source_check : Nat := 82
abbrev fn_asm_source_grow : Nat := 112
abbrev fn_asm_source_lay : Nat := 111
abbrev fn_asm_source_long : Nat := 86
abbrev fn_asm_source_places : Nat := 81
abbrev fn_asm_source_sized : Nat := 80
abbrev fn_asm_source_tell : Nat := 106
abbrev fn_asm_source_twice : Nat := 79
abbrev fn_asm_source_wrong : Nat := 113
abbrev fn_isa_Right : Nat := 135
abbrev fn_law9_Make : Nat := 9
abbrev fn_law9_Name : Nat := 19
abbrev fn_law9_WorkNames : Nat := 3
abbrev fn_law9_known : Nat := 6
abbrev fn_law9_within : Nat := 10
abbrev fn_line_Parse : Nat := 105
abbrev fn_line_Word : Nat := 26
abbrev fn_line_digit : Nat := 45
abbrev fn_line_front : Nat := 46
abbrev fn_line_inner : Nat := 47
abbrev fn_maps_Keys_map_stringint_string_int : Nat := 42
abbrev fn_maps_Keys_map_stringint_string_int_1 : Nat := 62
abbrev fn_maps_Keys_map_stringstring_string_string : Nat := 40
abbrev fn_maps_Keys_map_stringstring_string_string_1 : Nat := 61
abbrev fn_slices_Clone__api_Arg_api_Arg : Nat := 164
abbrev fn_slices_Clone__api_Diag_api_Diag : Nat := 64
abbrev fn_slices_Clone__api_Frag_api_Frag : Nat := 41
abbrev fn_slices_Clone__api_Stmt_api_Stmt : Nat := 129
abbrev fn_slices_Clone__api_Sym_api_Sym : Nat := 43
abbrev fn_slices_Clone__byte_byte : Nat := 66
abbrev fn_slices_Clone__int_int : Nat := 130
abbrev fn_slices_Clone__string_string : Nat := 166
abbrev fn_slices_Contains__int_int : Nat := 109
abbrev fn_slices_Sorted_string : Nat := 39
abbrev fn_work_New : Nat := 7
abbrev fn_work_Right : Nat := 16
abbrev fn_work_Work_Do : Nat := 8
abbrev fn_work_Work_Frags : Nat := 11
abbrev fn_work_Work_Syms : Nat := 12
abbrev fn_work_Work_build : Nat := 35
abbrev fn_work_Work_define : Nat := 33
abbrev fn_work_Work_del : Nat := 30
abbrev fn_work_Work_frag : Nat := 22
abbrev fn_work_Work_more : Nat := 31
abbrev fn_work_Work_put : Nat := 29
abbrev fn_work_Work_show : Nat := 32
abbrev fn_work_Work_sym : Nat := 24
abbrev fn_work_Work_undef : Nat := 34
abbrev fn_work_deed : Nat := 18
abbrev fn_work_defines : Nat := 28
abbrev fn_work_each_api_Frag_string : Nat := 21
abbrev fn_work_each_api_Sym_int : Nat := 23
abbrev fn_work_no : Nat := 17
abbrev fn_work_writes : Nat := 27
def slices_Clone__api_Arg_api_Arg (a0 : AV) (h : AHeap) (Q : QT) : Prop :=
  qIsNilS .eql a0 fun t4 =>
  ifB t4 (
  Q (.full 0 []) h) (
  qBuildSlice 0 5 [] fun t5 =>
  qAppend 5 64 t5 a0 h fun t7 h0 =>
  Q t7 h0)
theorem slices_Clone__api_Arg_api_Arg_ok (a0 : AV) (h : AHeap) (Q : QT) (k : slices_Clone__api_Arg_api_Arg a0 h Q) : C fn_slices_Clone__api_Arg_api_Arg [a0] h Q :=
  okF (pl := []) Tryz.func164 Tryz.ntmps164 (by kernel_rfl) (by kernel_rfl) rfl (by kernel_rfl) k
def slices_Clone__api_Diag_api_Diag (a0 : AV) (h : AHeap) (Q : QT) : Prop :=
  qIsNilS .eql a0 fun t4 =>
  ifB t4 (
  Q (.full 0 []) h) (
  qBuildSlice 0 3 [] fun t5 =>
  qAppend 3 32 t5 a0 h fun t7 h0 =>
  Q t7 h0)
theorem slices_Clone__api_Diag_api_Diag_ok (a0 : AV) (h : AHeap) (Q : QT) (k : slices_Clone__api_Diag_api_Diag a0 h Q) : C fn_slices_Clone__api_Diag_api_Diag [a0] h Q :=
  okF (pl := []) Tryz.func64 Tryz.ntmps64 (by kernel_rfl) (by kernel_rfl) rfl (by kernel_rfl) k
def slices_Clone__api_Frag_api_Frag (a0 : AV) (h : AHeap) (Q : QT) : Prop :=
  qIsNilS .eql a0 fun t4 =>
  ifB t4 (
  Q (.full 0 []) h) (
  qBuildSlice 0 2 [] fun t5 =>
  qAppend 2 32 t5 a0 h fun t7 h0 =>
  Q t7 h0)
theorem slices_Clone__api_Frag_api_Frag_ok (a0 : AV) (h : AHeap) (Q : QT) (k : slices_Clone__api_Frag_api_Frag a0 h Q) : C fn_slices_Clone__api_Frag_api_Frag [a0] h Q :=
  okF (pl := []) Tryz.func41 Tryz.ntmps41 (by kernel_rfl) (by kernel_rfl) rfl (by kernel_rfl) k
def slices_Clone__api_Stmt_api_Stmt (a0 : AV) (h : AHeap) (Q : QT) : Prop :=
  qIsNilS .eql a0 fun t4 =>
  ifB t4 (
  Q (.full 0 []) h) (
  qBuildSlice 0 6 [] fun t5 =>
  qAppend 6 80 t5 a0 h fun t7 h0 =>
  Q t7 h0)
theorem slices_Clone__api_Stmt_api_Stmt_ok (a0 : AV) (h : AHeap) (Q : QT) (k : slices_Clone__api_Stmt_api_Stmt a0 h Q) : C fn_slices_Clone__api_Stmt_api_Stmt [a0] h Q :=
  okF (pl := []) Tryz.func129 Tryz.ntmps129 (by kernel_rfl) (by kernel_rfl) rfl (by kernel_rfl) k
def slices_Clone__api_Sym_api_Sym (a0 : AV) (h : AHeap) (Q : QT) : Prop :=
  qIsNilS .eql a0 fun t4 =>
  ifB t4 (
  Q (.full 0 []) h) (
  qBuildSlice 0 2 [] fun t5 =>
  qAppend 2 24 t5 a0 h fun t7 h0 =>
  Q t7 h0)
theorem slices_Clone__api_Sym_api_Sym_ok (a0 : AV) (h : AHeap) (Q : QT) (k : slices_Clone__api_Sym_api_Sym a0 h Q) : C fn_slices_Clone__api_Sym_api_Sym [a0] h Q :=
  okF (pl := []) Tryz.func43 Tryz.ntmps43 (by kernel_rfl) (by kernel_rfl) rfl (by kernel_rfl) k
def slices_Clone__byte_byte (a0 : AV) (h : AHeap) (Q : QT) : Prop :=
  qIsNilS .eql a0 fun t4 =>
  ifB t4 (
  Q (.full 0 []) h) (
  qBuildSlice 0 1 [] fun t5 =>
  qAppend 1 1 t5 a0 h fun t7 h0 =>
  Q t7 h0)
theorem slices_Clone__byte_byte_ok (a0 : AV) (h : AHeap) (Q : QT) (k : slices_Clone__byte_byte a0 h Q) : C fn_slices_Clone__byte_byte [a0] h Q :=
  okF (pl := []) Tryz.func66 Tryz.ntmps66 (by kernel_rfl) (by kernel_rfl) rfl (by kernel_rfl) k
def slices_Clone__int_int (a0 : AV) (h : AHeap) (Q : QT) : Prop :=
  qIsNilS .eql a0 fun t4 =>
  ifB t4 (
  Q (.full 0 []) h) (
  qBuildSlice 0 1 [] fun t5 =>
  qAppend 1 8 t5 a0 h fun t7 h0 =>
  Q t7 h0)
theorem slices_Clone__int_int_ok (a0 : AV) (h : AHeap) (Q : QT) (k : slices_Clone__int_int a0 h Q) : C fn_slices_Clone__int_int [a0] h Q :=
  okF (pl := []) Tryz.func130 Tryz.ntmps130 (by kernel_rfl) (by kernel_rfl) rfl (by kernel_rfl) k
def slices_Clone__string_string (a0 : AV) (h : AHeap) (Q : QT) : Prop :=
  qIsNilS .eql a0 fun t4 =>
  ifB t4 (
  Q (.full 0 []) h) (
  qBuildSlice 0 1 [] fun t5 =>
  qAppend 1 16 t5 a0 h fun t7 h0 =>
  Q t7 h0)
theorem slices_Clone__string_string_ok (a0 : AV) (h : AHeap) (Q : QT) (k : slices_Clone__string_string a0 h Q) : C fn_slices_Clone__string_string [a0] h Q :=
  okF (pl := []) Tryz.func166 Tryz.ntmps166 (by kernel_rfl) (by kernel_rfl) rfl (by kernel_rfl) k
end
end Go.Proofs.YtlikeadfohahdaaGreatDoor.AL
