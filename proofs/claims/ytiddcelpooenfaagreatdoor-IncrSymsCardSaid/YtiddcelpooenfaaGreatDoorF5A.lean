import Derived.Test.YtiddcelpooenfaaGreatDoorAM4toAM6
import Derived.Test.YtiddcelpooenfaaGreatDoorAL33
import Derived.Test.YtiddcelpooenfaaGreatDoorProg
import Derived.KernelRfl
set_option linter.all false
set_option autoImplicit true
set_option relaxedAutoImplicit true
set_option maxRecDepth 100000
namespace Go.Proofs.YtiddcelpooenfaaGreatDoor.AL
noncomputable section
open Go.Proofs
variable [Tabs]
noncomputable abbrev Pg : Program := Tryz.prog
abbrev C := ACall Pg
abbrev CV := ACallV Pg
def bodyOf (fn : Func) : Code := fn.body.getD .skip
theorem okF {f : FuncId} {fn : Func} {m : Nat} {l : List AV} {h : AHeap} {Q : QT} {pl : Plan} {p : Prop} (hf : Pg.funcs[f]? = some fn) (hm : fn.ntmps = m) (hb : fn.body = some (bodyOf fn)) (hn : (fn.name == "runtime.NumGoroutine") = false) (hl : Nat.ble l.length m = true) (he : denF Pg pl fn (bodyOf fn) l h Q = p) (k : p) : ACall Pg f l h Q :=
  acall_of_den hf hb hn (by rw [hm]; exact Nat.le_of_ble_eq_true hl) (by rw [he]; exact k)
abbrev fn_asm_Assemble : Nat := 8
abbrev fn_asm_entry_full : Nat := 36
abbrev fn_asm_entry_inst : Nat := 53
abbrev fn_asm_entry_last : Nat := 45
abbrev fn_asm_eval : Nat := 44
abbrev fn_asm_great : Nat := 87
abbrev fn_asm_here : Nat := 48
abbrev fn_asm_made : Nat := 16
abbrev fn_asm_op : Nat := 114
abbrev fn_asm_read : Nat := 29
abbrev fn_asm_short : Nat := 77
abbrev fn_asm_source_bytes : Nat := 18
abbrev fn_asm_source_check : Nat := 33
abbrev fn_asm_source_declared : Nat := 78
abbrev fn_asm_source_declared_1 : Nat := 116
abbrev fn_asm_source_grow : Nat := 50
abbrev fn_asm_source_lay : Nat := 49
abbrev fn_asm_source_long : Nat := 27
abbrev fn_asm_source_places : Nat := 32
abbrev fn_asm_source_sized : Nat := 31
abbrev fn_asm_source_tell : Nat := 46
abbrev fn_asm_source_twice : Nat := 30
abbrev fn_asm_source_values : Nat := 34
abbrev fn_asm_source_wrong : Nat := 51
abbrev fn_asm_within : Nat := 79
abbrev fn_expr_Eval : Nat := 73
abbrev fn_expr_Eval_1 : Nat := 111
abbrev fn_expr_Names : Nat := 68
abbrev fn_expr_Parse : Nat := 168
abbrev fn_expr_as : Nat := 205
abbrev fn_expr_both : Nat := 112
abbrev fn_expr_bound : Nat := 109
abbrev fn_expr_digit : Nat := 209
abbrev fn_expr_hex : Nat := 206
abbrev fn_expr_inner : Nat := 210
abbrev fn_expr_levels : Nat := 193
abbrev fn_expr_parser_apart : Nat := 207
abbrev fn_expr_parser_blanks : Nat := 181
abbrev fn_expr_parser_fail : Nat := 212
abbrev fn_expr_parser_group : Nat := 202
abbrev fn_expr_parser_kind : Nat := 195
abbrev fn_expr_parser_minus : Nat := 203
abbrev fn_expr_parser_number : Nat := 208
abbrev fn_expr_parser_one : Nat := 194
abbrev fn_expr_parser_take : Nat := 200
abbrev fn_expr_parser_two : Nat := 180
abbrev fn_expr_parser_within : Nat := 201
abbrev fn_expr_signs : Nat := 213
abbrev fn_expr_small : Nat := 220
abbrev fn_expr_times : Nat := 148
abbrev fn_expr_word : Nat := 211
abbrev fn_imm_Back : Nat := 172
abbrev fn_imm_Fits : Nat := 122
abbrev fn_imm_Sci8 : Nat := 123
abbrev fn_imm_Sign : Nat := 189
abbrev fn_imm_Split : Nat := 121
abbrev fn_imm_form_of : Nat := 153
abbrev fn_imm_forms : Nat := 151
abbrev fn_imm_found : Nat := 152
abbrev fn_incr_Builder_Build : Nat := 13
abbrev fn_incr_Builder_parse : Nat := 26
abbrev fn_incr_New : Nat := 11
abbrev fn_isa_Encode : Nat := 35
abbrev fn_isa_Find : Nat := 140
abbrev fn_isa_Find_1 : Nat := 165
abbrev fn_isa_Kinds : Nat := 55
abbrev fn_isa_Name : Nat := 72
abbrev fn_isa_Right : Nat := 76
abbrev fn_isa_Size : Nat := 43
abbrev fn_isa_code : Nat := 52
abbrev fn_isa_code_1 : Nat := 83
abbrev fn_isa_of__string : Nat := 84
abbrev fn_isa_of_string : Nat := 90
abbrev fn_isa_of_uint32 : Nat := 82
abbrev fn_isa_place : Nat := 120
abbrev fn_isa_plain_put : Nat := 119
abbrev fn_isa_plains : Nat := 118
abbrev fn_isa_put : Nat := 86
abbrev fn_isa_row_list : Nat := 85
abbrev fn_isa_row_operands : Nat := 91
abbrev fn_isa_row_title : Nat := 108
abbrev fn_isa_table : Nat := 117
abbrev fn_isa_wide : Nat := 124
abbrev fn_law8_IncrSyms : Nat := 4
abbrev fn_law8_known : Nat := 10
abbrev fn_law8_within : Nat := 12
abbrev fn_line_One : Nat := 70
abbrev fn_line_One_1 : Nat := 105
abbrev fn_line_Parse : Nat := 42
abbrev fn_line_Word : Nat := 103
abbrev fn_line_all : Nat := 143
abbrev fn_line_bare : Nat := 100
abbrev fn_line_digit : Nat := 131
abbrev fn_line_front : Nat := 101
abbrev fn_line_grows : Nat := 142
abbrev fn_line_inner : Nat := 102
abbrev fn_line_operands : Nat := 139
abbrev fn_line_reader_ascii : Nat := 146
abbrev fn_line_reader_ascii_1 : Nat := 169
abbrev fn_line_reader_instruction : Nat := 141
abbrev fn_line_reader_register : Nat := 167
abbrev fn_line_reader_statement : Nat := 106
abbrev fn_line_reader_value : Nat := 145
abbrev fn_line_reader_word : Nat := 147
abbrev fn_line_register : Nat := 179
abbrev fn_line_same : Nat := 144
abbrev fn_math_Ldexp : Nat := 150
abbrev fn_slices_Clone__api_Arg_api_Arg : Nat := 107
abbrev fn_slices_Clone__api_Diag_api_Diag : Nat := 17
abbrev fn_slices_Clone__api_Stmt_api_Stmt : Nat := 71
abbrev fn_slices_Clone__api_Sym_api_Sym : Nat := 23
abbrev fn_slices_Clone__byte_byte : Nat := 19
abbrev fn_slices_Clone__int_int : Nat := 28
abbrev fn_slices_Clone__string_string : Nat := 41
abbrev fn_slices_ContainsFunc__api_Expr_api_Expr : Nat := 75
abbrev fn_slices_ContainsFunc__asm_entry_asm_entry : Nat := 115
abbrev fn_slices_Contains__int_int : Nat := 47
abbrev fn_slices_Contains__string_string : Nat := 67
abbrev fn_slices_IndexFunc__api_Expr_api_Expr : Nat := 113
abbrev fn_slices_IndexFunc__api_Sym_api_Sym : Nat := 110
abbrev fn_slices_IndexFunc__asm_entry_asm_entry : Nat := 149
abbrev fn_slices_IndexFunc__isa_row_isa_row : Nat := 164
abbrev fn_slices_Index__int_int : Nat := 74
abbrev fn_slices_Index__string_string : Nat := 97
abbrev fn_slices_Max__int_int : Nat := 81
abbrev fn_slices_Min__int_int : Nat := 80
abbrev fn_strconv_Atoi : Nat := 192
abbrev fn_strings_Contains : Nat := 166
abbrev fn_strings_Count : Nat := 128
abbrev fn_strings_Fields : Nat := 54
abbrev fn_strings_HasPrefix : Nat := 204
abbrev fn_strings_Index : Nat := 129
abbrev fn_strings_IndexByte : Nat := 99
abbrev fn_strings_Split : Nat := 69
abbrev fn_strings_Trim : Nat := 104
abbrev fn_strings_TrimLeft : Nat := 196
abbrev fn_strings_asciiSet_contains : Nat := 161
abbrev fn_strings_explode : Nat := 127
abbrev fn_strings_genSplit : Nat := 98
abbrev fn_strings_makeASCIISet : Nat := 134
abbrev fn_strings_trimLeftASCII : Nat := 135
abbrev fn_strings_trimLeftByte : Nat := 132
abbrev fn_strings_trimLeftUnicode : Nat := 137
abbrev fn_strings_trimRightASCII : Nat := 136
abbrev fn_strings_trimRightByte : Nat := 133
abbrev fn_strings_trimRightUnicode : Nat := 138
abbrev fn_stringslite_HasPrefix : Nat := 219
abbrev fn_stringslite_IndexByte : Nat := 130
abbrev fn_unicode_utf8_RuneCountInString : Nat := 156
def imm_Back_j1 (s9 s7 s8 : AV) (h : AHeap) (next0 : NT) : Prop :=
  qBin .shl s7 (.lit (.int .u64 8)) fun t22 =>
  qBin .or t22 s9 fun t24 =>
  qBin .sub s8 (I 1) fun t13 =>
  next0 [t24, t13] h
def imm_Back_j2 (s9 s7 s8 s1 s2 : AV) (h : AHeap) (next0 : NT) : Prop :=
  qBin .eql s8 s1 fun t18 =>
  ifB t18 (
  qBin .and s2 (I 255) fun t20 =>
  imm_Back_j1 t20 s7 s8 h next0) (
  imm_Back_j1 s9 s7 s8 h next0)
def imm_Back_l4 (s0 s1 s2 : AV) (Q : QT) (vs0 : List AV) (h : AHeap) (next0 : NT) : Prop :=
  qBin .geq (nthA vs0 1) (I 0) fun t11 =>
  ifB t11 (
  qBin .eql s0 (I 1) fun t15 =>
  ifB t15 (
  imm_Back_j2 (I 255) (nthA vs0 0) (nthA vs0 1) s1 s2 h next0) (
  imm_Back_j2 (I 0) (nthA vs0 0) (nthA vs0 1) s1 s2 h next0)) (
  C fn_imm_Sign [(nthA vs0 0), (I 32)] h fun t26 h3 =>
  Q t26 h3)
def imm_Back (a0 a1 a2 : AV) (h : AHeap) (Q : QT) : Prop :=
  Loop [(I 0), (I 3)] h fun vs0 h next0 => imm_Back_l4 a0 a1 a2 Q vs0 h next0
theorem imm_Back_ok (a0 a1 a2 : AV) (h : AHeap) (Q : QT) (k : imm_Back a0 a1 a2 h Q) : C fn_imm_Back [a0, a1, a2] h Q :=
  okF (pl := [(4, [7, 8, 9, 10, 11, 12, 13, 14, 15, 16, 17, 18, 19, 20, 21, 22, 23, 24], [7, 8])]) Tryz.func172 Tryz.ntmps172 (by kernel_rfl) (by kernel_rfl) rfl (by kernel_rfl) k
def imm_Fits (a0 a1 : AV) (h : AHeap) (Q : QT) : Prop :=
  qBin .sub a1 (I 1) fun t7 =>
  C fn_math_Ldexp [(.lit (.float .f64 4607182418800017408)), t7] h fun t8 h0 =>
  qConvIF .f64 a0 fun t10 =>
  qUn .neg t8 fun t12 =>
  qBin .geq t10 t12 fun t13 =>
  ifB t13 (qConvIF .f64 a0 fun t16 =>
  qBin .lss t16 t8 fun t18 =>
  Q t18 h0) (
  Q (B false) h0)
theorem imm_Fits_ok (a0 a1 : AV) (h : AHeap) (Q : QT) (k : imm_Fits a0 a1 h Q) : C fn_imm_Fits [a0, a1] h Q :=
  okF (pl := []) Tryz.func122 Tryz.ntmps122 (by kernel_rfl) (by kernel_rfl) rfl (by kernel_rfl) k
def imm_Sci8_l5 (s9 s8 s0 : AV) (Q : QT) (vs1 : List AV) (h : AHeap) (next1 : NT) : Prop :=
  qBin .lss (nthA vs1 4) s9 fun t11 =>
  ifB t11 (
  qIndexAddr 2 s8 (nthA vs1 4) fun t12 =>
  qLoadA 2 t12 h fun t13 =>
  qNew [(I 0), (I 0)] h fun t7 h2 =>
  qStore 2 t7 t13 h2 fun h3 =>
  qLoadA 2 t7 h3 fun t15 =>
  C fn_imm_found [s0, (.fn (.func fn_imm_form_of) [t15] [])] h3 fun t17 h4 =>
  qBin .geq t17 (I 0) fun t19 =>
  ifB t19 (
  qFieldAddr 0 t7 fun t20 =>
  qLoad1 t20 h4 fun t21 =>
  qFieldAddr 1 t7 fun t22 =>
  qLoad1 t22 h4 fun t23 =>
  Q (.tup [t21, t23, t17, (B true)]) h4) (
  qBin .add (nthA vs1 4) (I 1) fun t25 =>
  next1 [(nthA vs1 0), (nthA vs1 1), t17, (nthA vs1 3), t25] h4)) (
  Q (.tup [(I 0), (I 0), (I 0), (B false)]) h)
def imm_Sci8 (a0 : AV) (h : AHeap) (Q : QT) : Prop :=
  C fn_imm_forms [] h fun t8 h0 =>
  qLenL t8 fun t9 =>
  Loop [(I 0), (I 0), (I 0), (B false), (I 0)] h0 fun vs1 h next1 => imm_Sci8_l5 t9 t8 a0 Q vs1 h next1
theorem imm_Sci8_ok (a0 : AV) (h : AHeap) (Q : QT) (k : imm_Sci8 a0 h Q) : C fn_imm_Sci8 [a0] h Q :=
  okF (pl := [(3, [2, 3, 4, 5, 7, 10, 11, 12, 13, 14, 15, 16, 17, 18, 19, 20, 21, 22, 23, 24, 25], [2, 3, 4, 5, 10]), (1000006, [0, 1, 2, 3, 4, 5, 6, 7, 8], [])]) Tryz.func123 Tryz.ntmps123 (by kernel_rfl) (by kernel_rfl) rfl (by kernel_rfl) k
def imm_Sign (a0 a1 : AV) (h : AHeap) (Q : QT) : Prop :=
  qMax a1 (I 1) fun t7 =>
  qMin t7 (I 64) fun t8 =>
  qBin .sub (I 64) t8 fun t9 =>
  qBin .shl a0 t9 fun t12 =>
  qBin .shr t12 t9 fun t14 =>
  Q t14 h
theorem imm_Sign_ok (a0 a1 : AV) (h : AHeap) (Q : QT) (k : imm_Sign a0 a1 h Q) : C fn_imm_Sign [a0, a1] h Q :=
  okF (pl := []) Tryz.func189 Tryz.ntmps189 (by kernel_rfl) (by kernel_rfl) rfl (by kernel_rfl) k
def imm_Split (a0 : AV) (h : AHeap) (Q : QT) : Prop :=
  qBin .shr a0 (.lit (.int .u64 16)) fun t6 =>
  qBin .and t6 (I 15) fun t7 =>
  qBin .shr a0 (.lit (.int .u64 11)) fun t9 =>
  qBin .and t9 (I 31) fun t10 =>
  qBin .and a0 (I 2047) fun t12 =>
  Q (.tup [t7, t10, t12]) h
theorem imm_Split_ok (a0 : AV) (h : AHeap) (Q : QT) (k : imm_Split a0 h Q) : C fn_imm_Split [a0] h Q :=
  okF (pl := []) Tryz.func121 Tryz.ntmps121 (by kernel_rfl) (by kernel_rfl) rfl (by kernel_rfl) k
def imm_form_of (a0 a1 : AV) (h : AHeap) (Q : QT) : Prop :=
  qBox a0 h fun t2 h0 =>
  qFieldAddr 0 t2 fun t5 =>
  qLoad1 t5 h0 fun t6 =>
  qFieldAddr 1 t2 fun t7 =>
  qLoad1 t7 h0 fun t8 =>
  C fn_imm_Back [t6, t8, a1] h0 fun t10 h1 =>
  Q t10 h1
theorem imm_form_of_ok (a0 a1 : AV) (h : AHeap) (Q : QT) (k : imm_form_of a0 a1 h Q) : C fn_imm_form_of [a0, a1] h Q :=
  okF (pl := []) Tryz.func153 Tryz.ntmps153 (by kernel_rfl) (by kernel_rfl) rfl (by kernel_rfl) k
def imm_forms (h : AHeap) (Q : QT) : Prop :=
  qBuild [(I 0), (I 0)] [(0, 1, (I 0)), (1, 1, (I 0))] fun t1 =>
  qBuild [(I 0), (I 0)] [(0, 1, (I 0)), (1, 1, (I 1))] fun t2 =>
  qBuild [(I 0), (I 0)] [(0, 1, (I 0)), (1, 1, (I 2))] fun t3 =>
  qBuild [(I 0), (I 0)] [(0, 1, (I 0)), (1, 1, (I 3))] fun t4 =>
  qBuild [(I 0), (I 0)] [(0, 1, (I 1)), (1, 1, (I 0))] fun t5 =>
  qBuild [(I 0), (I 0)] [(0, 1, (I 1)), (1, 1, (I 1))] fun t6 =>
  qBuild [(I 0), (I 0)] [(0, 1, (I 1)), (1, 1, (I 2))] fun t7 =>
  qBuild [(I 0), (I 0)] [(0, 1, (I 1)), (1, 1, (I 3))] fun t8 =>
  qBuildSlice 8 2 [t1, t2, t3, t4, t5, t6, t7, t8] fun t9 =>
  Q t9 h
theorem imm_forms_ok (h : AHeap) (Q : QT) (k : imm_forms  h Q) : C fn_imm_forms [] h Q :=
  okF (pl := []) Tryz.func151 Tryz.ntmps151 (by kernel_rfl) (by kernel_rfl) rfl (by kernel_rfl) k
def imm_found_l2 (s0 s1 : AV) (Q : QT) (vs0 : List AV) (h : AHeap) (next0 : NT) : Prop :=
  qBin .lss (nthA vs0 1) (I 256) fun t7 =>
  ifB t7 (
  CV s1 [(nthA vs0 1)] h fun t11 h1 =>
  qBin .eql t11 s0 fun t13 =>
  ifB t13 (
  Q (nthA vs0 1) h1) (
  qBin .add (nthA vs0 1) (I 1) fun t15 =>
  next0 [(nthA vs0 0), t15] h1)) (
  Q (I (-1)) h)
def imm_found (a0 a1 : AV) (h : AHeap) (Q : QT) : Prop :=
  Loop [(I 0), (I 0)] h fun vs0 h next0 => imm_found_l2 a0 a1 Q vs0 h next0
theorem imm_found_ok (a0 a1 : AV) (h : AHeap) (Q : QT) (k : imm_found a0 a1 h Q) : C fn_imm_found [a0, a1] h Q :=
  okF (pl := [(3, [4, 5, 6, 7, 8, 9, 10, 11, 12, 13, 14, 15], [4, 6])]) Tryz.func152 Tryz.ntmps152 (by kernel_rfl) (by kernel_rfl) rfl (by kernel_rfl) k
def isa_Encode (a0 : AV) (h : AHeap) (Q : QT) : Prop :=
  qBox a0 h fun t1 h0 =>
  qLoadA 2 t1 h0 fun t8 =>
  C fn_isa_code [t8] h0 fun t9 h1 =>
  qExtract 0 t9 fun t10 =>
  qExtract 1 t9 fun t11 =>
  qUn .not t11 fun t13 =>
  ifB t13 (
  Q (.tup [(.full 0 []), (B false)]) h1) (
  qBin .shr t10 (.lit (.int .u64 24)) fun t15 =>
  qConvII .u8 t15 fun t16 =>
  qBin .shr t10 (.lit (.int .u64 16)) fun t18 =>
  qConvII .u8 t18 fun t19 =>
  qBin .shr t10 (.lit (.int .u64 8)) fun t21 =>
  qConvII .u8 t21 fun t22 =>
  qConvII .u8 t10 fun t24 =>
  qBuildSlice 4 1 [t16, t19, t22, t24] fun t25 =>
  qFieldAddr 0 t1 fun t27 =>
  qLoad1 t27 h1 fun t28 =>
  C fn_isa_Size [t28] h1 fun t29 h2 =>
  qBin .sub (I 4) t29 fun t30 =>
  qSliceL 1 t25 (some t30) none fun t31 =>
  C fn_slices_Clone__byte_byte [t31] h2 fun t32 h3 =>
  Q (.tup [t32, (B true)]) h3)
theorem isa_Encode_ok (a0 : AV) (h : AHeap) (Q : QT) (k : isa_Encode a0 h Q) : C fn_isa_Encode [a0] h Q :=
  okF (pl := []) Tryz.func35 Tryz.ntmps35 (by kernel_rfl) (by kernel_rfl) rfl (by kernel_rfl) k
def isa_Find (a0 : AV) (h : AHeap) (Q : QT) : Prop :=
  qBox a0 h fun t1 h0 =>
  C fn_isa_table [] h0 fun t5 h1 =>
  C fn_slices_IndexFunc__isa_row_isa_row [t5, (.fn (.func fn_isa_Find_1) [] [t1])] h1 fun t7 h2 =>
  qMax t7 (I 0) fun t9 =>
  qBin .geq t7 (I 0) fun t11 =>
  Q (.tup [t9, t11]) h2
theorem isa_Find_ok (a0 : AV) (h : AHeap) (Q : QT) (k : isa_Find a0 h Q) : C fn_isa_Find [a0] h Q :=
  okF (pl := []) Tryz.func140 Tryz.ntmps140 (by kernel_rfl) (by kernel_rfl) rfl (by kernel_rfl) k
def isa_Find_1 (a0 a1 : AV) (h : AHeap) (Q : QT) : Prop :=
  qBox a0 h fun t2 h0 =>
  qFieldAddr 0 t2 fun t4 =>
  qLoad1 t4 h0 fun t5 =>
  qLoad1 a1 h0 fun t6 =>
  qBin .eql t5 t6 fun t7 =>
  Q t7 h0
theorem isa_Find_1_ok (a0 a1 : AV) (h : AHeap) (Q : QT) (k : isa_Find_1 a0 a1 h Q) : C fn_isa_Find_1 [a0, a1] h Q :=
  okF (pl := []) Tryz.func165 Tryz.ntmps165 (by kernel_rfl) (by kernel_rfl) rfl (by kernel_rfl) k
def isa_Kinds (a0 : AV) (h : AHeap) (Q : QT) : Prop :=
  C fn_isa_of_string [a0, (.fn (.func fn_isa_row_operands) [] [])] h fun t4 h0 =>
  Q t4 h0
theorem isa_Kinds_ok (a0 : AV) (h : AHeap) (Q : QT) (k : isa_Kinds a0 h Q) : C fn_isa_Kinds [a0] h Q :=
  okF (pl := []) Tryz.func55 Tryz.ntmps55 (by kernel_rfl) (by kernel_rfl) rfl (by kernel_rfl) k
def isa_Name (a0 : AV) (h : AHeap) (Q : QT) : Prop :=
  C fn_isa_of_string [a0, (.fn (.func fn_isa_row_title) [] [])] h fun t4 h0 =>
  Q t4 h0
theorem isa_Name_ok (a0 : AV) (h : AHeap) (Q : QT) (k : isa_Name a0 h Q) : C fn_isa_Name [a0] h Q :=
  okF (pl := []) Tryz.func72 Tryz.ntmps72 (by kernel_rfl) (by kernel_rfl) rfl (by kernel_rfl) k
def isa_Right (a0 : AV) (h : AHeap) (Q : QT) : Prop :=
  qBox a0 h fun t1 h0 =>
  qLoadA 2 t1 h0 fun t6 =>
  C fn_isa_code [t6] h0 fun t7 h1 =>
  qExtract 0 t7 fun t8 =>
  qExtract 1 t7 fun t9 =>
  Q t9 h1
theorem isa_Right_ok (a0 : AV) (h : AHeap) (Q : QT) (k : isa_Right a0 h Q) : C fn_isa_Right [a0] h Q :=
  okF (pl := []) Tryz.func76 Tryz.ntmps76 (by kernel_rfl) (by kernel_rfl) rfl (by kernel_rfl) k
def isa_Size (a0 : AV) (h : AHeap) (Q : QT) : Prop :=
  C fn_isa_Name [a0] h fun t5 h0 =>
  qBin .eql t5 (S ⟨#[]⟩) fun t6 =>
  ifB t6 (
  Q (I 0) h0) (
  qBin .lss a0 (I 43) fun t9 =>
  ifB t9 (
  Q (I 2) h0) (
  Q (I 4) h0))
theorem isa_Size_ok (a0 : AV) (h : AHeap) (Q : QT) (k : isa_Size a0 h Q) : C fn_isa_Size [a0] h Q :=
  okF (pl := []) Tryz.func43 Tryz.ntmps43 (by kernel_rfl) (by kernel_rfl) rfl (by kernel_rfl) k
def isa_code_l6 (s27 s26 s1 : AV) (Q : QT) (vs4 : List AV) (h : AHeap) (next4 : NT) : Prop :=
  qBin .lss (nthA vs4 3) s27 fun t29 =>
  ifB t29 (
  qIndexAddr 1 s26 (nthA vs4 3) fun t31 =>
  qLoad1 t31 h fun t32 =>
  qFieldAddr 1 s1 fun t35 =>
  qLoad1 t35 h fun t36 =>
  qIndexAddr 1 t36 (nthA vs4 3) fun t38 =>
  qLoad1 t38 h fun t39 =>
  C fn_isa_put [t32, t39] h fun t40 h5 =>
  qExtract 0 t40 fun t41 =>
  qExtract 1 t40 fun t42 =>
  qUn .not t42 fun t44 =>
  ifB t44 (
  Q (.tup [(.lit (.int .u32 0)), (B false)]) h5) (
  qBin .or (nthA vs4 2) t41 fun t47 =>
  qBin .add (nthA vs4 3) (I 1) fun t48 =>
  next4 [(nthA vs4 0), (nthA vs4 1), t47, t48] h5)) (
  Q (.tup [(nthA vs4 2), (B true)]) h)
def isa_code (a0 : AV) (h : AHeap) (Q : QT) : Prop :=
  qBox a0 h fun t1 h0 =>
  qFieldAddr 0 t1 fun t10 =>
  qLoad1 t10 h0 fun t11 =>
  C fn_isa_Name [t11] h0 fun t12 h1 =>
  qBin .eql t12 (S ⟨#[]⟩) fun t13 =>
  ifB t13 (
  Q (.tup [(.lit (.int .u32 0)), (B false)]) h1) (
  qFieldAddr 0 t1 fun t14 =>
  qLoad1 t14 h1 fun t15 =>
  qFieldAddr 0 t1 fun t17 =>
  qLoad1 t17 h1 fun t18 =>
  C fn_isa_of_uint32 [t15, (.fn (.func fn_isa_code_1) [] [])] h1 fun t16 h2 =>
  (qLoad1 t17 h2 fun _t =>
  _t = t18) ∧
  C fn_isa_of__string [t18, (.fn (.func fn_isa_row_list) [] [])] h2 fun t19 h3 =>
  qLenL t19 fun t21 =>
  qFieldAddr 1 t1 fun t22 =>
  qLoad1 t22 h3 fun t23 =>
  qLenL t23 fun t24 =>
  qBin .neq t21 t24 fun t25 =>
  ifB t25 (
  Q (.tup [(.lit (.int .u32 0)), (B false)]) h3) (
  qLenL t19 fun t27 =>
  Loop [(.lit (.int .u32 0)), (B false), t16, (I 0)] h3 fun vs4 h next4 => isa_code_l6 t27 t19 t1 Q vs4 h next4))
theorem isa_code_ok (a0 : AV) (h : AHeap) (Q : QT) (k : isa_code a0 h Q) : C fn_isa_code [a0] h Q :=
  okF (pl := [(1000003, [0, 1, 3, 4, 2, 5, 6, 7], []), (8, [2, 3, 4, 6, 7, 8, 9, 28, 29, 30, 31, 32, 33, 34, 35, 36, 37, 38, 39, 40, 41, 42, 43, 44, 45, 46, 47, 48], [2, 3, 4, 28])]) Tryz.func52 Tryz.ntmps52 (by kernel_rfl) (by kernel_rfl) rfl (by kernel_rfl) k
def isa_code_1 (a0 : AV) (h : AHeap) (Q : QT) : Prop :=
  qBox a0 h fun t1 h0 =>
  qFieldAddr 1 t1 fun t3 =>
  qLoad1 t3 h0 fun t4 =>
  Q t4 h0
theorem isa_code_1_ok (a0 : AV) (h : AHeap) (Q : QT) (k : isa_code_1 a0 h Q) : C fn_isa_code_1 [a0] h Q :=
  okF (pl := []) Tryz.func83 Tryz.ntmps83 (by kernel_rfl) (by kernel_rfl) rfl (by kernel_rfl) k
def isa_of__string_j2 (s4 : AV) (h : AHeap) (Q : QT) : Prop :=
  Q s4 h
def isa_of__string (a0 a1 : AV) (h : AHeap) (Q : QT) : Prop :=
  C fn_isa_table [] h fun t6 h0 =>
  qBin .geq a0 (I 0) fun t8 =>
  ifB t8 (qLenL t6 fun t12 =>
  qBin .lss a0 t12 fun t13 =>
  ifB t13 (
  qIndexAddr 3 t6 a0 fun t18 =>
  qLoadA 3 t18 h0 fun t19 =>
  CV a1 [t19] h0 fun t20 h1 =>
  isa_of__string_j2 t20 h1 Q) (
  isa_of__string_j2 (.full 0 []) h0 Q)) (
  isa_of__string_j2 (.full 0 []) h0 Q)
theorem isa_of__string_ok (a0 a1 : AV) (h : AHeap) (Q : QT) (k : isa_of__string a0 a1 h Q) : C fn_isa_of__string [a0, a1] h Q :=
  okF (pl := []) Tryz.func84 Tryz.ntmps84 (by kernel_rfl) (by kernel_rfl) rfl (by kernel_rfl) k
def isa_of_string_j2 (s4 : AV) (h : AHeap) (Q : QT) : Prop :=
  Q s4 h
def isa_of_string (a0 a1 : AV) (h : AHeap) (Q : QT) : Prop :=
  C fn_isa_table [] h fun t6 h0 =>
  qBin .geq a0 (I 0) fun t8 =>
  ifB t8 (qLenL t6 fun t12 =>
  qBin .lss a0 t12 fun t13 =>
  ifB t13 (
  qIndexAddr 3 t6 a0 fun t18 =>
  qLoadA 3 t18 h0 fun t19 =>
  CV a1 [t19] h0 fun t20 h1 =>
  isa_of_string_j2 t20 h1 Q) (
  isa_of_string_j2 (S ⟨#[]⟩) h0 Q)) (
  isa_of_string_j2 (S ⟨#[]⟩) h0 Q)
theorem isa_of_string_ok (a0 a1 : AV) (h : AHeap) (Q : QT) (k : isa_of_string a0 a1 h Q) : C fn_isa_of_string [a0, a1] h Q :=
  okF (pl := []) Tryz.func90 Tryz.ntmps90 (by kernel_rfl) (by kernel_rfl) rfl (by kernel_rfl) k
def isa_of_uint32_j2 (s4 : AV) (h : AHeap) (Q : QT) : Prop :=
  Q s4 h
def isa_of_uint32 (a0 a1 : AV) (h : AHeap) (Q : QT) : Prop :=
  C fn_isa_table [] h fun t6 h0 =>
  qBin .geq a0 (I 0) fun t8 =>
  ifB t8 (qLenL t6 fun t12 =>
  qBin .lss a0 t12 fun t13 =>
  ifB t13 (
  qIndexAddr 3 t6 a0 fun t18 =>
  qLoadA 3 t18 h0 fun t19 =>
  CV a1 [t19] h0 fun t20 h1 =>
  isa_of_uint32_j2 t20 h1 Q) (
  isa_of_uint32_j2 (.lit (.int .u32 0)) h0 Q)) (
  isa_of_uint32_j2 (.lit (.int .u32 0)) h0 Q)
theorem isa_of_uint32_ok (a0 a1 : AV) (h : AHeap) (Q : QT) (k : isa_of_uint32 a0 a1 h Q) : C fn_isa_of_uint32 [a0, a1] h Q :=
  okF (pl := []) Tryz.func82 Tryz.ntmps82 (by kernel_rfl) (by kernel_rfl) rfl (by kernel_rfl) k
def isa_place (a0 : AV) (h : AHeap) (Q : QT) : Prop :=
  qBin .eql a0 (S ⟨#[89]⟩) fun t4 =>
  ifB t4 (
  Q (.lit (.int .u64 4)) h) (
  Q (.lit (.int .u64 0)) h)
theorem isa_place_ok (a0 : AV) (h : AHeap) (Q : QT) (k : isa_place a0 h Q) : C fn_isa_place [a0] h Q :=
  okF (pl := []) Tryz.func120 Tryz.ntmps120 (by kernel_rfl) (by kernel_rfl) rfl (by kernel_rfl) k
def isa_plain_put (a0 a1 : AV) (h : AHeap) (Q : QT) : Prop :=
  qBox a0 h fun t2 h0 =>
  qFieldAddr 3 t2 fun t7 =>
  qLoad1 t7 h0 fun t8 =>
  qBin .lss a1 t8 fun t9 =>
  ifB t9 (Q (.tup [(.lit (.int .u32 0)), (B false)]) h0) (
  qFieldAddr 3 t2 fun t12 =>
  qLoad1 t12 h0 fun t13 =>
  qBin .sub a1 t13 fun t14 =>
  qFieldAddr 2 t2 fun t15 =>
  qLoad1 t15 h0 fun t16 =>
  qFieldAddr 1 t2 fun t17 =>
  qLoad1 t17 h0 fun t18 =>
  qBin .shl t16 t18 fun t19 =>
  qBin .geq t14 t19 fun t20 =>
  ifB t20 (Q (.tup [(.lit (.int .u32 0)), (B false)]) h0) (
  qFieldAddr 3 t2 fun t24 =>
  qLoad1 t24 h0 fun t25 =>
  qBin .sub a1 t25 fun t26 =>
  qFieldAddr 2 t2 fun t27 =>
  qLoad1 t27 h0 fun t28 =>
  qBin .rem t26 t28 fun t29 =>
  qBin .neq t29 (I 0) fun t30 =>
  ifB t30 (
  Q (.tup [(.lit (.int .u32 0)), (B false)]) h0) (
  qFieldAddr 3 t2 fun t33 =>
  qLoad1 t33 h0 fun t34 =>
  qBin .sub a1 t34 fun t35 =>
  qFieldAddr 2 t2 fun t36 =>
  qLoad1 t36 h0 fun t37 =>
  qBin .quo t35 t37 fun t38 =>
  qConvII .u32 t38 fun t39 =>
  qFieldAddr 0 t2 fun t40 =>
  qLoad1 t40 h0 fun t41 =>
  qBin .shl t39 t41 fun t42 =>
  Q (.tup [t42, (B true)]) h0)))
theorem isa_plain_put_ok (a0 a1 : AV) (h : AHeap) (Q : QT) (k : isa_plain_put a0 a1 h Q) : C fn_isa_plain_put [a0, a1] h Q :=
  okF (pl := [(1000003, [0, 1, 2, 3, 4, 5, 6, 7, 8, 9, 10, 11, 12], [])]) Tryz.func119 Tryz.ntmps119 (by kernel_rfl) (by kernel_rfl) rfl (by kernel_rfl) k
def isa_plains (a0 : AV) (h : AHeap) (Q : QT) : Prop :=
  qNew [(.lit (.int .u64 0)), (.lit (.int .u64 0)), (I 0), (I 0)] h fun t2 h0 =>
  qBin .eql a0 (S ⟨#[85, 53]⟩) fun t6 =>
  ifB t6 (
  qBuild [(.lit (.int .u64 0)), (.lit (.int .u64 0)), (I 0), (I 0)] [(0, 1, (.lit (.int .u64 4))), (1, 1, (.lit (.int .u64 5))), (2, 1, (I 1)), (3, 1, (I 0))] fun t7 =>
  qStore 4 t2 t7 h0 fun h1 =>
  qLoadA 4 t2 h1 fun r2 =>
  Q (.tup [r2, (B true)]) h1) (
  qBin .eql a0 (S ⟨#[85, 55]⟩) fun t9 =>
  ifB t9 (
  qBuild [(.lit (.int .u64 0)), (.lit (.int .u64 0)), (I 0), (I 0)] [(0, 1, (.lit (.int .u64 4))), (1, 1, (.lit (.int .u64 7))), (2, 1, (I 1)), (3, 1, (I 0))] fun t10 =>
  qStore 4 t2 t10 h0 fun h3 =>
  qLoadA 4 t2 h3 fun r4 =>
  Q (.tup [r4, (B true)]) h3) (
  qBin .eql a0 (S ⟨#[79, 53]⟩) fun t12 =>
  ifB t12 (
  qBuild [(.lit (.int .u64 0)), (.lit (.int .u64 0)), (I 0), (I 0)] [(0, 1, (.lit (.int .u64 4))), (1, 1, (.lit (.int .u64 5))), (2, 1, (I 1)), (3, 1, (I 1))] fun t13 =>
  qStore 4 t2 t13 h0 fun h5 =>
  qLoadA 4 t2 h5 fun r6 =>
  Q (.tup [r6, (B true)]) h5) (
  qBin .eql a0 (S ⟨#[77, 49]⟩) fun t15 =>
  ifB t15 (
  qBuild [(.lit (.int .u64 0)), (.lit (.int .u64 0)), (I 0), (I 0)] [(0, 1, (.lit (.int .u64 8))), (1, 1, (.lit (.int .u64 4))), (2, 1, (I 1)), (3, 1, (I 0))] fun t16 =>
  qStore 4 t2 t16 h0 fun h7 =>
  qLoadA 4 t2 h7 fun r8 =>
  Q (.tup [r8, (B true)]) h7) (
  qBin .eql a0 (S ⟨#[77, 50]⟩) fun t18 =>
  ifB t18 (
  qBuild [(.lit (.int .u64 0)), (.lit (.int .u64 0)), (I 0), (I 0)] [(0, 1, (.lit (.int .u64 8))), (1, 1, (.lit (.int .u64 4))), (2, 1, (I 2)), (3, 1, (I 0))] fun t19 =>
  qStore 4 t2 t19 h0 fun h9 =>
  qLoadA 4 t2 h9 fun r10 =>
  Q (.tup [r10, (B true)]) h9) (
  qBin .eql a0 (S ⟨#[77, 52]⟩) fun t21 =>
  ifB t21 (
  qBuild [(.lit (.int .u64 0)), (.lit (.int .u64 0)), (I 0), (I 0)] [(0, 1, (.lit (.int .u64 8))), (1, 1, (.lit (.int .u64 4))), (2, 1, (I 4)), (3, 1, (I 0))] fun t22 =>
  qStore 4 t2 t22 h0 fun h11 =>
  qLoadA 4 t2 h11 fun r12 =>
  Q (.tup [r12, (B true)]) h11) (
  qBin .eql a0 (S ⟨#[79, 49]⟩) fun t24 =>
  ifB t24 (
  qBuild [(.lit (.int .u64 0)), (.lit (.int .u64 0)), (I 0), (I 0)] [(0, 1, (.lit (.int .u64 10))), (1, 1, (.lit (.int .u64 1))), (2, 1, (I 1)), (3, 1, (I 0))] fun t25 =>
  qStore 4 t2 t25 h0 fun h13 =>
  qLoadA 4 t2 h13 fun r14 =>
  Q (.tup [r14, (B true)]) h13) (
  qBin .eql a0 (S ⟨#[73, 50]⟩) fun t27 =>
  ifB t27 (
  qBuild [(.lit (.int .u64 0)), (.lit (.int .u64 0)), (I 0), (I 0)] [(0, 1, (.lit (.int .u64 8))), (1, 1, (.lit (.int .u64 2))), (2, 1, (I 1)), (3, 1, (I 0))] fun t28 =>
  qStore 4 t2 t28 h0 fun h15 =>
  qLoadA 4 t2 h15 fun r16 =>
  Q (.tup [r16, (B true)]) h15) (
  qBin .eql a0 (S ⟨#[68]⟩) fun t30 =>
  ifB t30 (
  qBuild [(.lit (.int .u64 0)), (.lit (.int .u64 0)), (I 0), (I 0)] [(0, 1, (.lit (.int .u64 21))), (1, 1, (.lit (.int .u64 5))), (2, 1, (I 1)), (3, 1, (I 0))] fun t31 =>
  qStore 4 t2 t31 h0 fun h17 =>
  qLoadA 4 t2 h17 fun r18 =>
  Q (.tup [r18, (B true)]) h17) (
  qBin .eql a0 (S ⟨#[65]⟩) fun t33 =>
  ifB t33 (
  qBuild [(.lit (.int .u64 0)), (.lit (.int .u64 0)), (I 0), (I 0)] [(0, 1, (.lit (.int .u64 16))), (1, 1, (.lit (.int .u64 5))), (2, 1, (I 1)), (3, 1, (I 0))] fun t34 =>
  qStore 4 t2 t34 h0 fun h19 =>
  qLoadA 4 t2 h19 fun r20 =>
  Q (.tup [r20, (B true)]) h19) (
  qBin .eql a0 (S ⟨#[66]⟩) fun t36 =>
  ifB t36 (
  qBuild [(.lit (.int .u64 0)), (.lit (.int .u64 0)), (I 0), (I 0)] [(0, 1, (.lit (.int .u64 11))), (1, 1, (.lit (.int .u64 5))), (2, 1, (I 1)), (3, 1, (I 0))] fun t37 =>
  qStore 4 t2 t37 h0 fun h21 =>
  qLoadA 4 t2 h21 fun r22 =>
  Q (.tup [r22, (B true)]) h21) (
  qBin .eql a0 (S ⟨#[79, 50]⟩) fun t39 =>
  ifB t39 (
  qBuild [(.lit (.int .u64 0)), (.lit (.int .u64 0)), (I 0), (I 0)] [(0, 1, (.lit (.int .u64 20))), (1, 1, (.lit (.int .u64 2))), (2, 1, (I 1)), (3, 1, (I 0))] fun t40 =>
  qStore 4 t2 t40 h0 fun h23 =>
  qLoadA 4 t2 h23 fun r24 =>
  Q (.tup [r24, (B true)]) h23) (
  qBin .eql a0 (S ⟨#[73, 52]⟩) fun t42 =>
  ifB t42 (
  qBuild [(.lit (.int .u64 0)), (.lit (.int .u64 0)), (I 0), (I 0)] [(0, 1, (.lit (.int .u64 16))), (1, 1, (.lit (.int .u64 4))), (2, 1, (I 1)), (3, 1, (I 0))] fun t43 =>
  qStore 4 t2 t43 h0 fun h25 =>
  qLoadA 4 t2 h25 fun r26 =>
  Q (.tup [r26, (B true)]) h25) (
  qBuild [(.lit (.int .u64 0)), (.lit (.int .u64 0)), (I 0), (I 0)] [] fun t44 =>
  qStore 4 t2 t44 h0 fun h27 =>
  qLoadA 4 t2 h27 fun r28 =>
  Q (.tup [r28, (B false)]) h27)))))))))))))
theorem isa_plains_ok (a0 : AV) (h : AHeap) (Q : QT) (k : isa_plains a0 h Q) : C fn_isa_plains [a0] h Q :=
  okF (pl := []) Tryz.func118 Tryz.ntmps118 (by kernel_rfl) (by kernel_rfl) rfl (by kernel_rfl) k
def isa_put_j15 (s27 s26 s0 s1 : AV) (h : AHeap) (Q : QT) : Prop :=
  ifB s27 (
  qBin .lss s1 (I 0) fun t31 =>
  ifB t31 (Q (.tup [(.lit (.int .u32 0)), (B false)]) h) (
  qBin .gtr s1 (I 7) fun t34 =>
  ifT t34 (qBin .lss s1 (I 24) fun t37 =>
  ifB t37 (Q (.tup [(.lit (.int .u32 0)), (B false)]) h) (
  qBin .gtr s1 (I 31) fun t42 =>
  ifB t42 (
  Q (.tup [(.lit (.int .u32 0)), (B false)]) h) (
  qBin .quo s1 (I 24) fun t46 =>
  qBin .mul t46 (I 16) fun t47 =>
  qBin .sub s1 t47 fun t48 =>
  qConvII .u32 t48 fun t49 =>
  C fn_isa_place [s0] h fun t51 h4 =>
  qBin .shl t49 t51 fun t52 =>
  Q (.tup [t52, (B true)]) h4))) (
  qBin .gtr s1 (I 31) fun t42 =>
  ifB t42 (
  Q (.tup [(.lit (.int .u32 0)), (B false)]) h) (
  qBin .quo s1 (I 24) fun t46 =>
  qBin .mul t46 (I 16) fun t47 =>
  qBin .sub s1 t47 fun t48 =>
  qConvII .u32 t48 fun t49 =>
  C fn_isa_place [s0] h fun t51 h5 =>
  qBin .shl t49 t51 fun t52 =>
  Q (.tup [t52, (B true)]) h5)) (
  ifB (.tup []) (ifB (.tup []) (Q (.tup [(.lit (.int .u32 0)), (B false)]) h) (ifB (.tup []) (
  Q (.tup [(.lit (.int .u32 0)), (B false)]) h) (
  qBin .quo s1 (I 24) fun t46 =>
  qBin .mul t46 (I 16) fun t47 =>
  qBin .sub s1 t47 fun t48 =>
  qConvII .u32 t48 fun t49 =>
  C fn_isa_place [s0] h fun t51 h6 =>
  qBin .shl t49 t51 fun t52 =>
  Q (.tup [t52, (B true)]) h6))) (qBin .gtr s1 (I 31) fun t42 =>
  ifB t42 (
  Q (.tup [(.lit (.int .u32 0)), (B false)]) h) (
  qBin .quo s1 (I 24) fun t46 =>
  qBin .mul t46 (I 16) fun t47 =>
  qBin .sub s1 t47 fun t48 =>
  qConvII .u32 t48 fun t49 =>
  C fn_isa_place [s0] h fun t51 h7 =>
  qBin .shl t49 t51 fun t52 =>
  Q (.tup [t52, (B true)]) h7))))) (
  qBin .eql s26 (S ⟨#[76, 50, 48]⟩) fun t54 =>
  ifB t54 (
  C fn_imm_Split [s1] h fun t57 h8 =>
  qExtract 0 t57 fun t58 =>
  qExtract 1 t57 fun t59 =>
  qExtract 2 t57 fun t60 =>
  qBin .shl t58 (.lit (.int .u64 11)) fun t62 =>
  qBin .shl t59 (.lit (.int .u64 16)) fun t64 =>
  qBin .or t62 t64 fun t65 =>
  qBin .or t65 t60 fun t67 =>
  qConvII .u32 t67 fun t68 =>
  C fn_imm_Fits [s1, (I 20)] h8 fun t70 h9 =>
  Q (.tup [t68, t70]) h9) (
  qBin .eql s26 (S ⟨#[67, 56]⟩) fun t72 =>
  ifB t72 (
  C fn_imm_Sci8 [s1] h fun t75 h10 =>
  qExtract 0 t75 fun t76 =>
  qExtract 1 t75 fun t77 =>
  qExtract 2 t75 fun t78 =>
  qExtract 3 t75 fun t79 =>
  qBin .shl t76 (.lit (.int .u64 10)) fun t81 =>
  qBin .shl t77 (.lit (.int .u64 8)) fun t83 =>
  qBin .or t81 t83 fun t84 =>
  qBin .or t84 t78 fun t86 =>
  qConvII .u32 t86 fun t87 =>
  Q (.tup [t87, t79]) h10) (
  qBin .eql s26 (S ⟨#[83, 49, 54]⟩) fun t90 =>
  ifB t90 (
  qBin .and s1 (I 65535) fun t92 =>
  qConvII .u32 t92 fun t93 =>
  C fn_imm_Fits [s1, (I 16)] h fun t95 h11 =>
  Q (.tup [t93, t95]) h11) (
  qBin .rem s1 (I 2) fun t97 =>
  qBin .neq t97 (I 0) fun t98 =>
  ifB t98 (Q (.tup [(.lit (.int .u32 0)), (B false)]) h) (
  C fn_isa_wide [s0] h fun t102 h12 =>
  C fn_imm_Fits [s1, t102] h12 fun t103 h13 =>
  qUn .not t103 fun t104 =>
  ifB t104 (
  Q (.tup [(.lit (.int .u32 0)), (B false)]) h13) (
  qBin .eql s0 (S ⟨#[84, 56]⟩) fun t107 =>
  ifB t107 (
  qBin .quo s1 (I 2) fun t109 =>
  qBin .and t109 (I 255) fun t110 =>
  qConvII .u32 t110 fun t111 =>
  Q (.tup [t111, (B true)]) h13) (
  C fn_isa_wide [s0] h13 fun t114 h14 =>
  qBin .shl (I 1) t114 fun t115 =>
  qBin .sub t115 (I 1) fun t116 =>
  qBin .and s1 t116 fun t117 =>
  qConvII .u32 t117 fun t118 =>
  Q (.tup [t118, (B true)]) h14)))))))
def isa_put (a0 a1 : AV) (h : AHeap) (Q : QT) : Prop :=
  C fn_isa_plains [a0] h fun t17 h0 =>
  qExtract 0 t17 fun t18 =>
  qExtract 1 t17 fun t19 =>
  qNew [(.lit (.int .u64 0)), (.lit (.int .u64 0)), (I 0), (I 0)] h0 fun t6 h1 =>
  qStore 4 t6 t18 h1 fun h2 =>
  ifB t19 (
  qLoadA 4 t6 h2 fun t21 =>
  C fn_isa_plain_put [t21, a1] h2 fun t23 h3 =>
  qExtract 0 t23 fun t24 =>
  qExtract 1 t23 fun t25 =>
  Q (.tup [t24, t25]) h3) (
  qBin .eql a0 (S ⟨#[88]⟩) fun t28 =>
  ifB t28 (
  isa_put_j15 t28 a0 a0 a1 h2 Q) (
  qBin .eql a0 (S ⟨#[89]⟩) fun t29 =>
  isa_put_j15 t29 a0 a0 a1 h2 Q))
theorem isa_put_ok (a0 a1 : AV) (h : AHeap) (Q : QT) (k : isa_put a0 a1 h Q) : C fn_isa_put [a0, a1] h Q :=
  okF (pl := []) Tryz.func86 Tryz.ntmps86 (by kernel_rfl) (by kernel_rfl) rfl (by kernel_rfl) k
def isa_row_list (a0 : AV) (h : AHeap) (Q : QT) : Prop :=
  qBox a0 h fun t1 h0 =>
  qFieldAddr 2 t1 fun t3 =>
  qLoad1 t3 h0 fun t4 =>
  C fn_strings_Fields [t4] h0 fun t5 h1 =>
  Q t5 h1
theorem isa_row_list_ok (a0 : AV) (h : AHeap) (Q : QT) (k : isa_row_list a0 h Q) : C fn_isa_row_list [a0] h Q :=
  okF (pl := []) Tryz.func85 Tryz.ntmps85 (by kernel_rfl) (by kernel_rfl) rfl (by kernel_rfl) k
def isa_row_operands (a0 : AV) (h : AHeap) (Q : QT) : Prop :=
  qBox a0 h fun t1 h0 =>
  qFieldAddr 2 t1 fun t3 =>
  qLoad1 t3 h0 fun t4 =>
  Q t4 h0
theorem isa_row_operands_ok (a0 : AV) (h : AHeap) (Q : QT) (k : isa_row_operands a0 h Q) : C fn_isa_row_operands [a0] h Q :=
  okF (pl := []) Tryz.func91 Tryz.ntmps91 (by kernel_rfl) (by kernel_rfl) rfl (by kernel_rfl) k
def isa_row_title (a0 : AV) (h : AHeap) (Q : QT) : Prop :=
  qBox a0 h fun t1 h0 =>
  qFieldAddr 0 t1 fun t3 =>
  qLoad1 t3 h0 fun t4 =>
  Q t4 h0
theorem isa_row_title_ok (a0 : AV) (h : AHeap) (Q : QT) (k : isa_row_title a0 h Q) : C fn_isa_row_title [a0] h Q :=
  okF (pl := []) Tryz.func108 Tryz.ntmps108 (by kernel_rfl) (by kernel_rfl) rfl (by kernel_rfl) k
def isa_table (h : AHeap) (Q : QT) : Prop :=
  qBuild [(S ⟨#[]⟩), (.lit (.int .u32 0)), (S ⟨#[]⟩)] [(0, 1, (S ⟨#[115, 101, 95, 105, 108, 108, 101, 103, 97, 108]⟩)), (1, 1, (.lit (.int .u32 0))), (2, 1, (S ⟨#[]⟩))] fun t1 =>
  qBuild [(S ⟨#[]⟩), (.lit (.int .u32 0)), (S ⟨#[]⟩)] [(0, 1, (S ⟨#[115, 101, 95, 105, 115, 121, 110, 99]⟩)), (1, 1, (.lit (.int .u32 1))), (2, 1, (S ⟨#[]⟩))] fun t2 =>
  qBuild [(S ⟨#[]⟩), (.lit (.int .u32 0)), (S ⟨#[]⟩)] [(0, 1, (S ⟨#[115, 101, 95, 115, 99]⟩)), (1, 1, (.lit (.int .u32 2))), (2, 1, (S ⟨#[]⟩))] fun t3 =>
  qBuild [(S ⟨#[]⟩), (.lit (.int .u32 0)), (S ⟨#[]⟩)] [(0, 1, (S ⟨#[115, 101, 95, 98, 108, 114]⟩)), (1, 1, (.lit (.int .u32 4))), (2, 1, (S ⟨#[]⟩))] fun t4 =>
  qBuild [(S ⟨#[]⟩), (.lit (.int .u32 0)), (S ⟨#[]⟩)] [(0, 1, (S ⟨#[115, 101, 95, 98, 99, 116, 114]⟩)), (1, 1, (.lit (.int .u32 6))), (2, 1, (S ⟨#[]⟩))] fun t5 =>
  qBuild [(S ⟨#[]⟩), (.lit (.int .u32 0)), (S ⟨#[]⟩)] [(0, 1, (S ⟨#[115, 101, 95, 110, 111, 116]⟩)), (1, 1, (.lit (.int .u32 32))), (2, 1, (S ⟨#[88]⟩))] fun t6 =>
  qBuild [(S ⟨#[]⟩), (.lit (.int .u32 0)), (S ⟨#[]⟩)] [(0, 1, (S ⟨#[115, 101, 95, 110, 101, 103]⟩)), (1, 1, (.lit (.int .u32 48))), (2, 1, (S ⟨#[88]⟩))] fun t7 =>
  qBuild [(S ⟨#[]⟩), (.lit (.int .u32 0)), (S ⟨#[]⟩)] [(0, 1, (S ⟨#[115, 101, 95, 109, 102, 108, 114]⟩)), (1, 1, (.lit (.int .u32 128))), (2, 1, (S ⟨#[88]⟩))] fun t8 =>
  qBuild [(S ⟨#[]⟩), (.lit (.int .u32 0)), (S ⟨#[]⟩)] [(0, 1, (S ⟨#[115, 101, 95, 109, 116, 108, 114]⟩)), (1, 1, (.lit (.int .u32 144))), (2, 1, (S ⟨#[88]⟩))] fun t9 =>
  qBuild [(S ⟨#[]⟩), (.lit (.int .u32 0)), (S ⟨#[]⟩)] [(0, 1, (S ⟨#[115, 101, 95, 109, 102, 99, 116, 114]⟩)), (1, 1, (.lit (.int .u32 160))), (2, 1, (S ⟨#[88]⟩))] fun t10 =>
  qBuild [(S ⟨#[]⟩), (.lit (.int .u32 0)), (S ⟨#[]⟩)] [(0, 1, (S ⟨#[115, 101, 95, 109, 116, 99, 116, 114]⟩)), (1, 1, (.lit (.int .u32 176))), (2, 1, (S ⟨#[88]⟩))] fun t11 =>
  qBuild [(S ⟨#[]⟩), (.lit (.int .u32 0)), (S ⟨#[]⟩)] [(0, 1, (S ⟨#[115, 101, 95, 101, 120, 116, 122, 98]⟩)), (1, 1, (.lit (.int .u32 192))), (2, 1, (S ⟨#[88]⟩))] fun t12 =>
  qBuild [(S ⟨#[]⟩), (.lit (.int .u32 0)), (S ⟨#[]⟩)] [(0, 1, (S ⟨#[115, 101, 95, 101, 120, 116, 115, 98]⟩)), (1, 1, (.lit (.int .u32 208))), (2, 1, (S ⟨#[88]⟩))] fun t13 =>
  qBuild [(S ⟨#[]⟩), (.lit (.int .u32 0)), (S ⟨#[]⟩)] [(0, 1, (S ⟨#[115, 101, 95, 101, 120, 116, 122, 104]⟩)), (1, 1, (.lit (.int .u32 224))), (2, 1, (S ⟨#[88]⟩))] fun t14 =>
  qBuild [(S ⟨#[]⟩), (.lit (.int .u32 0)), (S ⟨#[]⟩)] [(0, 1, (S ⟨#[115, 101, 95, 101, 120, 116, 115, 104]⟩)), (1, 1, (.lit (.int .u32 240))), (2, 1, (S ⟨#[88]⟩))] fun t15 =>
  qBuild [(S ⟨#[]⟩), (.lit (.int .u32 0)), (S ⟨#[]⟩)] [(0, 1, (S ⟨#[115, 101, 95, 109, 114]⟩)), (1, 1, (.lit (.int .u32 256))), (2, 1, (S ⟨#[88, 32, 89]⟩))] fun t16 =>
  qBuild [(S ⟨#[]⟩), (.lit (.int .u32 0)), (S ⟨#[]⟩)] [(0, 1, (S ⟨#[115, 101, 95, 97, 100, 100]⟩)), (1, 1, (.lit (.int .u32 1024))), (2, 1, (S ⟨#[88, 32, 89]⟩))] fun t17 =>
  qBuild [(S ⟨#[]⟩), (.lit (.int .u32 0)), (S ⟨#[]⟩)] [(0, 1, (S ⟨#[115, 101, 95, 109, 117, 108, 108, 119]⟩)), (1, 1, (.lit (.int .u32 1280))), (2, 1, (S ⟨#[88, 32, 89]⟩))] fun t18 =>
  qBuild [(S ⟨#[]⟩), (.lit (.int .u32 0)), (S ⟨#[]⟩)] [(0, 1, (S ⟨#[115, 101, 95, 115, 117, 98]⟩)), (1, 1, (.lit (.int .u32 1536))), (2, 1, (S ⟨#[88, 32, 89]⟩))] fun t19 =>
  qBuild [(S ⟨#[]⟩), (.lit (.int .u32 0)), (S ⟨#[]⟩)] [(0, 1, (S ⟨#[115, 101, 95, 99, 109, 112]⟩)), (1, 1, (.lit (.int .u32 3072))), (2, 1, (S ⟨#[88, 32, 89]⟩))] fun t20 =>
  qBuild [(S ⟨#[]⟩), (.lit (.int .u32 0)), (S ⟨#[]⟩)] [(0, 1, (S ⟨#[115, 101, 95, 99, 109, 112, 108]⟩)), (1, 1, (.lit (.int .u32 3328))), (2, 1, (S ⟨#[88, 32, 89]⟩))] fun t21 =>
  qBuild [(S ⟨#[]⟩), (.lit (.int .u32 0)), (S ⟨#[]⟩)] [(0, 1, (S ⟨#[115, 101, 95, 97, 100, 100, 105]⟩)), (1, 1, (.lit (.int .u32 8192))), (2, 1, (S ⟨#[88, 32, 79, 53]⟩))] fun t22 =>
  qBuild [(S ⟨#[]⟩), (.lit (.int .u32 0)), (S ⟨#[]⟩)] [(0, 1, (S ⟨#[115, 101, 95, 99, 109, 112, 108, 105]⟩)), (1, 1, (.lit (.int .u32 8704))), (2, 1, (S ⟨#[88, 32, 79, 53]⟩))] fun t23 =>
  qBuild [(S ⟨#[]⟩), (.lit (.int .u32 0)), (S ⟨#[]⟩)] [(0, 1, (S ⟨#[115, 101, 95, 115, 117, 98, 105]⟩)), (1, 1, (.lit (.int .u32 9216))), (2, 1, (S ⟨#[88, 32, 79, 53]⟩))] fun t24 =>
  qBuild [(S ⟨#[]⟩), (.lit (.int .u32 0)), (S ⟨#[]⟩)] [(0, 1, (S ⟨#[115, 101, 95, 99, 109, 112, 105]⟩)), (1, 1, (.lit (.int .u32 10752))), (2, 1, (S ⟨#[88, 32, 85, 53]⟩))] fun t25 =>
  qBuild [(S ⟨#[]⟩), (.lit (.int .u32 0)), (S ⟨#[]⟩)] [(0, 1, (S ⟨#[115, 101, 95, 111, 114]⟩)), (1, 1, (.lit (.int .u32 17408))), (2, 1, (S ⟨#[88, 32, 89]⟩))] fun t26 =>
  qBuild [(S ⟨#[]⟩), (.lit (.int .u32 0)), (S ⟨#[]⟩)] [(0, 1, (S ⟨#[115, 101, 95, 97, 110, 100, 99]⟩)), (1, 1, (.lit (.int .u32 17664))), (2, 1, (S ⟨#[88, 32, 89]⟩))] fun t27 =>
  qBuild [(S ⟨#[]⟩), (.lit (.int .u32 0)), (S ⟨#[]⟩)] [(0, 1, (S ⟨#[115, 101, 95, 97, 110, 100]⟩)), (1, 1, (.lit (.int .u32 17920))), (2, 1, (S ⟨#[88, 32, 89]⟩))] fun t28 =>
  qBuild [(S ⟨#[]⟩), (.lit (.int .u32 0)), (S ⟨#[]⟩)] [(0, 1, (S ⟨#[115, 101, 95, 108, 105]⟩)), (1, 1, (.lit (.int .u32 18432))), (2, 1, (S ⟨#[88, 32, 85, 55]⟩))] fun t29 =>
  qBuild [(S ⟨#[]⟩), (.lit (.int .u32 0)), (S ⟨#[]⟩)] [(0, 1, (S ⟨#[115, 101, 95, 98, 99, 108, 114, 105]⟩)), (1, 1, (.lit (.int .u32 24576))), (2, 1, (S ⟨#[88, 32, 85, 53]⟩))] fun t30 =>
  qBuild [(S ⟨#[]⟩), (.lit (.int .u32 0)), (S ⟨#[]⟩)] [(0, 1, (S ⟨#[115, 101, 95, 98, 115, 101, 116, 105]⟩)), (1, 1, (.lit (.int .u32 25600))), (2, 1, (S ⟨#[88, 32, 85, 53]⟩))] fun t31 =>
  qBuild [(S ⟨#[]⟩), (.lit (.int .u32 0)), (S ⟨#[]⟩)] [(0, 1, (S ⟨#[115, 101, 95, 98, 116, 115, 116, 105]⟩)), (1, 1, (.lit (.int .u32 26112))), (2, 1, (S ⟨#[88, 32, 85, 53]⟩))] fun t32 =>
  qBuild [(S ⟨#[]⟩), (.lit (.int .u32 0)), (S ⟨#[]⟩)] [(0, 1, (S ⟨#[115, 101, 95, 115, 114, 119, 105]⟩)), (1, 1, (.lit (.int .u32 26624))), (2, 1, (S ⟨#[88, 32, 85, 53]⟩))] fun t33 =>
  qBuild [(S ⟨#[]⟩), (.lit (.int .u32 0)), (S ⟨#[]⟩)] [(0, 1, (S ⟨#[115, 101, 95, 115, 108, 119, 105]⟩)), (1, 1, (.lit (.int .u32 27648))), (2, 1, (S ⟨#[88, 32, 85, 53]⟩))] fun t34 =>
  qBuild [(S ⟨#[]⟩), (.lit (.int .u32 0)), (S ⟨#[]⟩)] [(0, 1, (S ⟨#[115, 101, 95, 108, 98, 122]⟩)), (1, 1, (.lit (.int .u32 32768))), (2, 1, (S ⟨#[89, 32, 77, 49, 32, 88]⟩))] fun t35 =>
  qBuild [(S ⟨#[]⟩), (.lit (.int .u32 0)), (S ⟨#[]⟩)] [(0, 1, (S ⟨#[115, 101, 95, 115, 116, 98]⟩)), (1, 1, (.lit (.int .u32 36864))), (2, 1, (S ⟨#[89, 32, 77, 49, 32, 88]⟩))] fun t36 =>
  qBuild [(S ⟨#[]⟩), (.lit (.int .u32 0)), (S ⟨#[]⟩)] [(0, 1, (S ⟨#[115, 101, 95, 108, 104, 122]⟩)), (1, 1, (.lit (.int .u32 40960))), (2, 1, (S ⟨#[89, 32, 77, 50, 32, 88]⟩))] fun t37 =>
  qBuild [(S ⟨#[]⟩), (.lit (.int .u32 0)), (S ⟨#[]⟩)] [(0, 1, (S ⟨#[115, 101, 95, 115, 116, 104]⟩)), (1, 1, (.lit (.int .u32 45056))), (2, 1, (S ⟨#[89, 32, 77, 50, 32, 88]⟩))] fun t38 =>
  qBuild [(S ⟨#[]⟩), (.lit (.int .u32 0)), (S ⟨#[]⟩)] [(0, 1, (S ⟨#[115, 101, 95, 108, 119, 122]⟩)), (1, 1, (.lit (.int .u32 49152))), (2, 1, (S ⟨#[89, 32, 77, 52, 32, 88]⟩))] fun t39 =>
  qBuild [(S ⟨#[]⟩), (.lit (.int .u32 0)), (S ⟨#[]⟩)] [(0, 1, (S ⟨#[115, 101, 95, 115, 116, 119]⟩)), (1, 1, (.lit (.int .u32 53248))), (2, 1, (S ⟨#[89, 32, 77, 52, 32, 88]⟩))] fun t40 =>
  qBuild [(S ⟨#[]⟩), (.lit (.int .u32 0)), (S ⟨#[]⟩)] [(0, 1, (S ⟨#[115, 101, 95, 98, 99]⟩)), (1, 1, (.lit (.int .u32 57344))), (2, 1, (S ⟨#[79, 49, 32, 73, 50, 32, 84, 56]⟩))] fun t41 =>
  qBuild [(S ⟨#[]⟩), (.lit (.int .u32 0)), (S ⟨#[]⟩)] [(0, 1, (S ⟨#[115, 101, 95, 98]⟩)), (1, 1, (.lit (.int .u32 59392))), (2, 1, (S ⟨#[84, 56]⟩))] fun t42 =>
  qBuild [(S ⟨#[]⟩), (.lit (.int .u32 0)), (S ⟨#[]⟩)] [(0, 1, (S ⟨#[115, 101, 95, 98, 108]⟩)), (1, 1, (.lit (.int .u32 59648))), (2, 1, (S ⟨#[84, 56]⟩))] fun t43 =>
  qBuild [(S ⟨#[]⟩), (.lit (.int .u32 0)), (S ⟨#[]⟩)] [(0, 1, (S ⟨#[101, 95, 97, 100, 100, 49, 54, 105]⟩)), (1, 1, (.lit (.int .u32 469762048))), (2, 1, (S ⟨#[68, 32, 65, 32, 83, 49, 54]⟩))] fun t44 =>
  qBuild [(S ⟨#[]⟩), (.lit (.int .u32 0)), (S ⟨#[]⟩)] [(0, 1, (S ⟨#[101, 95, 97, 100, 100, 105]⟩)), (1, 1, (.lit (.int .u32 402685952))), (2, 1, (S ⟨#[68, 32, 65, 32, 67, 56]⟩))] fun t45 =>
  qBuild [(S ⟨#[]⟩), (.lit (.int .u32 0)), (S ⟨#[]⟩)] [(0, 1, (S ⟨#[101, 95, 97, 110, 100, 105]⟩)), (1, 1, (.lit (.int .u32 402702336))), (2, 1, (S ⟨#[65, 32, 68, 32, 67, 56]⟩))] fun t46 =>
  qBuild [(S ⟨#[]⟩), (.lit (.int .u32 0)), (S ⟨#[]⟩)] [(0, 1, (S ⟨#[101, 95, 111, 114, 105]⟩)), (1, 1, (.lit (.int .u32 402706432))), (2, 1, (S ⟨#[65, 32, 68, 32, 67, 56]⟩))] fun t47 =>
  qBuild [(S ⟨#[]⟩), (.lit (.int .u32 0)), (S ⟨#[]⟩)] [(0, 1, (S ⟨#[101, 95, 120, 111, 114, 105]⟩)), (1, 1, (.lit (.int .u32 402710528))), (2, 1, (S ⟨#[65, 32, 68, 32, 67, 56]⟩))] fun t48 =>
  qBuild [(S ⟨#[]⟩), (.lit (.int .u32 0)), (S ⟨#[]⟩)] [(0, 1, (S ⟨#[101, 95, 108, 105]⟩)), (1, 1, (.lit (.int .u32 1879048192))), (2, 1, (S ⟨#[68, 32, 76, 50, 48]⟩))] fun t49 =>
  qBuild [(S ⟨#[]⟩), (.lit (.int .u32 0)), (S ⟨#[]⟩)] [(0, 1, (S ⟨#[101, 95, 108, 98, 122]⟩)), (1, 1, (.lit (.int .u32 805306368))), (2, 1, (S ⟨#[68, 32, 83, 49, 54, 32, 65]⟩))] fun t50 =>
  qBuild [(S ⟨#[]⟩), (.lit (.int .u32 0)), (S ⟨#[]⟩)] [(0, 1, (S ⟨#[101, 95, 115, 116, 98]⟩)), (1, 1, (.lit (.int .u32 872415232))), (2, 1, (S ⟨#[68, 32, 83, 49, 54, 32, 65]⟩))] fun t51 =>
  qBuild [(S ⟨#[]⟩), (.lit (.int .u32 0)), (S ⟨#[]⟩)] [(0, 1, (S ⟨#[101, 95, 108, 104, 97]⟩)), (1, 1, (.lit (.int .u32 939524096))), (2, 1, (S ⟨#[68, 32, 83, 49, 54, 32, 65]⟩))] fun t52 =>
  qBuild [(S ⟨#[]⟩), (.lit (.int .u32 0)), (S ⟨#[]⟩)] [(0, 1, (S ⟨#[101, 95, 108, 119, 122]⟩)), (1, 1, (.lit (.int .u32 1342177280))), (2, 1, (S ⟨#[68, 32, 83, 49, 54, 32, 65]⟩))] fun t53 =>
  qBuild [(S ⟨#[]⟩), (.lit (.int .u32 0)), (S ⟨#[]⟩)] [(0, 1, (S ⟨#[101, 95, 115, 116, 119]⟩)), (1, 1, (.lit (.int .u32 1409286144))), (2, 1, (S ⟨#[68, 32, 83, 49, 54, 32, 65]⟩))] fun t54 =>
  qBuild [(S ⟨#[]⟩), (.lit (.int .u32 0)), (S ⟨#[]⟩)] [(0, 1, (S ⟨#[101, 95, 108, 104, 122]⟩)), (1, 1, (.lit (.int .u32 1476395008))), (2, 1, (S ⟨#[68, 32, 83, 49, 54, 32, 65]⟩))] fun t55 =>
  qBuild [(S ⟨#[]⟩), (.lit (.int .u32 0)), (S ⟨#[]⟩)] [(0, 1, (S ⟨#[101, 95, 115, 116, 104]⟩)), (1, 1, (.lit (.int .u32 1543503872))), (2, 1, (S ⟨#[68, 32, 83, 49, 54, 32, 65]⟩))] fun t56 =>
  qBuild [(S ⟨#[]⟩), (.lit (.int .u32 0)), (S ⟨#[]⟩)] [(0, 1, (S ⟨#[101, 95, 98]⟩)), (1, 1, (.lit (.int .u32 2013265920))), (2, 1, (S ⟨#[84, 50, 52]⟩))] fun t57 =>
  qBuild [(S ⟨#[]⟩), (.lit (.int .u32 0)), (S ⟨#[]⟩)] [(0, 1, (S ⟨#[101, 95, 98, 108]⟩)), (1, 1, (.lit (.int .u32 2013265921))), (2, 1, (S ⟨#[84, 50, 52]⟩))] fun t58 =>
  qBuild [(S ⟨#[]⟩), (.lit (.int .u32 0)), (S ⟨#[]⟩)] [(0, 1, (S ⟨#[101, 95, 98, 99]⟩)), (1, 1, (.lit (.int .u32 2046820352))), (2, 1, (S ⟨#[79, 50, 32, 73, 52, 32, 84, 49, 53]⟩))] fun t59 =>
  qBuild [(S ⟨#[]⟩), (.lit (.int .u32 0)), (S ⟨#[]⟩)] [(0, 1, (S ⟨#[101, 95, 98, 99, 108]⟩)), (1, 1, (.lit (.int .u32 2046820353))), (2, 1, (S ⟨#[79, 50, 32, 73, 52, 32, 84, 49, 53]⟩))] fun t60 =>
  qBuild [(S ⟨#[]⟩), (.lit (.int .u32 0)), (S ⟨#[]⟩)] [(0, 1, (S ⟨#[97, 100, 100]⟩)), (1, 1, (.lit (.int .u32 2080375316))), (2, 1, (S ⟨#[68, 32, 65, 32, 66]⟩))] fun t61 =>
  qBuild [(S ⟨#[]⟩), (.lit (.int .u32 0)), (S ⟨#[]⟩)] [(0, 1, (S ⟨#[115, 117, 98, 102]⟩)), (1, 1, (.lit (.int .u32 2080374864))), (2, 1, (S ⟨#[68, 32, 65, 32, 66]⟩))] fun t62 =>
  qBuild [(S ⟨#[]⟩), (.lit (.int .u32 0)), (S ⟨#[]⟩)] [(0, 1, (S ⟨#[109, 117, 108, 108, 119]⟩)), (1, 1, (.lit (.int .u32 2080375254))), (2, 1, (S ⟨#[68, 32, 65, 32, 66]⟩))] fun t63 =>
  qBuild [(S ⟨#[]⟩), (.lit (.int .u32 0)), (S ⟨#[]⟩)] [(0, 1, (S ⟨#[97, 110, 100]⟩)), (1, 1, (.lit (.int .u32 2080374840))), (2, 1, (S ⟨#[65, 32, 68, 32, 66]⟩))] fun t64 =>
  qBuild [(S ⟨#[]⟩), (.lit (.int .u32 0)), (S ⟨#[]⟩)] [(0, 1, (S ⟨#[111, 114]⟩)), (1, 1, (.lit (.int .u32 2080375672))), (2, 1, (S ⟨#[65, 32, 68, 32, 66]⟩))] fun t65 =>
  qBuild [(S ⟨#[]⟩), (.lit (.int .u32 0)), (S ⟨#[]⟩)] [(0, 1, (S ⟨#[120, 111, 114]⟩)), (1, 1, (.lit (.int .u32 2080375416))), (2, 1, (S ⟨#[65, 32, 68, 32, 66]⟩))] fun t66 =>
  qBuildSlice 66 3 [t1, t2, t3, t4, t5, t6, t7, t8, t9, t10, t11, t12, t13, t14, t15, t16, t17, t18, t19, t20, t21, t22, t23, t24, t25, t26, t27, t28, t29, t30, t31, t32, t33, t34, t35, t36, t37, t38, t39, t40, t41, t42, t43, t44, t45, t46, t47, t48, t49, t50, t51, t52, t53, t54, t55, t56, t57, t58, t59, t60, t61, t62, t63, t64, t65, t66] fun t67 =>
  Q t67 h
theorem isa_table_ok (h : AHeap) (Q : QT) (k : isa_table  h Q) : C fn_isa_table [] h Q :=
  okF (pl := []) Tryz.func117 Tryz.ntmps117 (by kernel_rfl) (by kernel_rfl) rfl (by kernel_rfl) k
def isa_wide (a0 : AV) (h : AHeap) (Q : QT) : Prop :=
  qBin .eql a0 (S ⟨#[84, 56]⟩) fun t5 =>
  ifB t5 (
  Q (I 9) h) (
  qBin .eql a0 (S ⟨#[84, 50, 52]⟩) fun t7 =>
  ifB t7 (
  Q (I 25) h) (
  Q (I 16) h))
theorem isa_wide_ok (a0 : AV) (h : AHeap) (Q : QT) (k : isa_wide a0 h Q) : C fn_isa_wide [a0] h Q :=
  okF (pl := []) Tryz.func124 Tryz.ntmps124 (by kernel_rfl) (by kernel_rfl) rfl (by kernel_rfl) k
def slices_Clone__api_Arg_api_Arg (a0 : AV) (h : AHeap) (Q : QT) : Prop :=
  qIsNilS .eql a0 fun t4 =>
  ifB t4 (
  Q (.full 0 []) h) (
  qBuildSlice 0 5 [] fun t5 =>
  qAppend 5 64 t5 a0 h fun t7 h0 =>
  Q t7 h0)
theorem slices_Clone__api_Arg_api_Arg_ok (a0 : AV) (h : AHeap) (Q : QT) (k : slices_Clone__api_Arg_api_Arg a0 h Q) : C fn_slices_Clone__api_Arg_api_Arg [a0] h Q :=
  okF (pl := []) Tryz.func107 Tryz.ntmps107 (by kernel_rfl) (by kernel_rfl) rfl (by kernel_rfl) k
def slices_Clone__api_Diag_api_Diag (a0 : AV) (h : AHeap) (Q : QT) : Prop :=
  qIsNilS .eql a0 fun t4 =>
  ifB t4 (
  Q (.full 0 []) h) (
  qBuildSlice 0 3 [] fun t5 =>
  qAppend 3 32 t5 a0 h fun t7 h0 =>
  Q t7 h0)
theorem slices_Clone__api_Diag_api_Diag_ok (a0 : AV) (h : AHeap) (Q : QT) (k : slices_Clone__api_Diag_api_Diag a0 h Q) : C fn_slices_Clone__api_Diag_api_Diag [a0] h Q :=
  okF (pl := []) Tryz.func17 Tryz.ntmps17 (by kernel_rfl) (by kernel_rfl) rfl (by kernel_rfl) k
def slices_Clone__api_Stmt_api_Stmt (a0 : AV) (h : AHeap) (Q : QT) : Prop :=
  qIsNilS .eql a0 fun t4 =>
  ifB t4 (
  Q (.full 0 []) h) (
  qBuildSlice 0 6 [] fun t5 =>
  qAppend 6 80 t5 a0 h fun t7 h0 =>
  Q t7 h0)
theorem slices_Clone__api_Stmt_api_Stmt_ok (a0 : AV) (h : AHeap) (Q : QT) (k : slices_Clone__api_Stmt_api_Stmt a0 h Q) : C fn_slices_Clone__api_Stmt_api_Stmt [a0] h Q :=
  okF (pl := []) Tryz.func71 Tryz.ntmps71 (by kernel_rfl) (by kernel_rfl) rfl (by kernel_rfl) k
def slices_Clone__api_Sym_api_Sym (a0 : AV) (h : AHeap) (Q : QT) : Prop :=
  qIsNilS .eql a0 fun t4 =>
  ifB t4 (
  Q (.full 0 []) h) (
  qBuildSlice 0 2 [] fun t5 =>
  qAppend 2 24 t5 a0 h fun t7 h0 =>
  Q t7 h0)
theorem slices_Clone__api_Sym_api_Sym_ok (a0 : AV) (h : AHeap) (Q : QT) (k : slices_Clone__api_Sym_api_Sym a0 h Q) : C fn_slices_Clone__api_Sym_api_Sym [a0] h Q :=
  okF (pl := []) Tryz.func23 Tryz.ntmps23 (by kernel_rfl) (by kernel_rfl) rfl (by kernel_rfl) k
def slices_Clone__byte_byte (a0 : AV) (h : AHeap) (Q : QT) : Prop :=
  qIsNilS .eql a0 fun t4 =>
  ifB t4 (
  Q (.full 0 []) h) (
  qBuildSlice 0 1 [] fun t5 =>
  qAppend 1 1 t5 a0 h fun t7 h0 =>
  Q t7 h0)
theorem slices_Clone__byte_byte_ok (a0 : AV) (h : AHeap) (Q : QT) (k : slices_Clone__byte_byte a0 h Q) : C fn_slices_Clone__byte_byte [a0] h Q :=
  okF (pl := []) Tryz.func19 Tryz.ntmps19 (by kernel_rfl) (by kernel_rfl) rfl (by kernel_rfl) k
def slices_Clone__int_int (a0 : AV) (h : AHeap) (Q : QT) : Prop :=
  qIsNilS .eql a0 fun t4 =>
  ifB t4 (
  Q (.full 0 []) h) (
  qBuildSlice 0 1 [] fun t5 =>
  qAppend 1 8 t5 a0 h fun t7 h0 =>
  Q t7 h0)
theorem slices_Clone__int_int_ok (a0 : AV) (h : AHeap) (Q : QT) (k : slices_Clone__int_int a0 h Q) : C fn_slices_Clone__int_int [a0] h Q :=
  okF (pl := []) Tryz.func28 Tryz.ntmps28 (by kernel_rfl) (by kernel_rfl) rfl (by kernel_rfl) k
def slices_Clone__string_string (a0 : AV) (h : AHeap) (Q : QT) : Prop :=
  qIsNilS .eql a0 fun t4 =>
  ifB t4 (
  Q (.full 0 []) h) (
  qBuildSlice 0 1 [] fun t5 =>
  qAppend 1 16 t5 a0 h fun t7 h0 =>
  Q t7 h0)
theorem slices_Clone__string_string_ok (a0 : AV) (h : AHeap) (Q : QT) (k : slices_Clone__string_string a0 h Q) : C fn_slices_Clone__string_string [a0] h Q :=
  okF (pl := []) Tryz.func41 Tryz.ntmps41 (by kernel_rfl) (by kernel_rfl) rfl (by kernel_rfl) k
def slices_ContainsFunc__api_Expr_api_Expr (a0 a1 : AV) (h : AHeap) (Q : QT) : Prop :=
  C fn_slices_IndexFunc__api_Expr_api_Expr [a0, a1] h fun t7 h0 =>
  qBin .geq t7 (I 0) fun t8 =>
  Q t8 h0
theorem slices_ContainsFunc__api_Expr_api_Expr_ok (a0 a1 : AV) (h : AHeap) (Q : QT) (k : slices_ContainsFunc__api_Expr_api_Expr a0 a1 h Q) : C fn_slices_ContainsFunc__api_Expr_api_Expr [a0, a1] h Q :=
  okF (pl := []) Tryz.func75 Tryz.ntmps75 (by kernel_rfl) (by kernel_rfl) rfl (by kernel_rfl) k
def slices_ContainsFunc__asm_entry_asm_entry (a0 a1 : AV) (h : AHeap) (Q : QT) : Prop :=
  C fn_slices_IndexFunc__asm_entry_asm_entry [a0, a1] h fun t7 h0 =>
  qBin .geq t7 (I 0) fun t8 =>
  Q t8 h0
theorem slices_ContainsFunc__asm_entry_asm_entry_ok (a0 a1 : AV) (h : AHeap) (Q : QT) (k : slices_ContainsFunc__asm_entry_asm_entry a0 a1 h Q) : C fn_slices_ContainsFunc__asm_entry_asm_entry [a0, a1] h Q :=
  okF (pl := []) Tryz.func115 Tryz.ntmps115 (by kernel_rfl) (by kernel_rfl) rfl (by kernel_rfl) k
def slices_Contains__int_int (a0 a1 : AV) (h : AHeap) (Q : QT) : Prop :=
  C fn_slices_Index__int_int [a0, a1] h fun t7 h0 =>
  qBin .geq t7 (I 0) fun t8 =>
  Q t8 h0
theorem slices_Contains__int_int_ok (a0 a1 : AV) (h : AHeap) (Q : QT) (k : slices_Contains__int_int a0 a1 h Q) : C fn_slices_Contains__int_int [a0, a1] h Q :=
  okF (pl := []) Tryz.func47 Tryz.ntmps47 (by kernel_rfl) (by kernel_rfl) rfl (by kernel_rfl) k
def slices_Contains__string_string (a0 a1 : AV) (h : AHeap) (Q : QT) : Prop :=
  C fn_slices_Index__string_string [a0, a1] h fun t7 h0 =>
  qBin .geq t7 (I 0) fun t8 =>
  Q t8 h0
theorem slices_Contains__string_string_ok (a0 a1 : AV) (h : AHeap) (Q : QT) (k : slices_Contains__string_string a0 a1 h Q) : C fn_slices_Contains__string_string [a0, a1] h Q :=
  okF (pl := []) Tryz.func67 Tryz.ntmps67 (by kernel_rfl) (by kernel_rfl) rfl (by kernel_rfl) k
def slices_IndexFunc__api_Expr_api_Expr_l2 (s7 s0 s1 : AV) (Q : QT) (vs0 : List AV) (h : AHeap) (next0 : NT) : Prop :=
  qBin .lss (nthA vs0 1) s7 fun t9 =>
  ifB t9 (
  qIndexAddr 4 s0 (nthA vs0 1) fun t14 =>
  qLoadA 4 t14 h fun t15 =>
  CV s1 [t15] h fun t16 h1 =>
  ifB t16 (
  Q (nthA vs0 1) h1) (
  qBin .add (nthA vs0 1) (I 1) fun t18 =>
  next0 [(nthA vs0 0), t18] h1)) (
  Q (I (-1)) h)
def slices_IndexFunc__api_Expr_api_Expr (a0 a1 : AV) (h : AHeap) (Q : QT) : Prop :=
  qLenL a0 fun t7 =>
  Loop [(I 0), (I 0)] h fun vs0 h next0 => slices_IndexFunc__api_Expr_api_Expr_l2 t7 a0 a1 Q vs0 h next0
theorem slices_IndexFunc__api_Expr_api_Expr_ok (a0 a1 : AV) (h : AHeap) (Q : QT) (k : slices_IndexFunc__api_Expr_api_Expr a0 a1 h Q) : C fn_slices_IndexFunc__api_Expr_api_Expr [a0, a1] h Q :=
  okF (pl := [(3, [4, 5, 8, 9, 10, 11, 12, 13, 14, 15, 16, 17, 18], [4, 8])]) Tryz.func113 Tryz.ntmps113 (by kernel_rfl) (by kernel_rfl) rfl (by kernel_rfl) k
def slices_IndexFunc__api_Sym_api_Sym_l2 (s7 s0 s1 : AV) (Q : QT) (vs0 : List AV) (h : AHeap) (next0 : NT) : Prop :=
  qBin .lss (nthA vs0 1) s7 fun t9 =>
  ifB t9 (
  qIndexAddr 2 s0 (nthA vs0 1) fun t14 =>
  qLoadA 2 t14 h fun t15 =>
  CV s1 [t15] h fun t16 h1 =>
  ifB t16 (
  Q (nthA vs0 1) h1) (
  qBin .add (nthA vs0 1) (I 1) fun t18 =>
  next0 [(nthA vs0 0), t18] h1)) (
  Q (I (-1)) h)
def slices_IndexFunc__api_Sym_api_Sym (a0 a1 : AV) (h : AHeap) (Q : QT) : Prop :=
  qLenL a0 fun t7 =>
  Loop [(I 0), (I 0)] h fun vs0 h next0 => slices_IndexFunc__api_Sym_api_Sym_l2 t7 a0 a1 Q vs0 h next0
theorem slices_IndexFunc__api_Sym_api_Sym_ok (a0 a1 : AV) (h : AHeap) (Q : QT) (k : slices_IndexFunc__api_Sym_api_Sym a0 a1 h Q) : C fn_slices_IndexFunc__api_Sym_api_Sym [a0, a1] h Q :=
  okF (pl := [(3, [4, 5, 8, 9, 10, 11, 12, 13, 14, 15, 16, 17, 18], [4, 8])]) Tryz.func110 Tryz.ntmps110 (by kernel_rfl) (by kernel_rfl) rfl (by kernel_rfl) k
def slices_IndexFunc__asm_entry_asm_entry_l2 (s7 s0 s1 : AV) (Q : QT) (vs0 : List AV) (h : AHeap) (next0 : NT) : Prop :=
  qBin .lss (nthA vs0 1) s7 fun t9 =>
  ifB t9 (
  qIndexAddr 1 s0 (nthA vs0 1) fun t14 =>
  qLoad1 t14 h fun t15 =>
  CV s1 [t15] h fun t16 h1 =>
  ifB t16 (
  Q (nthA vs0 1) h1) (
  qBin .add (nthA vs0 1) (I 1) fun t18 =>
  next0 [(nthA vs0 0), t18] h1)) (
  Q (I (-1)) h)
def slices_IndexFunc__asm_entry_asm_entry (a0 a1 : AV) (h : AHeap) (Q : QT) : Prop :=
  qLenL a0 fun t7 =>
  Loop [(I 0), (I 0)] h fun vs0 h next0 => slices_IndexFunc__asm_entry_asm_entry_l2 t7 a0 a1 Q vs0 h next0
theorem slices_IndexFunc__asm_entry_asm_entry_ok (a0 a1 : AV) (h : AHeap) (Q : QT) (k : slices_IndexFunc__asm_entry_asm_entry a0 a1 h Q) : C fn_slices_IndexFunc__asm_entry_asm_entry [a0, a1] h Q :=
  okF (pl := [(3, [4, 5, 8, 9, 10, 11, 12, 13, 14, 15, 16, 17, 18], [4, 8])]) Tryz.func149 Tryz.ntmps149 (by kernel_rfl) (by kernel_rfl) rfl (by kernel_rfl) k
def slices_IndexFunc__isa_row_isa_row_l2 (s7 s0 s1 : AV) (Q : QT) (vs0 : List AV) (h : AHeap) (next0 : NT) : Prop :=
  qBin .lss (nthA vs0 1) s7 fun t9 =>
  ifB t9 (
  qIndexAddr 3 s0 (nthA vs0 1) fun t14 =>
  qLoadA 3 t14 h fun t15 =>
  CV s1 [t15] h fun t16 h1 =>
  ifB t16 (
  Q (nthA vs0 1) h1) (
  qBin .add (nthA vs0 1) (I 1) fun t18 =>
  next0 [(nthA vs0 0), t18] h1)) (
  Q (I (-1)) h)
def slices_IndexFunc__isa_row_isa_row (a0 a1 : AV) (h : AHeap) (Q : QT) : Prop :=
  qLenL a0 fun t7 =>
  Loop [(I 0), (I 0)] h fun vs0 h next0 => slices_IndexFunc__isa_row_isa_row_l2 t7 a0 a1 Q vs0 h next0
theorem slices_IndexFunc__isa_row_isa_row_ok (a0 a1 : AV) (h : AHeap) (Q : QT) (k : slices_IndexFunc__isa_row_isa_row a0 a1 h Q) : C fn_slices_IndexFunc__isa_row_isa_row [a0, a1] h Q :=
  okF (pl := [(3, [4, 5, 8, 9, 10, 11, 12, 13, 14, 15, 16, 17, 18], [4, 8])]) Tryz.func164 Tryz.ntmps164 (by kernel_rfl) (by kernel_rfl) rfl (by kernel_rfl) k
def slices_Index__int_int_l1 (s7 s0 s1 : AV) (Q : QT) (vs0 : List AV) (h : AHeap) (next0 : NT) : Prop :=
  qBin .lss (nthA vs0 1) s7 fun t9 =>
  ifB t9 (
  qIndexAddr 1 s0 (nthA vs0 1) fun t14 =>
  qLoad1 t14 h fun t15 =>
  qBin .eql s1 t15 fun t16 =>
  ifB t16 (
  Q (nthA vs0 1) h) (
  qBin .add (nthA vs0 1) (I 1) fun t18 =>
  next0 [(nthA vs0 0), t18] h)) (
  Q (I (-1)) h)
def slices_Index__int_int (a0 a1 : AV) (h : AHeap) (Q : QT) : Prop :=
  qLenL a0 fun t7 =>
  Loop [(I 0), (I 0)] h fun vs0 h next0 => slices_Index__int_int_l1 t7 a0 a1 Q vs0 h next0
theorem slices_Index__int_int_ok (a0 a1 : AV) (h : AHeap) (Q : QT) (k : slices_Index__int_int a0 a1 h Q) : C fn_slices_Index__int_int [a0, a1] h Q :=
  okF (pl := [(3, [4, 5, 8, 9, 10, 11, 12, 13, 14, 15, 16, 17, 18], [4, 8])]) Tryz.func74 Tryz.ntmps74 (by kernel_rfl) (by kernel_rfl) rfl (by kernel_rfl) k
def slices_Index__string_string_l1 (s7 s0 s1 : AV) (Q : QT) (vs0 : List AV) (h : AHeap) (next0 : NT) : Prop :=
  qBin .lss (nthA vs0 1) s7 fun t9 =>
  ifB t9 (
  qIndexAddr 1 s0 (nthA vs0 1) fun t14 =>
  qLoad1 t14 h fun t15 =>
  qBin .eql s1 t15 fun t16 =>
  ifB t16 (
  Q (nthA vs0 1) h) (
  qBin .add (nthA vs0 1) (I 1) fun t18 =>
  next0 [(nthA vs0 0), t18] h)) (
  Q (I (-1)) h)
def slices_Index__string_string (a0 a1 : AV) (h : AHeap) (Q : QT) : Prop :=
  qLenL a0 fun t7 =>
  Loop [(I 0), (I 0)] h fun vs0 h next0 => slices_Index__string_string_l1 t7 a0 a1 Q vs0 h next0
theorem slices_Index__string_string_ok (a0 a1 : AV) (h : AHeap) (Q : QT) (k : slices_Index__string_string a0 a1 h Q) : C fn_slices_Index__string_string [a0, a1] h Q :=
  okF (pl := [(3, [4, 5, 8, 9, 10, 11, 12, 13, 14, 15, 16, 17, 18], [4, 8])]) Tryz.func97 Tryz.ntmps97 (by kernel_rfl) (by kernel_rfl) rfl (by kernel_rfl) k
def slices_Max__int_int_l1 (s0 : AV) (Q : QT) (vs0 : List AV) (h : AHeap) (next0 : NT) : Prop :=
  qLenL s0 fun t14 =>
  qBin .lss (nthA vs0 1) t14 fun t15 =>
  ifB t15 (
  qIndexAddr 1 s0 (nthA vs0 1) fun t21 =>
  qLoad1 t21 h fun t22 =>
  qMax (nthA vs0 0) t22 fun t23 =>
  qBin .add (nthA vs0 1) (I 1) fun t17 =>
  next0 [t23, t17] h) (
  Q (nthA vs0 0) h)
def slices_Max__int_int_j2 (s0 : AV) (h : AHeap) (Q : QT) : Prop :=
  qIndexAddr 1 s0 (I 0) fun t10 =>
  qLoad1 t10 h fun t11 =>
  Loop [t11, (I 1)] h fun vs0 h next0 => slices_Max__int_int_l1 s0 Q vs0 h next0
def slices_Max__int_int (a0 : AV) (h : AHeap) (Q : QT) : Prop :=
  qLenL a0 fun t6 =>
  qBin .lss t6 (I 1) fun t7 =>
  ifB t7 (
  qIface 9 (S ⟨#[115, 108, 105, 99, 101, 115, 46, 77, 97, 120, 58, 32, 101, 109, 112, 116, 121, 32, 108, 105, 115, 116]⟩) fun t8 =>
  False) (
  slices_Max__int_int_j2 a0 h Q)
theorem slices_Max__int_int_ok (a0 : AV) (h : AHeap) (Q : QT) (k : slices_Max__int_int a0 h Q) : C fn_slices_Max__int_int [a0] h Q :=
  okF (pl := [(6, [3, 4, 12, 13, 14, 15, 16, 17, 18, 19, 20, 21, 22, 23], [3, 4])]) Tryz.func81 Tryz.ntmps81 (by kernel_rfl) (by kernel_rfl) rfl (by kernel_rfl) k
def slices_Min__int_int_l1 (s0 : AV) (Q : QT) (vs0 : List AV) (h : AHeap) (next0 : NT) : Prop :=
  qLenL s0 fun t14 =>
  qBin .lss (nthA vs0 1) t14 fun t15 =>
  ifB t15 (
  qIndexAddr 1 s0 (nthA vs0 1) fun t21 =>
  qLoad1 t21 h fun t22 =>
  qMin (nthA vs0 0) t22 fun t23 =>
  qBin .add (nthA vs0 1) (I 1) fun t17 =>
  next0 [t23, t17] h) (
  Q (nthA vs0 0) h)
def slices_Min__int_int_j2 (s0 : AV) (h : AHeap) (Q : QT) : Prop :=
  qIndexAddr 1 s0 (I 0) fun t10 =>
  qLoad1 t10 h fun t11 =>
  Loop [t11, (I 1)] h fun vs0 h next0 => slices_Min__int_int_l1 s0 Q vs0 h next0
def slices_Min__int_int (a0 : AV) (h : AHeap) (Q : QT) : Prop :=
  qLenL a0 fun t6 =>
  qBin .lss t6 (I 1) fun t7 =>
  ifB t7 (
  qIface 9 (S ⟨#[115, 108, 105, 99, 101, 115, 46, 77, 105, 110, 58, 32, 101, 109, 112, 116, 121, 32, 108, 105, 115, 116]⟩) fun t8 =>
  False) (
  slices_Min__int_int_j2 a0 h Q)
theorem slices_Min__int_int_ok (a0 : AV) (h : AHeap) (Q : QT) (k : slices_Min__int_int a0 h Q) : C fn_slices_Min__int_int [a0] h Q :=
  okF (pl := [(6, [3, 4, 12, 13, 14, 15, 16, 17, 18, 19, 20, 21, 22, 23], [3, 4])]) Tryz.func80 Tryz.ntmps80 (by kernel_rfl) (by kernel_rfl) rfl (by kernel_rfl) k
def strings_Contains (a0 a1 : AV) (h : AHeap) (Q : QT) : Prop :=
  C fn_strings_Index [a0, a1] h fun t7 h0 =>
  qBin .geq t7 (I 0) fun t8 =>
  Q t8 h0
theorem strings_Contains_ok (a0 a1 : AV) (h : AHeap) (Q : QT) (k : strings_Contains a0 a1 h Q) : C fn_strings_Contains [a0, a1] h Q :=
  okF (pl := []) Tryz.func166 Tryz.ntmps166 (by kernel_rfl) (by kernel_rfl) rfl (by kernel_rfl) k
def strings_Count_l3 (s1 : AV) (Q : QT) (vs1 : List AV) (h : AHeap) (next1 : NT) : Prop :=
  C fn_strings_Index [(nthA vs1 0), s1] h fun t22 h2 =>
  qBin .eql t22 (I (-1)) fun t24 =>
  ifB t24 (
  Q (nthA vs1 2) h2) (
  qBin .add (nthA vs1 2) (I 1) fun t27 =>
  qLenS s1 fun t31 =>
  qBin .add t22 t31 fun t32 =>
  qSliceS (nthA vs1 0) (some t32) none fun t33 =>
  next1 [t33, (nthA vs1 1), t27] h2)
def strings_Count (a0 a1 : AV) (h : AHeap) (Q : QT) : Prop :=
  qLenS a1 fun t8 =>
  qBin .eql t8 (I 0) fun t9 =>
  ifB t9 (
  C fn_unicode_utf8_RuneCountInString [a0] h fun t11 h0 =>
  qBin .add t11 (I 1) fun t12 =>
  Q t12 h0) (
  qLenS a1 fun t14 =>
  qBin .eql t14 (I 1) fun t15 =>
  ifB t15 (
  qIndexS a1 (I 0) fun t18 =>
  qExt .count [a0, t18] fun t19 =>
  Q t19 h) (
  Loop [a0, (I 0), (I 0)] h fun vs1 h next1 => strings_Count_l3 a1 Q vs1 h next1))
theorem strings_Count_ok (a0 a1 : AV) (h : AHeap) (Q : QT) (k : strings_Count a0 a1 h Q) : C fn_strings_Count [a0, a1] h Q :=
  okF (pl := [(7, [0, 4, 5, 6, 20, 21, 22, 23, 24, 25, 26, 27, 28, 29, 30, 31, 32, 33], [0, 4, 5])]) Tryz.func128 Tryz.ntmps128 (by kernel_rfl) (by kernel_rfl) rfl (by kernel_rfl) k
def strings_HasPrefix (a0 a1 : AV) (h : AHeap) (Q : QT) : Prop :=
  C fn_stringslite_HasPrefix [a0, a1] h fun t7 h0 =>
  Q t7 h0
theorem strings_HasPrefix_ok (a0 a1 : AV) (h : AHeap) (Q : QT) (k : strings_HasPrefix a0 a1 h Q) : C fn_strings_HasPrefix [a0, a1] h Q :=
  okF (pl := []) Tryz.func204 Tryz.ntmps204 (by kernel_rfl) (by kernel_rfl) rfl (by kernel_rfl) k
def strings_IndexByte (a0 a1 : AV) (h : AHeap) (Q : QT) : Prop :=
  C fn_stringslite_IndexByte [a0, a1] h fun t7 h0 =>
  Q t7 h0
theorem strings_IndexByte_ok (a0 a1 : AV) (h : AHeap) (Q : QT) (k : strings_IndexByte a0 a1 h Q) : C fn_strings_IndexByte [a0, a1] h Q :=
  okF (pl := []) Tryz.func99 Tryz.ntmps99 (by kernel_rfl) (by kernel_rfl) rfl (by kernel_rfl) k
def strings_Split (a0 a1 : AV) (h : AHeap) (Q : QT) : Prop :=
  C fn_strings_genSplit [a0, a1, (I 0), (I (-1))] h fun t7 h0 =>
  Q t7 h0
theorem strings_Split_ok (a0 a1 : AV) (h : AHeap) (Q : QT) (k : strings_Split a0 a1 h Q) : C fn_strings_Split [a0, a1] h Q :=
  okF (pl := []) Tryz.func69 Tryz.ntmps69 (by kernel_rfl) (by kernel_rfl) rfl (by kernel_rfl) k
def strings_Trim (a0 a1 : AV) (h : AHeap) (Q : QT) : Prop :=
  qBin .eql a0 (S ⟨#[]⟩) fun t8 =>
  ifB t8 (Q a0 h) (
  qBin .eql a1 (S ⟨#[]⟩) fun t11 =>
  ifB t11 (
  Q a0 h) (
  qLenS a1 fun t15 =>
  qBin .eql t15 (I 1) fun t16 =>
  ifB t16 (qIndexS a1 (I 0) fun t19 =>
  qBin .lss t19 (.lit (.int .u8 128)) fun t20 =>
  ifB t20 (
  qIndexS a1 (I 0) fun t24 =>
  qIndexS a1 (I 0) fun t27 =>
  C fn_strings_trimRightByte [a0, t24] h fun t25 h0 =>
  C fn_strings_trimLeftByte [t25, t27] h0 fun t28 h1 =>
  Q t28 h1) (
  C fn_strings_makeASCIISet [a1] h fun t31 h2 =>
  qExtract 0 t31 fun t32 =>
  qExtract 1 t31 fun t33 =>
  qNew (List.replicate 256 (B false)) h2 fun t5 h3 =>
  qStore 256 t5 t32 h3 fun h4 =>
  ifB t33 (
  C fn_strings_trimRightASCII [a0, t5] h4 fun t36 h5 =>
  C fn_strings_trimLeftASCII [t36, t5] h5 fun t37 h6 =>
  Q t37 h6) (
  C fn_strings_trimRightUnicode [a0, a1] h4 fun t40 h7 =>
  C fn_strings_trimLeftUnicode [t40, a1] h7 fun t42 h8 =>
  Q t42 h8))) (
  C fn_strings_makeASCIISet [a1] h fun t31 h9 =>
  qExtract 0 t31 fun t32 =>
  qExtract 1 t31 fun t33 =>
  qNew (List.replicate 256 (B false)) h9 fun t5 h10 =>
  qStore 256 t5 t32 h10 fun h11 =>
  ifB t33 (
  C fn_strings_trimRightASCII [a0, t5] h11 fun t36 h12 =>
  C fn_strings_trimLeftASCII [t36, t5] h12 fun t37 h13 =>
  Q t37 h13) (
  C fn_strings_trimRightUnicode [a0, a1] h11 fun t40 h14 =>
  C fn_strings_trimLeftUnicode [t40, a1] h14 fun t42 h15 =>
  Q t42 h15))))
theorem strings_Trim_ok (a0 a1 : AV) (h : AHeap) (Q : QT) (k : strings_Trim a0 a1 h Q) : C fn_strings_Trim [a0, a1] h Q :=
  okF (pl := [(1000004, [0, 1, 2, 4, 5, 3, 6, 7], [])]) Tryz.func104 Tryz.ntmps104 (by kernel_rfl) (by kernel_rfl) rfl (by kernel_rfl) k
def strings_TrimLeft (a0 a1 : AV) (h : AHeap) (Q : QT) : Prop :=
  qBin .eql a0 (S ⟨#[]⟩) fun t8 =>
  ifB t8 (Q a0 h) (
  qBin .eql a1 (S ⟨#[]⟩) fun t11 =>
  ifB t11 (
  Q a0 h) (
  qLenS a1 fun t15 =>
  qBin .eql t15 (I 1) fun t16 =>
  ifB t16 (qIndexS a1 (I 0) fun t19 =>
  qBin .lss t19 (.lit (.int .u8 128)) fun t20 =>
  ifB t20 (
  qIndexS a1 (I 0) fun t24 =>
  C fn_strings_trimLeftByte [a0, t24] h fun t25 h0 =>
  Q t25 h0) (
  C fn_strings_makeASCIISet [a1] h fun t28 h1 =>
  qExtract 0 t28 fun t29 =>
  qExtract 1 t28 fun t30 =>
  qNew (List.replicate 256 (B false)) h1 fun t5 h2 =>
  qStore 256 t5 t29 h2 fun h3 =>
  ifB t30 (
  C fn_strings_trimLeftASCII [a0, t5] h3 fun t33 h4 =>
  Q t33 h4) (
  C fn_strings_trimLeftUnicode [a0, a1] h3 fun t36 h5 =>
  Q t36 h5))) (
  C fn_strings_makeASCIISet [a1] h fun t28 h6 =>
  qExtract 0 t28 fun t29 =>
  qExtract 1 t28 fun t30 =>
  qNew (List.replicate 256 (B false)) h6 fun t5 h7 =>
  qStore 256 t5 t29 h7 fun h8 =>
  ifB t30 (
  C fn_strings_trimLeftASCII [a0, t5] h8 fun t33 h9 =>
  Q t33 h9) (
  C fn_strings_trimLeftUnicode [a0, a1] h8 fun t36 h10 =>
  Q t36 h10))))
theorem strings_TrimLeft_ok (a0 a1 : AV) (h : AHeap) (Q : QT) (k : strings_TrimLeft a0 a1 h Q) : C fn_strings_TrimLeft [a0, a1] h Q :=
  okF (pl := []) Tryz.func196 Tryz.ntmps196 (by kernel_rfl) (by kernel_rfl) rfl (by kernel_rfl) k
def strings_asciiSet_contains (a0 a1 : AV) (h : AHeap) (Q : QT) : Prop :=
  qNil a0 fun t7 =>
  qIndexAddrA 256 1 t7 a1 fun t8 =>
  qLoad1 t8 h fun t9 =>
  Q t9 h
theorem strings_asciiSet_contains_ok (a0 a1 : AV) (h : AHeap) (Q : QT) (k : strings_asciiSet_contains a0 a1 h Q) : C fn_strings_asciiSet_contains [a0, a1] h Q :=
  okF (pl := []) Tryz.func161 Tryz.ntmps161 (by kernel_rfl) (by kernel_rfl) rfl (by kernel_rfl) k
def strings_genSplit_j6 (s0 s10 s9 : AV) (h : AHeap) (Q : QT) : Prop :=
  qIndexAddr 1 s9 s10 fun t61 =>
  qStore 1 t61 s0 h fun h5 =>
  qBin .add s10 (I 1) fun t64 =>
  qSliceL 1 s9 none (some t64) fun t65 =>
  Q t65 h5
def strings_genSplit_b7 (s0 s10 s9 : AV) (h : AHeap) (Q : QT) : Prop :=
  strings_genSplit_j6 s0 s10 s9 h Q
def strings_genSplit_l9 (s3 s9 s1 s2 : AV) (Q : QT) (vs3 : List AV) (h : AHeap) (next3 : NT) : Prop :=
  qBin .lss (nthA vs3 1) s3 fun t36 =>
  ifB t36 (
  C fn_strings_Index [(nthA vs3 0), s1] h fun t39 h4 =>
  qBin .lss t39 (I 0) fun t41 =>
  ifB t41 (
  strings_genSplit_b7 (nthA vs3 0) (nthA vs3 1) s9 h4 Q) (
  qBin .add t39 s2 fun t47 =>
  qSliceS (nthA vs3 0) none (some t47) fun t48 =>
  qIndexAddr 1 s9 (nthA vs3 1) fun t49 =>
  qStore 1 t49 t48 h4 fun h8 =>
  qLenS s1 fun t53 =>
  qBin .add t39 t53 fun t54 =>
  qSliceS (nthA vs3 0) (some t54) none fun t55 =>
  qBin .add (nthA vs3 1) (I 1) fun t57 =>
  next3 [t55, t57] h8)) (
  strings_genSplit_b7 (nthA vs3 0) (nthA vs3 1) s9 h Q)
def strings_genSplit_j10 (s3 s0 s1 s2 : AV) (h : AHeap) (Q : QT) : Prop :=
  qLenS s0 fun t27 =>
  qBin .add t27 (I 1) fun t28 =>
  qMin s3 t28 fun t29 =>
  qMakeSlice 16 (S ⟨#[]⟩) t29 t29 h fun t31 h2 =>
  qBin .sub t29 (I 1) fun t33 =>
  Loop [s0, (I 0)] h2 fun vs3 h next3 => strings_genSplit_l9 t33 t31 s1 s2 Q vs3 h next3
def strings_genSplit (a0 a1 a2 a3 : AV) (h : AHeap) (Q : QT) : Prop :=
  qBin .eql a3 (I 0) fun t13 =>
  ifB t13 (
  Q (.full 0 []) h) (
  qBin .eql a1 (S ⟨#[]⟩) fun t15 =>
  ifB t15 (
  C fn_strings_explode [a0, a3] h fun t18 h0 =>
  Q t18 h0) (
  qBin .lss a3 (I 0) fun t20 =>
  ifB t20 (
  C fn_strings_Count [a0, a1] h fun t23 h1 =>
  qBin .add t23 (I 1) fun t24 =>
  strings_genSplit_j10 t24 a0 a1 a2 h1 Q) (
  strings_genSplit_j10 a3 a0 a1 a2 h Q)))
theorem strings_genSplit_ok (a0 a1 a2 a3 : AV) (h : AHeap) (Q : QT) (k : strings_genSplit a0 a1 a2 a3 h Q) : C fn_strings_genSplit [a0, a1, a2, a3] h Q :=
  okF (pl := [(12, [0, 10, 11, 34, 35, 36, 37, 38, 39, 40, 41, 42, 43, 44, 45, 46, 47, 48, 49, 50, 51, 52, 53, 54, 55, 56, 57], [0, 10])]) Tryz.func98 Tryz.ntmps98 (by kernel_rfl) (by kernel_rfl) rfl (by kernel_rfl) k
def strings_makeASCIISet_l7 (s2 s0 : AV) (Q : QT) (vs1 : List AV) (h : AHeap) (next1 : NT) : Prop :=
  qLenS s0 fun t8 =>
  qBin .lss (nthA vs1 1) t8 fun t9 =>
  ifB t9 (
  qIndexS s0 (nthA vs1 1) fun t14 =>
  qBin .geq t14 (.lit (.int .u8 128)) fun t16 =>
  ifB t16 (
  qLoadA 256 s2 h fun t17 =>
  qStore 256 s2 t17 h fun h2 =>
  qLoadA 256 s2 h2 fun r3 =>
  Q (.tup [r3, (B false)]) h2) (
  qIndexAddrA 256 1 s2 t14 fun t19 =>
  qStore 1 t19 (B true) h fun h4 =>
  qBin .add (nthA vs1 1) (I 1) fun t11 =>
  next1 [(nthA vs1 0), t11] h4)) (
  qLoadA 256 s2 h fun t20 =>
  qStore 256 s2 t20 h fun h5 =>
  qLoadA 256 s2 h5 fun r6 =>
  Q (.tup [r6, (B true)]) h5)
def strings_makeASCIISet (a0 : AV) (h : AHeap) (Q : QT) : Prop :=
  qNew (List.replicate 256 (B false)) h fun t2 h0 =>
  Loop [(B false), (I 0)] h0 fun vs1 h next1 => strings_makeASCIISet_l7 t2 a0 Q vs1 h next1
theorem strings_makeASCIISet_ok (a0 : AV) (h : AHeap) (Q : QT) (k : strings_makeASCIISet a0 h Q) : C fn_strings_makeASCIISet [a0] h Q :=
  okF (pl := [(3, [3, 4, 5, 6, 7, 8, 9, 10, 11, 12, 13, 14, 15, 16, 17, 18, 19], [3, 4])]) Tryz.func134 Tryz.ntmps134 (by kernel_rfl) (by kernel_rfl) rfl (by kernel_rfl) k
def strings_trimLeftASCII_j2 (s0 : AV) (h : AHeap) (Q : QT) : Prop :=
  Q s0 h
def strings_trimLeftASCII_b3 (s0 : AV) (h : AHeap) (Q : QT) : Prop :=
  strings_trimLeftASCII_j2 s0 h Q
def strings_trimLeftASCII_l4 (s1 : AV) (Q : QT) (vs0 : List AV) (h : AHeap) (next0 : NT) : Prop :=
  qLenS (nthA vs0 0) fun t6 =>
  qBin .gtr t6 (I 0) fun t7 =>
  ifB t7 (
  qIndexS (nthA vs0 0) (I 0) fun t10 =>
  C fn_strings_asciiSet_contains [s1, t10] h fun t11 h1 =>
  qUn .not t11 fun t12 =>
  ifB t12 (
  strings_trimLeftASCII_b3 (nthA vs0 0) h1 Q) (
  qSliceS (nthA vs0 0) (some (I 1)) none fun t14 =>
  next0 [t14] h1)) (
  strings_trimLeftASCII_b3 (nthA vs0 0) h Q)
def strings_trimLeftASCII (a0 a1 : AV) (h : AHeap) (Q : QT) : Prop :=
  Loop [a0] h fun vs0 h next0 => strings_trimLeftASCII_l4 a1 Q vs0 h next0
theorem strings_trimLeftASCII_ok (a0 a1 : AV) (h : AHeap) (Q : QT) (k : strings_trimLeftASCII a0 a1 h Q) : C fn_strings_trimLeftASCII [a0, a1] h Q :=
  okF (pl := [(2, [0, 5, 6, 7, 8, 9, 10, 11, 12, 13, 14], [0])]) Tryz.func135 Tryz.ntmps135 (by kernel_rfl) (by kernel_rfl) rfl (by kernel_rfl) k
def strings_trimLeftByte_l1 (s1 : AV) (Q : QT) (vs0 : List AV) (h : AHeap) (next0 : NT) : Prop :=
  qLenS (nthA vs0 0) fun t6 =>
  qBin .gtr t6 (I 0) fun t7 =>
  ifB t7 (qIndexS (nthA vs0 0) (I 0) fun t10 =>
  qBin .eql t10 s1 fun t12 =>
  ifB t12 (
  qSliceS (nthA vs0 0) (some (I 1)) none fun t15 =>
  next0 [t15] h) (
  Q (nthA vs0 0) h)) (
  Q (nthA vs0 0) h)
def strings_trimLeftByte (a0 a1 : AV) (h : AHeap) (Q : QT) : Prop :=
  Loop [a0] h fun vs0 h next0 => strings_trimLeftByte_l1 a1 Q vs0 h next0
theorem strings_trimLeftByte_ok (a0 a1 : AV) (h : AHeap) (Q : QT) (k : strings_trimLeftByte a0 a1 h Q) : C fn_strings_trimLeftByte [a0, a1] h Q :=
  okF (pl := [(2, [0, 5, 6, 7, 8, 9, 10, 11, 12, 13, 14, 15], [0])]) Tryz.func132 Tryz.ntmps132 (by kernel_rfl) (by kernel_rfl) rfl (by kernel_rfl) k
def strings_trimRightASCII_j2 (s0 : AV) (h : AHeap) (Q : QT) : Prop :=
  Q s0 h
def strings_trimRightASCII_b3 (s0 : AV) (h : AHeap) (Q : QT) : Prop :=
  strings_trimRightASCII_j2 s0 h Q
def strings_trimRightASCII_l4 (s1 : AV) (Q : QT) (vs0 : List AV) (h : AHeap) (next0 : NT) : Prop :=
  qLenS (nthA vs0 0) fun t6 =>
  qBin .gtr t6 (I 0) fun t7 =>
  ifB t7 (
  qLenS (nthA vs0 0) fun t11 =>
  qBin .sub t11 (I 1) fun t12 =>
  qIndexS (nthA vs0 0) t12 fun t13 =>
  C fn_strings_asciiSet_contains [s1, t13] h fun t14 h1 =>
  qUn .not t14 fun t15 =>
  ifB t15 (
  strings_trimRightASCII_b3 (nthA vs0 0) h1 Q) (
  qLenS (nthA vs0 0) fun t18 =>
  qBin .sub t18 (I 1) fun t19 =>
  qSliceS (nthA vs0 0) none (some t19) fun t20 =>
  next0 [t20] h1)) (
  strings_trimRightASCII_b3 (nthA vs0 0) h Q)
def strings_trimRightASCII (a0 a1 : AV) (h : AHeap) (Q : QT) : Prop :=
  Loop [a0] h fun vs0 h next0 => strings_trimRightASCII_l4 a1 Q vs0 h next0
theorem strings_trimRightASCII_ok (a0 a1 : AV) (h : AHeap) (Q : QT) (k : strings_trimRightASCII a0 a1 h Q) : C fn_strings_trimRightASCII [a0, a1] h Q :=
  okF (pl := [(2, [0, 5, 6, 7, 8, 9, 10, 11, 12, 13, 14, 15, 16, 17, 18, 19, 20], [0])]) Tryz.func136 Tryz.ntmps136 (by kernel_rfl) (by kernel_rfl) rfl (by kernel_rfl) k
def stringslite_HasPrefix (a0 a1 : AV) (h : AHeap) (Q : QT) : Prop :=
  qLenS a0 fun t6 =>
  qLenS a1 fun t8 =>
  qBin .geq t6 t8 fun t9 =>
  ifB t9 (qLenS a1 fun t13 =>
  qSliceS a0 none (some t13) fun t14 =>
  qBin .eql t14 a1 fun t16 =>
  Q t16 h) (
  Q (B false) h)
theorem stringslite_HasPrefix_ok (a0 a1 : AV) (h : AHeap) (Q : QT) (k : stringslite_HasPrefix a0 a1 h Q) : C fn_stringslite_HasPrefix [a0, a1] h Q :=
  okF (pl := []) Tryz.func219 Tryz.ntmps219 (by kernel_rfl) (by kernel_rfl) rfl (by kernel_rfl) k
def stringslite_IndexByte (a0 a1 : AV) (h : AHeap) (Q : QT) : Prop :=
  qExt .index [a0, a1] fun t7 =>
  Q t7 h
theorem stringslite_IndexByte_ok (a0 a1 : AV) (h : AHeap) (Q : QT) (k : stringslite_IndexByte a0 a1 h Q) : C fn_stringslite_IndexByte [a0, a1] h Q :=
  okF (pl := []) Tryz.func130 Tryz.ntmps130 (by kernel_rfl) (by kernel_rfl) rfl (by kernel_rfl) k
end
end Go.Proofs.YtiddcelpooenfaaGreatDoor.AL
