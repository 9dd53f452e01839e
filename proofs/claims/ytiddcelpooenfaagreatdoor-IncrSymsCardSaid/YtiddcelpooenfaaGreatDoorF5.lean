import Derived.Test.YtiddcelpooenfaaGreatDoorF5A
set_option linter.all false
set_option autoImplicit true
set_option relaxedAutoImplicit true
set_option maxRecDepth 100000
namespace Go.Proofs.YtiddcelpooenfaaGreatDoor.AL
noncomputable section
open Go.Proofs
variable [Tabs]
def asm_Assemble_l6 (s27 s26 s6 : AV) (Q : QT) (vs2 : List AV) (h : AHeap) (next2 : NT) : Prop :=
  qBin .lss (nthA vs2 1) s27 fun t29 =>
  ifB t29 (
  qIndexAddr 1 s26 (nthA vs2 1) fun t30 =>
  qLoad1 t30 h fun t31 =>
  C fn_asm_source_bytes [s6, t31] h fun t35 h3 =>
  qAppend 1 1 (nthA vs2 0) t35 h3 fun t36 h4 =>
  qBin .add (nthA vs2 1) (I 1) fun t37 =>
  next2 [t36, t37] h4) (
  C fn_slices_Clone__byte_byte [(nthA vs2 0)] h fun t39 h5 =>
  Q (.tup [t39, (.full 0 [])]) h5)
def asm_Assemble (a0 a1 : AV) (h : AHeap) (Q : QT) : Prop :=
  C fn_asm_made [a0, a1] h fun t11 h0 =>
  qNil t11 fun t13 =>
  qFieldAddr 3 t13 fun t14 =>
  qLoad1 t14 h0 fun t15 =>
  qLenL t15 fun t16 =>
  qBin .gtr t16 (I 0) fun t17 =>
  ifB t17 (
  qNil t11 fun t19 =>
  qFieldAddr 3 t19 fun t20 =>
  qLoad1 t20 h0 fun t21 =>
  C fn_slices_Clone__api_Diag_api_Diag [t21] h0 fun t22 h1 =>
  Q (.tup [(.full 0 []), t22]) h1) (
  qNil t11 fun t24 =>
  qFieldAddr 0 t24 fun t25 =>
  qLoad1 t25 h0 fun t26 =>
  qLenL t26 fun t27 =>
  Loop [(.full 0 []), (I 0)] h0 fun vs2 h next2 => asm_Assemble_l6 t27 t26 t11 Q vs2 h next2)
theorem asm_Assemble_ok (a0 a1 : AV) (h : AHeap) (Q : QT) (k : asm_Assemble a0 a1 h Q) : C fn_asm_Assemble [a0, a1] h Q :=
  okF (pl := [(6, [4, 8, 28, 29, 30, 31, 32, 33, 34, 35, 36, 37], [4, 28])]) Tryz.func8 Tryz.ntmps8 (by kernel_rfl) (by kernel_rfl) rfl (by kernel_rfl) k
def asm_entry_full_j9 (s8 s16 s5 : AV) (h : AHeap) (next6 : NT) : Prop :=
  qFieldAddr 1 s5 fun t34 =>
  qLoad1 t34 h fun t35 =>
  qBuildSlice 1 1 [s8] fun t37 =>
  qAppend 1 8 t35 t37 h fun t38 h7 =>
  qFieldAddr 1 s5 fun t39 =>
  qStore 1 t39 t38 h7 fun h8 =>
  qBin .add s16 (I 1) fun t40 =>
  next6 [t40] h8
def asm_entry_full_l12 (s15 s14 s5 s4 s0 s1 : AV) (Q : QT) (vs6 : List AV) (h : AHeap) (next6 : NT) : Prop :=
  qBin .lss (nthA vs6 0) s15 fun t17 =>
  ifB t17 (
  qIndexAddr 1 s14 (nthA vs6 0) fun t19 =>
  qLoad1 t19 h fun t20 =>
  qIndexAddr 1 s1 (nthA vs6 0) fun t23 =>
  qLoad1 t23 h fun t24 =>
  qIndexS t20 (I 0) fun t26 =>
  qBin .eql t26 (.lit (.int .u8 84)) fun t27 =>
  ifB t27 (
  qNil s0 fun t30 =>
  qFieldAddr 7 t30 fun t31 =>
  qLoad1 t31 h fun t32 =>
  qBin .sub t24 t32 fun t33 =>
  asm_entry_full_j9 t33 (nthA vs6 0) s5 h next6) (
  asm_entry_full_j9 t24 (nthA vs6 0) s5 h next6)) (
  qLoadA 2 s5 h fun t41 =>
  qStore 2 s4 t41 h fun h10 =>
  qLoadA 2 s4 h10 fun r11 =>
  Q r11 h10)
def asm_entry_full (a0 a1 : AV) (h : AHeap) (Q : QT) : Prop :=
  qNew [(I 0), (.full 0 [])] h fun t4 h0 =>
  C fn_asm_entry_inst [a0] h0 fun t10 h1 =>
  qNew [(I 0), (.full 0 [])] h1 fun t5 h2 =>
  qStore 2 t5 t10 h2 fun h3 =>
  qFieldAddr 0 t5 fun t11 =>
  qLoad1 t11 h3 fun t12 =>
  C fn_isa_Kinds [t12] h3 fun t13 h4 =>
  C fn_strings_Fields [t13] h4 fun t14 h5 =>
  qLenL t14 fun t15 =>
  Loop [(I 0)] h5 fun vs6 h next6 => asm_entry_full_l12 t15 t14 t5 t4 a0 a1 Q vs6 h next6
theorem asm_entry_full_ok (a0 a1 : AV) (h : AHeap) (Q : QT) (k : asm_entry_full a0 a1 h Q) : C fn_asm_entry_full [a0, a1] h Q :=
  okF (pl := [(4, [6, 7, 8, 16, 17, 18, 19, 20, 21, 22, 23, 24, 25, 26, 27, 28, 29, 30, 31, 32, 33, 34, 35, 36, 37, 38, 39, 40], [16])]) Tryz.func36 Tryz.ntmps36 (by kernel_rfl) (by kernel_rfl) rfl (by kernel_rfl) k
def asm_entry_inst (a0 : AV) (h : AHeap) (Q : QT) : Prop :=
  qNew [(I 0), (.full 0 [])] h fun t2 h0 =>
  qNil a0 fun t5 =>
  qFieldAddr 1 t5 fun t6 =>
  qFieldAddr 2 t6 fun t7 =>
  qLoad1 t7 h0 fun t8 =>
  qBin .eql t8 (I 1) fun t9 =>
  ifB t9 (
  qNil a0 fun t11 =>
  qFieldAddr 1 t11 fun t12 =>
  qFieldAddr 3 t12 fun t13 =>
  qLoad1 t13 h0 fun t14 =>
  qBuild [(I 0), (.full 0 [])] [(0, 1, t14)] fun t15 =>
  qStore 2 t2 t15 h0 fun h1 =>
  qLoadA 2 t2 h1 fun r2 =>
  Q r2 h1) (
  qNil a0 fun t18 =>
  qFieldAddr 8 t18 fun t19 =>
  qLoad1 t19 h0 fun t20 =>
  ifB t20 (
  qNil a0 fun t22 =>
  qFieldAddr 1 t22 fun t23 =>
  qFieldAddr 3 t23 fun t24 =>
  qLoad1 t24 h0 fun t25 =>
  C fn_asm_great [t25] h0 fun t26 h3 =>
  qBuild [(I 0), (.full 0 [])] [(0, 1, t26)] fun t27 =>
  qStore 2 t2 t27 h3 fun h4 =>
  qLoadA 2 t2 h4 fun r5 =>
  Q r5 h4) (
  qNil a0 fun t29 =>
  qFieldAddr 1 t29 fun t30 =>
  qFieldAddr 3 t30 fun t31 =>
  qLoad1 t31 h0 fun t32 =>
  C fn_asm_short [t32] h0 fun t33 h6 =>
  qBuild [(I 0), (.full 0 [])] [(0, 1, t33)] fun t34 =>
  qStore 2 t2 t34 h6 fun h7 =>
  qLoadA 2 t2 h7 fun r8 =>
  Q r8 h7))
theorem asm_entry_inst_ok (a0 : AV) (h : AHeap) (Q : QT) (k : asm_entry_inst a0 h Q) : C fn_asm_entry_inst [a0] h Q :=
  okF (pl := []) Tryz.func53 Tryz.ntmps53 (by kernel_rfl) (by kernel_rfl) rfl (by kernel_rfl) k
def asm_entry_last (a0 : AV) (h : AHeap) (Q : QT) : Prop :=
  qNew [(I 0), (I 0), (S ⟨#[]⟩), (.full 0 [])] h fun t2 h0 =>
  qNil a0 fun t4 =>
  qFieldAddr 1 t4 fun t5 =>
  qFieldAddr 5 t5 fun t6 =>
  qLoad1 t6 h0 fun t7 =>
  qNil a0 fun t9 =>
  qFieldAddr 1 t9 fun t10 =>
  qFieldAddr 5 t10 fun t11 =>
  qLoad1 t11 h0 fun t12 =>
  qLenL t12 fun t13 =>
  qBin .sub t13 (I 1) fun t14 =>
  qIndexAddr 5 t7 t14 fun t15 =>
  qFieldAddr 1 t15 fun t16 =>
  qLoadA 4 t16 h0 fun t17 =>
  qStore 4 t2 t17 h0 fun h1 =>
  qLoadA 4 t2 h1 fun r2 =>
  Q r2 h1
theorem asm_entry_last_ok (a0 : AV) (h : AHeap) (Q : QT) (k : asm_entry_last a0 h Q) : C fn_asm_entry_last [a0] h Q :=
  okF (pl := [(1000001, [0, 1, 2, 3, 4, 5, 6, 7, 8, 9, 10, 11, 12, 13, 14, 15], [])]) Tryz.func45 Tryz.ntmps45 (by kernel_rfl) (by kernel_rfl) rfl (by kernel_rfl) k
def asm_eval_j4 (s8 s16 : AV) (h : AHeap) (next2 : NT) : Prop :=
  qBin .add s16 (I 1) fun t33 =>
  next2 [s8, t33] h
def asm_eval_b5 (s8 s16 : AV) (h : AHeap) (next2 : NT) : Prop :=
  asm_eval_j4 s8 s16 h next2
def asm_eval_l7 (s15 s14 s3 s1 s2 : AV) (Q : QT) (vs2 : List AV) (h : AHeap) (next2 : NT) : Prop :=
  qBin .lss (nthA vs2 1) s15 fun t17 =>
  ifB t17 (
  qIndexAddr 1 s14 (nthA vs2 1) fun t18 =>
  qLoad1 t18 h fun t19 =>
  qLookup .string true (I 0) s2 t19 h fun t23 =>
  qExtract 0 t23 fun t24 =>
  qExtract 1 t23 fun t25 =>
  ifB t25 (
  qBuild [(S ⟨#[]⟩), (I 0)] [(0, 1, t19), (1, 1, t24)] fun t30 =>
  qBuildSlice 1 2 [t30] fun t31 =>
  qAppend 2 24 (nthA vs2 0) t31 h fun t32 h3 =>
  asm_eval_b5 t32 (nthA vs2 1) h3 next2) (
  asm_eval_b5 (nthA vs2 0) (nthA vs2 1) h next2)) (
  qLoadA 4 s3 h fun t34 =>
  C fn_expr_Eval [t34, s1, (nthA vs2 0)] h fun t37 h6 =>
  qExtract 0 t37 fun t38 =>
  qExtract 1 t37 fun t39 =>
  Q (.tup [t38, t39]) h6)
def asm_eval (a0 a1 a2 : AV) (h : AHeap) (Q : QT) : Prop :=
  qBox a0 h fun t3 h0 =>
  qLoadA 4 t3 h0 fun t13 =>
  C fn_expr_Names [t13] h0 fun t14 h1 =>
  qLenL t14 fun t15 =>
  Loop [(.full 0 []), (I 0)] h1 fun vs2 h next2 => asm_eval_l7 t15 t14 t3 a1 a2 Q vs2 h next2
theorem asm_eval_ok (a0 a1 a2 : AV) (h : AHeap) (Q : QT) (k : asm_eval a0 a1 a2 h Q) : C fn_asm_eval [a0, a1, a2] h Q :=
  okF (pl := [(4, [8, 10, 11, 12, 16, 17, 18, 19, 20, 21, 22, 23, 24, 25, 26, 27, 28, 29, 30, 31, 32, 33], [8, 16])]) Tryz.func44 Tryz.ntmps44 (by kernel_rfl) (by kernel_rfl) rfl (by kernel_rfl) k
def asm_great (a0 : AV) (h : AHeap) (Q : QT) : Prop :=
  qBuildSlice 3 1 [(S ⟨#[101, 95, 98]⟩), (S ⟨#[101, 95, 98, 108]⟩), (S ⟨#[101, 95, 98, 99]⟩)] fun t3 =>
  qIndexAddr 1 t3 a0 fun t5 =>
  qLoad1 t5 h fun t6 =>
  C fn_asm_op [t6] h fun t7 h0 =>
  Q t7 h0
theorem asm_great_ok (a0 : AV) (h : AHeap) (Q : QT) (k : asm_great a0 h Q) : C fn_asm_great [a0] h Q :=
  okF (pl := []) Tryz.func87 Tryz.ntmps87 (by kernel_rfl) (by kernel_rfl) rfl (by kernel_rfl) k
def asm_here (a0 : AV) (h : AHeap) (Q : QT) : Prop :=
  qBox a0 h fun t1 h0 =>
  qFieldAddr 0 t1 fun t3 =>
  qLoad1 t3 h0 fun t4 =>
  qBin .eql t4 (I 3) fun t5 =>
  ifB t5 (Q (B true) h0) (
  qFieldAddr 3 t1 fun t7 =>
  qLoad1 t7 h0 fun t8 =>
  C fn_slices_ContainsFunc__api_Expr_api_Expr [t8, (.fn (.func fn_asm_here) [] [])] h0 fun t9 h1 =>
  Q t9 h1)
theorem asm_here_ok (a0 : AV) (h : AHeap) (Q : QT) (k : asm_here a0 h Q) : C fn_asm_here [a0] h Q :=
  okF (pl := []) Tryz.func48 Tryz.ntmps48 (by kernel_rfl) (by kernel_rfl) rfl (by kernel_rfl) k
def asm_made_j2 (s5 : AV) (h : AHeap) (Q : QT) : Prop :=
  Q s5 h
def asm_made_b3 (s5 : AV) (h : AHeap) (Q : QT) : Prop :=
  asm_made_j2 s5 h Q
def asm_made_l5 (s20 s19 s5 : AV) (Q : QT) (vs1 : List AV) (h : AHeap) (next1 : NT) : Prop :=
  qBin .lss (nthA vs1 0) s20 fun t22 =>
  ifB t22 (
  qIndexAddr 1 s19 (nthA vs1 0) fun t23 =>
  qLoad1 t23 h fun t24 =>
  qNil s5 fun t26 =>
  qFieldAddr 3 t26 fun t27 =>
  qLoad1 t27 h fun t28 =>
  qLenL t28 fun t29 =>
  qBin .gtr t29 (I 0) fun t30 =>
  ifB t30 (
  asm_made_b3 s5 h Q) (
  CV t24 [] h fun t32 h4 =>
  qBin .add (nthA vs1 0) (I 1) fun t33 =>
  next1 [t33] h4)) (
  asm_made_b3 s5 h Q)
def asm_made (a0 a1 : AV) (h : AHeap) (Q : QT) : Prop :=
  C fn_asm_read [a0, a1] h fun t10 h0 =>
  qBuildSlice 4 1 [(.fn (.func fn_asm_source_twice) [t10] []), (.fn (.func fn_asm_source_sized) [t10] []), (.fn (.func fn_asm_source_places) [t10] []), (.fn (.func fn_asm_source_check) [t10] [])] fun t19 =>
  qLenL t19 fun t20 =>
  Loop [(I 0)] h0 fun vs1 h next1 => asm_made_l5 t20 t19 t10 Q vs1 h next1
theorem asm_made_ok (a0 a1 : AV) (h : AHeap) (Q : QT) (k : asm_made a0 a1 h Q) : C fn_asm_made [a0, a1] h Q :=
  okF (pl := [(4, [7, 21, 22, 23, 24, 25, 26, 27, 28, 29, 30, 31, 32, 33], [21])]) Tryz.func16 Tryz.ntmps16 (by kernel_rfl) (by kernel_rfl) rfl (by kernel_rfl) k
def asm_op (a0 : AV) (h : AHeap) (Q : QT) : Prop :=
  C fn_isa_Find [a0] h fun t7 h0 =>
  qExtract 0 t7 fun t8 =>
  qExtract 1 t7 fun t9 =>
  Q t8 h0
theorem asm_op_ok (a0 : AV) (h : AHeap) (Q : QT) (k : asm_op a0 h Q) : C fn_asm_op [a0] h Q :=
  okF (pl := []) Tryz.func114 Tryz.ntmps114 (by kernel_rfl) (by kernel_rfl) rfl (by kernel_rfl) k
def asm_read_l18 (s68 s67 s9 s36 s5 : AV) (next6 : NT) (vs16 : List AV) (h : AHeap) (next16 : NT) : Prop :=
  qBin .lss (nthA vs16 0) s68 fun t70 =>
  ifB t70 (
  qIndexAddr 1 s67 (nthA vs16 0) fun t71 =>
  qLoad1 t71 h fun t72 =>
  qFieldAddr 0 s9 fun t74 =>
  qLoad1 t74 h fun t75 =>
  C fn_asm_source_tell [s5, t75, t72, (I 1)] h fun t77 h17 =>
  qBin .add (nthA vs16 0) (I 1) fun t78 =>
  next16 [t78] h17) (
  qBin .add s36 (I 1) fun t79 =>
  next6 [t79] h)
def asm_read_l19 (s47 s46 s11 s9 s36 s5 : AV) (next6 : NT) (vs10 : List AV) (h : AHeap) (next10 : NT) : Prop :=
  qBin .lss (nthA vs10 0) s47 fun t49 =>
  ifB t49 (
  qIndexAddr 6 s46 (nthA vs10 0) fun t50 =>
  qLoadA 6 t50 h fun t51 =>
  qNew [(I 0), (S ⟨#[]⟩), (I 0), (I 0), (S ⟨#[]⟩), (.full 0 [])] h fun t13 h11 =>
  qStore 6 t13 t51 h11 fun h12 =>
  qNil s5 fun t54 =>
  qFieldAddr 0 t54 fun t55 =>
  qLoad1 t55 h12 fun t56 =>
  qFieldAddr 0 s9 fun t57 =>
  qLoad1 t57 h12 fun t58 =>
  qLoadA 6 t13 h12 fun t59 =>
  qBuild [(S ⟨#[]⟩), (I 0), (S ⟨#[]⟩), (I 0), (I 0), (S ⟨#[]⟩), (.full 0 []), (I 0), (B false)] [(0, 1, t58), (1, 6, t59)] fun t60 =>
  qBox t60 h12 fun t61 h13 =>
  (qLoad1 t55 h13 fun _t =>
  _t = t56) ∧
  qBuildSlice 1 1 [t61] fun t62 =>
  qAppend 1 8 t56 t62 h13 fun t63 h14 =>
  qNil s5 fun t64 =>
  qFieldAddr 0 t64 fun t65 =>
  qStore 1 t65 t63 h14 fun h15 =>
  qBin .add (nthA vs10 0) (I 1) fun t66 =>
  next10 [t66] h15) (
  qLenL s11 fun t68 =>
  Loop [(I 0)] h fun vs16 h next16 => asm_read_l18 t68 s11 s9 s36 s5 next6 vs16 h next16)
def asm_read_l20 (s35 s34 s5 : AV) (Q : QT) (vs6 : List AV) (h : AHeap) (next6 : NT) : Prop :=
  qBin .lss (nthA vs6 0) s35 fun t37 =>
  ifB t37 (
  qIndexAddr 2 s34 (nthA vs6 0) fun t38 =>
  qLoadA 2 t38 h fun t39 =>
  qNew [(S ⟨#[]⟩), (S ⟨#[]⟩)] h fun t9 h7 =>
  qStore 2 t9 t39 h7 fun h8 =>
  qFieldAddr 1 t9 fun t41 =>
  qLoad1 t41 h8 fun t42 =>
  C fn_line_Parse [t42] h8 fun t43 h9 =>
  qExtract 0 t43 fun t44 =>
  qExtract 1 t43 fun t45 =>
  qLenL t44 fun t47 =>
  Loop [(I 0)] h9 fun vs10 h next10 => asm_read_l19 t47 t44 t45 t9 (nthA vs6 0) s5 next6 vs10 h next10) (
  Q s5 h)
def asm_read_l21 (s20 s19 s5 s0 : AV) (Q : QT) (vs2 : List AV) (h : AHeap) (next2 : NT) : Prop :=
  qBin .lss (nthA vs2 0) s20 fun t22 =>
  ifB t22 (
  qIndexAddr 2 s19 (nthA vs2 0) fun t23 =>
  qLoadA 2 t23 h fun t24 =>
  qNew [(S ⟨#[]⟩), (I 0)] h fun t7 h3 =>
  qStore 2 t7 t24 h3 fun h4 =>
  qNil s5 fun t26 =>
  qFieldAddr 1 t26 fun t27 =>
  qLoad1 t27 h4 fun t28 =>
  qFieldAddr 0 t7 fun t29 =>
  qLoad1 t29 h4 fun t30 =>
  qFieldAddr 1 t7 fun t31 =>
  qLoad1 t31 h4 fun t32 =>
  qMapUpdate .string t28 t30 t32 h4 fun h5 =>
  qBin .add (nthA vs2 0) (I 1) fun t33 =>
  next2 [t33] h5) (
  qLenL s0 fun t35 =>
  Loop [(I 0)] h fun vs6 h next6 => asm_read_l20 t35 s0 s5 Q vs6 h next6)
def asm_read (a0 a1 : AV) (h : AHeap) (Q : QT) : Prop :=
  qMakeMap h fun t16 h0 =>
  qBuild [(.full 0 []), (.lit (.map none)), (.lit (.map none)), (.full 0 []), (I 0)] [(1, 1, t16)] fun t17 =>
  qBox t17 h0 fun t18 h1 =>
  qLenL a1 fun t20 =>
  Loop [(I 0)] h1 fun vs2 h next2 => asm_read_l21 t20 a1 t18 a0 Q vs2 h next2
theorem asm_read_ok (a0 a1 : AV) (h : AHeap) (Q : QT) (k : asm_read a0 a1 h Q) : C fn_asm_read [a0, a1] h Q :=
  okF (pl := [(4, [7, 21, 22, 23, 24, 25, 26, 27, 28, 29, 30, 31, 32, 33], [21]), (1000005, [0, 1, 2, 3, 4, 5, 6, 7, 8], []), (9, [9, 10, 11, 13, 15, 36, 37, 38, 39, 40, 41, 42, 43, 44, 45, 46, 47, 48, 49, 50, 51, 52, 53, 54, 55, 56, 57, 58, 59, 60, 61, 62, 63, 64, 65, 66, 67, 68, 69, 70, 71, 72, 73, 74, 75, 76, 77, 78, 79], [36]), (13, [13, 48, 49, 50, 51, 52, 53, 54, 55, 56, 57, 58, 59, 60, 61, 62, 63, 64, 65, 66], [48]), (1000014, [0, 1, 2, 3, 4, 5, 6, 7, 8, 9, 10, 11, 12, 13, 14], []), (18, [15, 69, 70, 71, 72, 73, 74, 75, 76, 77, 78], [69])]) Tryz.func29 Tryz.ntmps29 (by kernel_rfl) (by kernel_rfl) rfl (by kernel_rfl) k
def asm_short (a0 : AV) (h : AHeap) (Q : QT) : Prop :=
  qBuildSlice 3 1 [(S ⟨#[115, 101, 95, 98]⟩), (S ⟨#[115, 101, 95, 98, 108]⟩), (S ⟨#[115, 101, 95, 98, 99]⟩)] fun t3 =>
  qIndexAddr 1 t3 a0 fun t5 =>
  qLoad1 t5 h fun t6 =>
  C fn_asm_op [t6] h fun t7 h0 =>
  Q t7 h0
theorem asm_short_ok (a0 : AV) (h : AHeap) (Q : QT) (k : asm_short a0 h Q) : C fn_asm_short [a0] h Q :=
  okF (pl := []) Tryz.func77 Tryz.ntmps77 (by kernel_rfl) (by kernel_rfl) rfl (by kernel_rfl) k
def asm_source_bytes_l6 (s11 s41 : AV) (next3 : NT) (vs4 : List AV) (h : AHeap) (next4 : NT) : Prop :=
  qBin .geq (nthA vs4 1) (I 0) fun t54 =>
  ifB t54 (
  qBin .shr s11 (nthA vs4 1) fun t60 =>
  qConvII .u8 t60 fun t61 =>
  qBuildSlice 1 1 [t61] fun t62 =>
  qAppend 1 1 (nthA vs4 0) t62 h fun t63 h5 =>
  qBin .sub (nthA vs4 1) (I 8) fun t56 =>
  next4 [t63, t56] h5) (
  qBin .add s41 (I 1) fun t64 =>
  next3 [(nthA vs4 0), t64] h)
def asm_source_bytes_l7 (s40 s39 s1 : AV) (Q : QT) (vs3 : List AV) (h : AHeap) (next3 : NT) : Prop :=
  qBin .lss (nthA vs3 1) s40 fun t42 =>
  ifB t42 (
  qIndexAddr 1 s39 (nthA vs3 1) fun t43 =>
  qLoad1 t43 h fun t44 =>
  qNil s1 fun t46 =>
  qFieldAddr 1 t46 fun t47 =>
  qFieldAddr 2 t47 fun t48 =>
  qLoad1 t48 h fun t49 =>
  qBin .sub t49 (I 3) fun t50 =>
  qBin .shl (I 8) t50 fun t51 =>
  qBin .sub t51 (I 8) fun t52 =>
  Loop [(nthA vs3 0), t52] h fun vs4 h next4 => asm_source_bytes_l6 t44 (nthA vs3 1) next3 vs4 h next4) (
  Q (nthA vs3 0) h)
def asm_source_bytes_j11 (s35 s23 s5 s0 s1 : AV) (h : AHeap) (Q : QT) : Prop :=
  ifB s35 (
  qLenL s5 fun t40 =>
  Loop [(.full 0 []), (I 0)] h fun vs3 h next3 => asm_source_bytes_l7 t40 s5 s1 Q vs3 h next3) (
  qBin .eql s23 (I 6) fun t67 =>
  ifB t67 (
  qNil s1 fun t69 =>
  qFieldAddr 1 t69 fun t70 =>
  qFieldAddr 4 t70 fun t71 =>
  qLoad1 t71 h fun t72 =>
  qStrBytes t72 h fun t73 h8 =>
  Q t73 h8) (
  C fn_asm_source_long [s0, s1] h fun t76 h9 =>
  qMakeSlice 1 (.lit (.int .u8 0)) t76 t76 h9 fun t77 h10 =>
  Q t77 h10))
def asm_source_bytes_j12 (s24 s23 s5 s0 s1 : AV) (h : AHeap) (Q : QT) : Prop :=
  ifB s24 (
  C fn_asm_entry_full [s1, s5] h fun t30 h1 =>
  C fn_isa_Encode [t30] h1 fun t31 h2 =>
  qExtract 0 t31 fun t32 =>
  qExtract 1 t31 fun t33 =>
  Q t32 h2) (
  qBin .eql s23 (I 3) fun t36 =>
  ifB t36 (
  asm_source_bytes_j11 t36 s23 s5 s0 s1 h Q) (
  qBin .eql s23 (I 4) fun t37 =>
  ifB t37 (
  asm_source_bytes_j11 t37 s23 s5 s0 s1 h Q) (
  qBin .eql s23 (I 5) fun t38 =>
  asm_source_bytes_j11 t38 s23 s5 s0 s1 h Q)))
def asm_source_bytes (a0 a1 : AV) (h : AHeap) (Q : QT) : Prop :=
  C fn_asm_source_values [a0, a1] h fun t16 h0 =>
  qExtract 0 t16 fun t17 =>
  qExtract 1 t16 fun t18 =>
  qNil a1 fun t20 =>
  qFieldAddr 1 t20 fun t21 =>
  qFieldAddr 2 t21 fun t22 =>
  qLoad1 t22 h0 fun t23 =>
  qBin .eql t23 (I 1) fun t25 =>
  ifB t25 (
  asm_source_bytes_j12 t25 t23 t17 a0 a1 h0 Q) (
  qBin .eql t23 (I 2) fun t26 =>
  asm_source_bytes_j12 t26 t23 t17 a0 a1 h0 Q)
theorem asm_source_bytes_ok (a0 a1 : AV) (h : AHeap) (Q : QT) (k : asm_source_bytes a0 a1 h Q) : C fn_asm_source_bytes [a0, a1] h Q :=
  okF (pl := [(13, [9, 11, 12, 41, 42, 43, 44, 45, 46, 47, 48, 49, 50, 51, 52, 53, 54, 55, 56, 57, 58, 59, 60, 61, 62, 63, 64], [9, 41]), (16, [9, 12, 53, 54, 55, 56, 57, 58, 59, 60, 61, 62, 63], [9, 12])]) Tryz.func18 Tryz.ntmps18 (by kernel_rfl) (by kernel_rfl) rfl (by kernel_rfl) k
def asm_source_check_j3 (s10 : AV) (h : AHeap) (next0 : NT) : Prop :=
  qBin .add s10 (I 1) fun t31 =>
  next0 [t31] h
def asm_source_check_b4 (s10 : AV) (h : AHeap) (next0 : NT) : Prop :=
  asm_source_check_j3 s10 h next0
def asm_source_check_l5 (s9 s8 s0 : AV) (Q : QT) (vs0 : List AV) (h : AHeap) (next0 : NT) : Prop :=
  qBin .lss (nthA vs0 0) s9 fun t11 =>
  ifB t11 (
  qIndexAddr 1 s8 (nthA vs0 0) fun t12 =>
  qLoad1 t12 h fun t13 =>
  C fn_asm_source_wrong [s0, t13] h fun t16 h1 =>
  qBin .neq t16 (I 0) fun t18 =>
  ifB t18 (
  qNil t13 fun t21 =>
  qFieldAddr 0 t21 fun t22 =>
  qLoad1 t22 h1 fun t23 =>
  qNil t13 fun t25 =>
  qFieldAddr 1 t25 fun t26 =>
  qFieldAddr 0 t26 fun t27 =>
  qLoad1 t27 h1 fun t28 =>
  C fn_asm_source_tell [s0, t23, t28, t16] h1 fun t30 h2 =>
  asm_source_check_b4 (nthA vs0 0) h2 next0) (
  asm_source_check_b4 (nthA vs0 0) h1 next0)) (
  Q (.tup []) h)
def asm_source_check (a0 : AV) (h : AHeap) (Q : QT) : Prop :=
  qNil a0 fun t6 =>
  qFieldAddr 0 t6 fun t7 =>
  qLoad1 t7 h fun t8 =>
  qLenL t8 fun t9 =>
  Loop [(I 0)] h fun vs0 h next0 => asm_source_check_l5 t9 t8 a0 Q vs0 h next0
theorem asm_source_check_ok (a0 : AV) (h : AHeap) (Q : QT) (k : asm_source_check a0 h Q) : C fn_asm_source_check [a0] h Q :=
  okF (pl := [(2, [3, 4, 10, 11, 12, 13, 14, 15, 16, 17, 18, 19, 20, 21, 22, 23, 24, 25, 26, 27, 28, 29, 30, 31], [10]), (1000005, [0, 1, 2, 3, 4, 5, 6, 7, 8, 9, 10, 11], [])]) Tryz.func33 Tryz.ntmps33 (by kernel_rfl) (by kernel_rfl) rfl (by kernel_rfl) k
def asm_source_declared_l6 (s11 s10 s0 : AV) (Q : QT) (vs2 : List AV) (h : AHeap) (next2 : NT) : Prop :=
  qBin .lss (nthA vs2 1) s11 fun t13 =>
  ifB t13 (
  qIndexAddr 1 s10 (nthA vs2 1) fun t14 =>
  qLoad1 t14 h fun t15 =>
  qNew [(S ⟨#[]⟩)] h fun t6 h3 =>
  qStore 1 t6 t15 h3 fun h4 =>
  qNil s0 fun t18 =>
  qFieldAddr 2 t18 fun t19 =>
  qLoad1 t19 h4 fun t20 =>
  qLoad1 t6 h4 fun t21 =>
  qLookup .string true (I 0) t20 t21 h4 fun t22 =>
  qExtract 0 t22 fun t23 =>
  qExtract 1 t22 fun t24 =>
  qUn .not t24 fun t26 =>
  ifB t26 (qNil s0 fun t29 =>
  qFieldAddr 0 t29 fun t30 =>
  qLoad1 t30 h4 fun t31 =>
  C fn_slices_ContainsFunc__asm_entry_asm_entry [t31, (.fn (.func fn_asm_source_declared_1) [] [t6])] h4 fun t33 h5 =>
  qUn .not t33 fun t34 =>
  ifB t34 (
  Q (B false) h5) (
  qBin .add (nthA vs2 1) (I 1) fun t36 =>
  next2 [(nthA vs2 0), t36] h5)) (
  qBin .add (nthA vs2 1) (I 1) fun t36 =>
  next2 [(nthA vs2 0), t36] h4)) (
  Q (B true) h)
def asm_source_declared (a0 a1 : AV) (h : AHeap) (Q : QT) : Prop :=
  qBox a1 h fun t3 h0 =>
  qLoadA 4 t3 h0 fun t9 =>
  C fn_expr_Names [t9] h0 fun t10 h1 =>
  qLenL t10 fun t11 =>
  Loop [(B false), (I 0)] h1 fun vs2 h next2 => asm_source_declared_l6 t11 t10 a0 Q vs2 h next2
theorem asm_source_declared_ok (a0 a1 : AV) (h : AHeap) (Q : QT) (k : asm_source_declared a0 a1 h Q) : C fn_asm_source_declared [a0, a1] h Q :=
  okF (pl := [(3, [4, 6, 7, 8, 12, 13, 14, 15, 16, 17, 18, 19, 20, 21, 22, 23, 24, 25, 26, 27, 28, 29, 30, 31, 32, 33, 34, 35, 36], [4, 12]), (1000004, [0, 1, 2, 3, 4, 5, 6, 7, 8, 9, 10], [])]) Tryz.func78 Tryz.ntmps78 (by kernel_rfl) (by kernel_rfl) rfl (by kernel_rfl) k
def asm_source_declared_1 (a0 a1 : AV) (h : AHeap) (Q : QT) : Prop :=
  qNil a0 fun t5 =>
  qFieldAddr 1 t5 fun t6 =>
  qFieldAddr 2 t6 fun t7 =>
  qLoad1 t7 h fun t8 =>
  qBin .eql t8 (I 9) fun t9 =>
  ifB t9 (qNil a0 fun t12 =>
  qFieldAddr 1 t12 fun t13 =>
  qFieldAddr 4 t13 fun t14 =>
  qLoad1 t14 h fun t15 =>
  qLoad1 a1 h fun t16 =>
  qBin .eql t15 t16 fun t17 =>
  Q t17 h) (
  Q (B false) h)
theorem asm_source_declared_1_ok (a0 a1 : AV) (h : AHeap) (Q : QT) (k : asm_source_declared_1 a0 a1 h Q) : C fn_asm_source_declared_1 [a0, a1] h Q :=
  okF (pl := [(1000001, [0, 1, 2, 3, 4, 5, 6, 7, 8, 9, 10, 11, 12, 13, 14, 15], [])]) Tryz.func116 Tryz.ntmps116 (by kernel_rfl) (by kernel_rfl) rfl (by kernel_rfl) k
def asm_source_grow_j1 (s3 s15 : AV) (h : AHeap) (next0 : NT) : Prop :=
  qBin .add s15 (I 1) fun t64 =>
  next0 [s3, t64] h
def asm_source_grow_b2 (s3 s15 : AV) (h : AHeap) (next0 : NT) : Prop :=
  asm_source_grow_j1 s3 s15 h next0
def asm_source_grow_l10 (s66 s65 s3 : AV) (Q : QT) (vs8 : List AV) (h : AHeap) (next8 : NT) : Prop :=
  qBin .lss (nthA vs8 0) s66 fun t68 =>
  ifB t68 (
  qIndexAddr 1 s65 (nthA vs8 0) fun t69 =>
  qLoad1 t69 h fun t70 =>
  qNil t70 fun t72 =>
  qFieldAddr 8 t72 fun t73 =>
  qStore 1 t73 (B true) h fun h9 =>
  qBin .add (nthA vs8 0) (I 1) fun t74 =>
  next8 [t74] h9) (
  qLenL s3 fun t76 =>
  qBin .gtr t76 (I 0) fun t77 =>
  Q t77 h)
def asm_source_grow_l11 (s14 s13 s0 : AV) (Q : QT) (vs0 : List AV) (h : AHeap) (next0 : NT) : Prop :=
  qBin .lss (nthA vs0 1) s14 fun t16 =>
  ifB t16 (
  qIndexAddr 1 s13 (nthA vs0 1) fun t17 =>
  qLoad1 t17 h fun t18 =>
  qNil t18 fun t20 =>
  qFieldAddr 1 t20 fun t21 =>
  qFieldAddr 2 t21 fun t22 =>
  qLoad1 t22 h fun t23 =>
  qBin .neq t23 (I 2) fun t24 =>
  ifB t24 (asm_source_grow_b2 (nthA vs0 0) (nthA vs0 1) h next0) (
  qNil t18 fun t27 =>
  qFieldAddr 8 t27 fun t28 =>
  qLoad1 t28 h fun t29 =>
  ifB t29 (
  asm_source_grow_b2 (nthA vs0 0) (nthA vs0 1) h next0) (
  qNil t18 fun t35 =>
  qFieldAddr 7 t35 fun t36 =>
  qLoad1 t36 h fun t37 =>
  qNil s0 fun t39 =>
  qFieldAddr 2 t39 fun t40 =>
  qLoad1 t40 h fun t41 =>
  C fn_asm_entry_last [t18] h fun t33 h3 =>
  (qLoad1 t40 h3 fun _t =>
  _t = t41) ∧
  (qLoad1 t36 h3 fun _t =>
  _t = t37) ∧
  C fn_asm_eval [t33, t37, t41] h3 fun t42 h4 =>
  qExtract 0 t42 fun t43 =>
  qExtract 1 t42 fun t44 =>
  qBin .eql t44 (I 0) fun t46 =>
  ifB t46 (qNil t18 fun t51 =>
  qFieldAddr 7 t51 fun t52 =>
  qLoad1 t52 h4 fun t53 =>
  qBin .sub t43 t53 fun t54 =>
  qBuildSlice 1 1 [t54] fun t55 =>
  C fn_asm_short [(I 0)] h4 fun t48 h5 =>
  (qLoad1 t52 h5 fun _t =>
  _t = t53) ∧
  qBuild [(I 0), (.full 0 [])] [(0, 1, t48), (1, 1, t55)] fun t56 =>
  C fn_isa_Right [t56] h5 fun t57 h6 =>
  qUn .not t57 fun t58 =>
  ifB t58 (
  qBuildSlice 1 1 [t18] fun t62 =>
  qAppend 1 8 (nthA vs0 0) t62 h6 fun t63 h7 =>
  asm_source_grow_b2 t63 (nthA vs0 1) h7 next0) (
  asm_source_grow_b2 (nthA vs0 0) (nthA vs0 1) h6 next0)) (
  asm_source_grow_b2 (nthA vs0 0) (nthA vs0 1) h4 next0)))) (
  qLenL (nthA vs0 0) fun t66 =>
  Loop [(I 0)] h fun vs8 h next8 => asm_source_grow_l10 t66 (nthA vs0 0) (nthA vs0 0) Q vs8 h next8)
def asm_source_grow (a0 : AV) (h : AHeap) (Q : QT) : Prop :=
  qNil a0 fun t11 =>
  qFieldAddr 0 t11 fun t12 =>
  qLoad1 t12 h fun t13 =>
  qLenL t13 fun t14 =>
  Loop [(.full 0 []), (I 0)] h fun vs0 h next0 => asm_source_grow_l11 t14 t13 a0 Q vs0 h next0
theorem asm_source_grow_ok (a0 : AV) (h : AHeap) (Q : QT) (k : asm_source_grow a0 h Q) : C fn_asm_source_grow [a0] h Q :=
  okF (pl := [(4, [3, 5, 6, 7, 15, 16, 17, 18, 19, 20, 21, 22, 23, 24, 25, 26, 27, 28, 29, 30, 31, 32, 33, 34, 35, 36, 37, 38, 39, 40, 41, 42, 43, 44, 45, 46, 47, 48, 49, 50, 51, 52, 53, 54, 55, 56, 57, 58, 59, 60, 61, 62, 63, 64], [3, 15]), (1000006, [0, 2, 3, 4, 5, 6, 7, 8, 9, 1, 10, 11, 12, 13, 14, 15], []), (1000007, [0, 1, 2, 4, 5, 6, 7, 8, 9, 10, 3, 11, 12, 13, 14], []), (12, [9, 67, 68, 69, 70, 71, 72, 73, 74], [67])]) Tryz.func50 Tryz.ntmps50 (by kernel_rfl) (by kernel_rfl) rfl (by kernel_rfl) k
def asm_source_lay_j10 (s6 s4 s39 s0 : AV) (h : AHeap) (next6 : NT) : Prop :=
  C fn_asm_source_long [s0, s6] h fun t66 h9 =>
  qBin .add s4 t66 fun t67 =>
  qBin .add s39 (I 1) fun t68 =>
  next6 [t67, t68] h9
def asm_source_lay_j14 (s7 s79 : AV) (h : AHeap) (next13 : NT) : Prop :=
  qBin .add s79 (I 1) fun t133 =>
  next13 [s7, t133] h
def asm_source_lay_b15 (s7 s79 : AV) (h : AHeap) (next13 : NT) : Prop :=
  asm_source_lay_j14 s7 s79 h next13
def asm_source_lay_l20 (s78 s77 s0 : AV) (next12 : NT) (vs13 : List AV) (h : AHeap) (next13 : NT) : Prop :=
  qBin .lss (nthA vs13 1) s78 fun t80 =>
  ifB t80 (
  qIndexAddr 1 s77 (nthA vs13 1) fun t81 =>
  qLoad1 t81 h fun t82 =>
  qNil s0 fun t85 =>
  qFieldAddr 2 t85 fun t86 =>
  qLoad1 t86 h fun t87 =>
  qNil t82 fun t89 =>
  qFieldAddr 1 t89 fun t90 =>
  qFieldAddr 4 t90 fun t91 =>
  qLoad1 t91 h fun t92 =>
  qLookup .string true (I 0) t87 t92 h fun t93 =>
  qExtract 0 t93 fun t94 =>
  qExtract 1 t93 fun t95 =>
  qNil t82 fun t97 =>
  qFieldAddr 1 t97 fun t98 =>
  qFieldAddr 2 t98 fun t99 =>
  qLoad1 t99 h fun t100 =>
  qBin .neq t100 (I 9) fun t101 =>
  ifB t101 (asm_source_lay_b15 (nthA vs13 0) (nthA vs13 1) h next13) (
  ifB t95 (
  asm_source_lay_b15 (nthA vs13 0) (nthA vs13 1) h next13) (
  qNil t82 fun t109 =>
  qFieldAddr 7 t109 fun t110 =>
  qLoad1 t110 h fun t111 =>
  qNil s0 fun t113 =>
  qFieldAddr 2 t113 fun t114 =>
  qLoad1 t114 h fun t115 =>
  C fn_asm_entry_last [t82] h fun t107 h16 =>
  (qLoad1 t114 h16 fun _t =>
  _t = t115) ∧
  (qLoad1 t110 h16 fun _t =>
  _t = t111) ∧
  C fn_asm_eval [t107, t111, t115] h16 fun t116 h17 =>
  qExtract 0 t116 fun t117 =>
  qExtract 1 t116 fun t118 =>
  qBin .eql t118 (I 0) fun t120 =>
  ifB t120 (
  qNil s0 fun t122 =>
  qFieldAddr 2 t122 fun t123 =>
  qLoad1 t123 h17 fun t124 =>
  qNil t82 fun t126 =>
  qFieldAddr 1 t126 fun t127 =>
  qFieldAddr 4 t127 fun t128 =>
  qLoad1 t128 h17 fun t129 =>
  qMapEntry .string (I 0) t124 t129 h17 fun t131 h18 =>
  qExtract 1 t131 fun t132 =>
  qEntryStore t124 t132 t117 h18 fun h19 =>
  asm_source_lay_b15 (B true) (nthA vs13 1) h19 next13) (
  asm_source_lay_b15 (nthA vs13 0) (nthA vs13 1) h17 next13)))) (
  next12 [(nthA vs13 0)] h)
def asm_source_lay_l21 (s0 : AV) (Q : QT) (vs12 : List AV) (h : AHeap) (next12 : NT) : Prop :=
  ifB (nthA vs12 0) (
  qNil s0 fun t75 =>
  qFieldAddr 0 t75 fun t76 =>
  qLoad1 t76 h fun t77 =>
  qLenL t77 fun t78 =>
  Loop [(B false), (I 0)] h fun vs13 h next13 => asm_source_lay_l20 t78 t77 s0 next12 vs13 h next13) (
  Q (.tup []) h)
def asm_source_lay_l22 (s38 s37 s0 : AV) (Q : QT) (vs6 : List AV) (h : AHeap) (next6 : NT) : Prop :=
  qBin .lss (nthA vs6 1) s38 fun t40 =>
  ifB t40 (
  qIndexAddr 1 s37 (nthA vs6 1) fun t41 =>
  qLoad1 t41 h fun t42 =>
  qNil t42 fun t45 =>
  qFieldAddr 7 t45 fun t46 =>
  qStore 1 t46 (nthA vs6 0) h fun h7 =>
  qNil t42 fun t48 =>
  qFieldAddr 1 t48 fun t49 =>
  qFieldAddr 1 t49 fun t50 =>
  qLoad1 t50 h7 fun t51 =>
  qBin .neq t51 (S ⟨#[]⟩) fun t52 =>
  ifB t52 (
  qNil s0 fun t54 =>
  qFieldAddr 2 t54 fun t55 =>
  qLoad1 t55 h7 fun t56 =>
  qNil t42 fun t58 =>
  qFieldAddr 1 t58 fun t59 =>
  qFieldAddr 1 t59 fun t60 =>
  qLoad1 t60 h7 fun t61 =>
  qMapUpdate .string t56 t61 (nthA vs6 0) h7 fun h8 =>
  asm_source_lay_j10 t42 (nthA vs6 0) (nthA vs6 1) s0 h8 next6) (
  asm_source_lay_j10 t42 (nthA vs6 0) (nthA vs6 1) s0 h7 next6)) (
  qNil s0 fun t71 =>
  qFieldAddr 4 t71 fun t72 =>
  qStore 1 t72 (nthA vs6 0) h fun h11 =>
  Loop [(B true)] h11 fun vs12 h next12 => asm_source_lay_l21 s0 Q vs12 h next12)
def asm_source_lay_l23 (s22 s0 : AV) (Q : QT) (h : AHeap) (next3 : NT) : Prop :=
  qNextM s22 h fun t23 h4 =>
  qExtract 0 t23 fun t24 =>
  ifB t24 (
  qEntry s22 h4 fun t25 =>
  qExtract 0 t25 fun t26 =>
  qExtract 1 t25 fun t27 =>
  qNil s0 fun t29 =>
  qFieldAddr 2 t29 fun t30 =>
  qLoad1 t30 h4 fun t31 =>
  qMapUpdate .string t31 t26 t27 h4 fun h5 =>
  next3 [] h5) (
  qNil s0 fun t35 =>
  qFieldAddr 0 t35 fun t36 =>
  qLoad1 t36 h4 fun t37 =>
  qLenL t37 fun t38 =>
  Loop [(I 0), (I 0)] h4 fun vs6 h next6 => asm_source_lay_l22 t38 t37 s0 Q vs6 h next6)
def asm_source_lay (a0 : AV) (h : AHeap) (Q : QT) : Prop :=
  qMakeMap h fun t15 h0 =>
  qNil a0 fun t16 =>
  qFieldAddr 2 t16 fun t17 =>
  qStore 1 t17 t15 h0 fun h1 =>
  qNil a0 fun t19 =>
  qFieldAddr 1 t19 fun t20 =>
  qLoad1 t20 h1 fun t21 =>
  qRangeM t21 h1 fun t22 h2 =>
  Loop [] h2 fun _ h next3 => asm_source_lay_l23 t22 a0 Q h next3
theorem asm_source_lay_ok (a0 : AV) (h : AHeap) (Q : QT) (k : asm_source_lay a0 h Q) : C fn_asm_source_lay [a0] h Q :=
  okF (pl := [(3, [2, 3, 23, 24, 25, 26, 27, 28, 29, 30, 31, 32, 33], []), (8, [4, 6, 39, 40, 41, 42, 43, 44, 45, 46, 47, 48, 49, 50, 51, 52, 53, 54, 55, 56, 57, 58, 59, 60, 61, 62, 63, 64, 65, 66, 67, 68], [4, 39]), (1000011, [0, 1, 2, 3, 4, 5, 6, 7, 8, 9, 10], []), (17, [7, 9, 10, 11, 12, 13, 73, 74, 75, 76, 77, 78, 79, 80, 81, 82, 83, 84, 85, 86, 87, 88, 89, 90, 91, 92, 93, 94, 95, 96, 97, 98, 99, 100, 101, 102, 103, 104, 105, 106, 107, 108, 109, 110, 111, 112, 113, 114, 115, 116, 117, 118, 119, 120, 121, 122, 123, 124, 125, 126, 127, 128, 129, 130, 131, 132, 133], [7]), (20, [7, 9, 10, 11, 12, 13, 79, 80, 81, 82, 83, 84, 85, 86, 87, 88, 89, 90, 91, 92, 93, 94, 95, 96, 97, 98, 99, 100, 101, 102, 103, 104, 105, 106, 107, 108, 109, 110, 111, 112, 113, 114, 115, 116, 117, 118, 119, 120, 121, 122, 123, 124, 125, 126, 127, 128, 129, 130, 131, 132, 133], [7, 79]), (1000021, [0, 1, 2, 3, 4, 5, 6, 7, 8, 9, 10, 11, 12, 13, 14], []), (1000023, [0, 2, 3, 4, 5, 6, 7, 8, 9, 1, 10, 11, 12, 13, 14, 15], []), (1000025, [0, 1, 2, 3, 4, 5, 6, 7, 8, 9, 10, 11, 12, 13], [])]) Tryz.func49 Tryz.ntmps49 (by kernel_rfl) (by kernel_rfl) rfl (by kernel_rfl) k
def asm_source_long_j3 (s5 : AV) (h : AHeap) (Q : QT) : Prop :=
  Q s5 h
def asm_source_long_j4 (s51 s0 s1 : AV) (h : AHeap) (Q : QT) : Prop :=
  ifB s51 (
  qNil s0 fun t58 =>
  qFieldAddr 1 t58 fun t59 =>
  qLoad1 t59 h fun t60 =>
  C fn_asm_entry_last [s1] h fun t56 h1 =>
  (qLoad1 t59 h1 fun _t =>
  _t = t60) ∧
  C fn_asm_eval [t56, (I 0), t60] h1 fun t61 h2 =>
  qExtract 0 t61 fun t62 =>
  qExtract 1 t61 fun t63 =>
  qNil s1 fun t65 =>
  qFieldAddr 1 t65 fun t66 =>
  qFieldAddr 2 t66 fun t67 =>
  qLoad1 t67 h2 fun t68 =>
  qBin .eql t68 (I 7) fun t69 =>
  ifB t69 (
  qNil s1 fun t72 =>
  qFieldAddr 7 t72 fun t73 =>
  qLoad1 t73 h2 fun t74 =>
  qBin .rem t74 t62 fun t76 =>
  qBin .sub t62 t76 fun t77 =>
  qBin .rem t77 t62 fun t79 =>
  asm_source_long_j3 t79 h2 Q) (
  asm_source_long_j3 t62 h2 Q)) (
  Q (I 0) h)
def asm_source_long_j5 (s26 s11 s0 s1 : AV) (h : AHeap) (Q : QT) : Prop :=
  ifB s26 (
  qNil s1 fun t31 =>
  qFieldAddr 1 t31 fun t32 =>
  qFieldAddr 5 t32 fun t33 =>
  qLoad1 t33 h fun t34 =>
  qLenL t34 fun t35 =>
  qNil s1 fun t37 =>
  qFieldAddr 1 t37 fun t38 =>
  qFieldAddr 2 t38 fun t39 =>
  qLoad1 t39 h fun t40 =>
  qBin .sub t40 (I 3) fun t41 =>
  qBin .shl t35 t41 fun t42 =>
  Q t42 h) (
  qBin .eql s11 (I 6) fun t44 =>
  ifB t44 (
  qNil s1 fun t46 =>
  qFieldAddr 1 t46 fun t47 =>
  qFieldAddr 4 t47 fun t48 =>
  qLoad1 t48 h fun t49 =>
  qLenS t49 fun t50 =>
  Q t50 h) (
  qBin .eql s11 (I 7) fun t52 =>
  ifB t52 (
  asm_source_long_j4 t52 s0 s1 h Q) (
  qBin .eql s11 (I 8) fun t53 =>
  asm_source_long_j4 t53 s0 s1 h Q)))
def asm_source_long (a0 a1 : AV) (h : AHeap) (Q : QT) : Prop :=
  qNil a1 fun t8 =>
  qFieldAddr 1 t8 fun t9 =>
  qFieldAddr 2 t9 fun t10 =>
  qLoad1 t10 h fun t11 =>
  qBin .eql t11 (I 1) fun t13 =>
  ifB t13 (
  qNil a1 fun t15 =>
  qFieldAddr 1 t15 fun t16 =>
  qFieldAddr 3 t16 fun t17 =>
  qLoad1 t17 h fun t18 =>
  C fn_isa_Size [t18] h fun t19 h0 =>
  Q t19 h0) (
  qBin .eql t11 (I 2) fun t21 =>
  ifB t21 (
  qNil a1 fun t23 =>
  qFieldAddr 8 t23 fun t24 =>
  qLoad1 t24 h fun t25 =>
  ifB t25 (
  Q (I 4) h) (
  Q (I 2) h)) (
  qBin .eql t11 (I 3) fun t27 =>
  ifB t27 (
  asm_source_long_j5 t27 t11 a0 a1 h Q) (
  qBin .eql t11 (I 4) fun t28 =>
  ifB t28 (
  asm_source_long_j5 t28 t11 a0 a1 h Q) (
  qBin .eql t11 (I 5) fun t29 =>
  asm_source_long_j5 t29 t11 a0 a1 h Q))))
theorem asm_source_long_ok (a0 a1 : AV) (h : AHeap) (Q : QT) (k : asm_source_long a0 a1 h Q) : C fn_asm_source_long [a0, a1] h Q :=
  okF (pl := [(1000011, [0, 1, 2, 3, 4, 5, 6, 7, 8, 9, 10, 11, 12, 13], []), (1000016, [0, 2, 3, 4, 5, 1, 6, 7, 8, 9, 10, 11], [])]) Tryz.func27 Tryz.ntmps27 (by kernel_rfl) (by kernel_rfl) rfl (by kernel_rfl) k
def asm_source_places_l5 (s0 : AV) (Q : QT) (h : AHeap) (next1 : NT) : Prop :=
  C fn_asm_source_grow [s0] h fun t5 h2 =>
  ifB t5 (
  C fn_asm_source_lay [s0] h2 fun t7 h3 =>
  next1 [] h3) (
  qNil s0 fun t9 =>
  qFieldAddr 4 t9 fun t10 =>
  qLoad1 t10 h2 fun t11 =>
  qBin .gtr t11 (I 4096) fun t12 =>
  ifB t12 (
  C fn_asm_source_tell [s0, (S ⟨#[]⟩), (I 0), (I 8)] h2 fun t14 h4 =>
  Q (.tup []) h4) (
  Q (.tup []) h2))
def asm_source_places (a0 : AV) (h : AHeap) (Q : QT) : Prop :=
  C fn_asm_source_lay [a0] h fun t3 h0 =>
  Loop [] h0 fun _ h next1 => asm_source_places_l5 a0 Q h next1
theorem asm_source_places_ok (a0 : AV) (h : AHeap) (Q : QT) (k : asm_source_places a0 h Q) : C fn_asm_source_places [a0] h Q :=
  okF (pl := [(2, [4, 5, 6, 7], [])]) Tryz.func32 Tryz.ntmps32 (by kernel_rfl) (by kernel_rfl) rfl (by kernel_rfl) k
def asm_source_sized_j1 (s12 : AV) (h : AHeap) (next0 : NT) : Prop :=
  qBin .add s12 (I 1) fun t77 =>
  next0 [t77] h
def asm_source_sized_b2 (s12 : AV) (h : AHeap) (next0 : NT) : Prop :=
  asm_source_sized_j1 s12 h next0
def asm_source_sized_j11 (s6 s5 s3 s12 s0 : AV) (h : AHeap) (next0 : NT) : Prop :=
  C fn_asm_entry_last [s3] h fun t56 h6 =>
  C fn_asm_here [t56] h6 fun t57 h7 =>
  ifB t57 (qNil s3 fun t68 =>
  qFieldAddr 0 t68 fun t69 =>
  qLoad1 t69 h7 fun t70 =>
  qNil s3 fun t72 =>
  qFieldAddr 1 t72 fun t73 =>
  qFieldAddr 0 t73 fun t74 =>
  qLoad1 t74 h7 fun t75 =>
  C fn_asm_source_tell [s0, t70, t75, (I 3)] h7 fun t76 h8 =>
  asm_source_sized_b2 s12 h8 next0) (
  qBin .neq s5 (I 0) fun t60 =>
  ifB t60 (qNil s3 fun t68 =>
  qFieldAddr 0 t68 fun t69 =>
  qLoad1 t69 h7 fun t70 =>
  qNil s3 fun t72 =>
  qFieldAddr 1 t72 fun t73 =>
  qFieldAddr 0 t73 fun t74 =>
  qLoad1 t74 h7 fun t75 =>
  C fn_asm_source_tell [s0, t70, t75, (I 3)] h7 fun t76 h9 =>
  asm_source_sized_b2 s12 h9 next0) (
  qUn .not s6 fun t64 =>
  ifB t64 (
  qNil s3 fun t68 =>
  qFieldAddr 0 t68 fun t69 =>
  qLoad1 t69 h7 fun t70 =>
  qNil s3 fun t72 =>
  qFieldAddr 1 t72 fun t73 =>
  qFieldAddr 0 t73 fun t74 =>
  qLoad1 t74 h7 fun t75 =>
  C fn_asm_source_tell [s0, t70, t75, (I 3)] h7 fun t76 h10 =>
  asm_source_sized_b2 s12 h10 next0) (
  asm_source_sized_b2 s12 h7 next0)))
def asm_source_sized_j18 (s6 s5 s3 s12 s0 : AV) (h : AHeap) (next0 : NT) : Prop :=
  C fn_asm_entry_last [s3] h fun t56 h13 =>
  C fn_asm_here [t56] h13 fun t57 h14 =>
  ifB t57 (qNil s3 fun t68 =>
  qFieldAddr 0 t68 fun t69 =>
  qLoad1 t69 h14 fun t70 =>
  qNil s3 fun t72 =>
  qFieldAddr 1 t72 fun t73 =>
  qFieldAddr 0 t73 fun t74 =>
  qLoad1 t74 h14 fun t75 =>
  C fn_asm_source_tell [s0, t70, t75, (I 3)] h14 fun t76 h15 =>
  asm_source_sized_b2 s12 h15 next0) (
  qBin .neq s5 (I 0) fun t60 =>
  ifB t60 (qNil s3 fun t68 =>
  qFieldAddr 0 t68 fun t69 =>
  qLoad1 t69 h14 fun t70 =>
  qNil s3 fun t72 =>
  qFieldAddr 1 t72 fun t73 =>
  qFieldAddr 0 t73 fun t74 =>
  qLoad1 t74 h14 fun t75 =>
  C fn_asm_source_tell [s0, t70, t75, (I 3)] h14 fun t76 h16 =>
  asm_source_sized_b2 s12 h16 next0) (
  qUn .not s6 fun t64 =>
  ifB t64 (
  qNil s3 fun t68 =>
  qFieldAddr 0 t68 fun t69 =>
  qLoad1 t69 h14 fun t70 =>
  qNil s3 fun t72 =>
  qFieldAddr 1 t72 fun t73 =>
  qFieldAddr 0 t73 fun t74 =>
  qLoad1 t74 h14 fun t75 =>
  C fn_asm_source_tell [s0, t70, t75, (I 3)] h14 fun t76 h17 =>
  asm_source_sized_b2 s12 h17 next0) (
  asm_source_sized_b2 s12 h14 next0)))
def asm_source_sized_j27 (s6 s5 s3 s12 s0 : AV) (h : AHeap) (next0 : NT) : Prop :=
  C fn_asm_entry_last [s3] h fun t56 h22 =>
  C fn_asm_here [t56] h22 fun t57 h23 =>
  ifB t57 (qNil s3 fun t68 =>
  qFieldAddr 0 t68 fun t69 =>
  qLoad1 t69 h23 fun t70 =>
  qNil s3 fun t72 =>
  qFieldAddr 1 t72 fun t73 =>
  qFieldAddr 0 t73 fun t74 =>
  qLoad1 t74 h23 fun t75 =>
  C fn_asm_source_tell [s0, t70, t75, (I 3)] h23 fun t76 h24 =>
  asm_source_sized_b2 s12 h24 next0) (
  qBin .neq s5 (I 0) fun t60 =>
  ifB t60 (qNil s3 fun t68 =>
  qFieldAddr 0 t68 fun t69 =>
  qLoad1 t69 h23 fun t70 =>
  qNil s3 fun t72 =>
  qFieldAddr 1 t72 fun t73 =>
  qFieldAddr 0 t73 fun t74 =>
  qLoad1 t74 h23 fun t75 =>
  C fn_asm_source_tell [s0, t70, t75, (I 3)] h23 fun t76 h25 =>
  asm_source_sized_b2 s12 h25 next0) (
  qUn .not s6 fun t64 =>
  ifB t64 (
  qNil s3 fun t68 =>
  qFieldAddr 0 t68 fun t69 =>
  qLoad1 t69 h23 fun t70 =>
  qNil s3 fun t72 =>
  qFieldAddr 1 t72 fun t73 =>
  qFieldAddr 0 t73 fun t74 =>
  qLoad1 t74 h23 fun t75 =>
  C fn_asm_source_tell [s0, t70, t75, (I 3)] h23 fun t76 h26 =>
  asm_source_sized_b2 s12 h26 next0) (
  asm_source_sized_b2 s12 h23 next0)))
def asm_source_sized_j34 (s6 s5 s3 s12 s0 : AV) (h : AHeap) (next0 : NT) : Prop :=
  C fn_asm_entry_last [s3] h fun t56 h29 =>
  C fn_asm_here [t56] h29 fun t57 h30 =>
  ifB t57 (qNil s3 fun t68 =>
  qFieldAddr 0 t68 fun t69 =>
  qLoad1 t69 h30 fun t70 =>
  qNil s3 fun t72 =>
  qFieldAddr 1 t72 fun t73 =>
  qFieldAddr 0 t73 fun t74 =>
  qLoad1 t74 h30 fun t75 =>
  C fn_asm_source_tell [s0, t70, t75, (I 3)] h30 fun t76 h31 =>
  asm_source_sized_b2 s12 h31 next0) (
  qBin .neq s5 (I 0) fun t60 =>
  ifB t60 (qNil s3 fun t68 =>
  qFieldAddr 0 t68 fun t69 =>
  qLoad1 t69 h30 fun t70 =>
  qNil s3 fun t72 =>
  qFieldAddr 1 t72 fun t73 =>
  qFieldAddr 0 t73 fun t74 =>
  qLoad1 t74 h30 fun t75 =>
  C fn_asm_source_tell [s0, t70, t75, (I 3)] h30 fun t76 h32 =>
  asm_source_sized_b2 s12 h32 next0) (
  qUn .not s6 fun t64 =>
  ifB t64 (
  qNil s3 fun t68 =>
  qFieldAddr 0 t68 fun t69 =>
  qLoad1 t69 h30 fun t70 =>
  qNil s3 fun t72 =>
  qFieldAddr 1 t72 fun t73 =>
  qFieldAddr 0 t73 fun t74 =>
  qLoad1 t74 h30 fun t75 =>
  C fn_asm_source_tell [s0, t70, t75, (I 3)] h30 fun t76 h33 =>
  asm_source_sized_b2 s12 h33 next0) (
  asm_source_sized_b2 s12 h30 next0)))
def asm_source_sized_l35 (s11 s10 s0 : AV) (Q : QT) (vs0 : List AV) (h : AHeap) (next0 : NT) : Prop :=
  qBin .lss (nthA vs0 0) s11 fun t13 =>
  ifB t13 (
  qIndexAddr 1 s10 (nthA vs0 0) fun t14 =>
  qLoad1 t14 h fun t15 =>
  qNil t15 fun t17 =>
  qFieldAddr 1 t17 fun t18 =>
  qFieldAddr 2 t18 fun t19 =>
  qLoad1 t19 h fun t20 =>
  qBin .neq t20 (I 7) fun t21 =>
  ifB t21 (qNil t15 fun t24 =>
  qFieldAddr 1 t24 fun t25 =>
  qFieldAddr 2 t25 fun t26 =>
  qLoad1 t26 h fun t27 =>
  qBin .neq t27 (I 8) fun t28 =>
  ifB t28 (
  asm_source_sized_b2 (nthA vs0 0) h next0) (
  qNil s0 fun t34 =>
  qFieldAddr 1 t34 fun t35 =>
  qLoad1 t35 h fun t36 =>
  C fn_asm_entry_last [t15] h fun t32 h3 =>
  (qLoad1 t35 h3 fun _t =>
  _t = t36) ∧
  C fn_asm_eval [t32, (I 0), t36] h3 fun t37 h4 =>
  qExtract 0 t37 fun t38 =>
  qExtract 1 t37 fun t39 =>
  qBin .geq t38 (I 0) fun t41 =>
  ifB t41 (qBin .leq t38 (I 1000) fun t44 =>
  qNil t15 fun t47 =>
  qFieldAddr 1 t47 fun t48 =>
  qFieldAddr 2 t48 fun t49 =>
  qLoad1 t49 h4 fun t50 =>
  qBin .eql t50 (I 7) fun t51 =>
  ifB t51 (
  qBuildSlice 5 1 [(I 1), (I 2), (I 4), (I 8), (I 16)] fun t52 =>
  C fn_slices_Contains__int_int [t52, t38] h4 fun t54 h5 =>
  asm_source_sized_j11 t54 t39 t15 (nthA vs0 0) s0 h5 next0) (
  asm_source_sized_j11 t44 t39 t15 (nthA vs0 0) s0 h4 next0)) (
  qNil t15 fun t47 =>
  qFieldAddr 1 t47 fun t48 =>
  qFieldAddr 2 t48 fun t49 =>
  qLoad1 t49 h4 fun t50 =>
  qBin .eql t50 (I 7) fun t51 =>
  ifB t51 (
  qBuildSlice 5 1 [(I 1), (I 2), (I 4), (I 8), (I 16)] fun t52 =>
  C fn_slices_Contains__int_int [t52, t38] h4 fun t54 h12 =>
  asm_source_sized_j18 t54 t39 t15 (nthA vs0 0) s0 h12 next0) (
  asm_source_sized_j18 (B false) t39 t15 (nthA vs0 0) s0 h4 next0)))) (
  qNil s0 fun t34 =>
  qFieldAddr 1 t34 fun t35 =>
  qLoad1 t35 h fun t36 =>
  C fn_asm_entry_last [t15] h fun t32 h19 =>
  (qLoad1 t35 h19 fun _t =>
  _t = t36) ∧
  C fn_asm_eval [t32, (I 0), t36] h19 fun t37 h20 =>
  qExtract 0 t37 fun t38 =>
  qExtract 1 t37 fun t39 =>
  qBin .geq t38 (I 0) fun t41 =>
  ifB t41 (qBin .leq t38 (I 1000) fun t44 =>
  qNil t15 fun t47 =>
  qFieldAddr 1 t47 fun t48 =>
  qFieldAddr 2 t48 fun t49 =>
  qLoad1 t49 h20 fun t50 =>
  qBin .eql t50 (I 7) fun t51 =>
  ifB t51 (
  qBuildSlice 5 1 [(I 1), (I 2), (I 4), (I 8), (I 16)] fun t52 =>
  C fn_slices_Contains__int_int [t52, t38] h20 fun t54 h21 =>
  asm_source_sized_j27 t54 t39 t15 (nthA vs0 0) s0 h21 next0) (
  asm_source_sized_j27 t44 t39 t15 (nthA vs0 0) s0 h20 next0)) (
  qNil t15 fun t47 =>
  qFieldAddr 1 t47 fun t48 =>
  qFieldAddr 2 t48 fun t49 =>
  qLoad1 t49 h20 fun t50 =>
  qBin .eql t50 (I 7) fun t51 =>
  ifB t51 (
  qBuildSlice 5 1 [(I 1), (I 2), (I 4), (I 8), (I 16)] fun t52 =>
  C fn_slices_Contains__int_int [t52, t38] h20 fun t54 h28 =>
  asm_source_sized_j34 t54 t39 t15 (nthA vs0 0) s0 h28 next0) (
  asm_source_sized_j34 (B false) t39 t15 (nthA vs0 0) s0 h20 next0)))) (
  Q (.tup []) h)
def asm_source_sized (a0 : AV) (h : AHeap) (Q : QT) : Prop :=
  qNil a0 fun t8 =>
  qFieldAddr 0 t8 fun t9 =>
  qLoad1 t9 h fun t10 =>
  qLenL t10 fun t11 =>
  Loop [(I 0)] h fun vs0 h next0 => asm_source_sized_l35 t11 t10 a0 Q vs0 h next0
theorem asm_source_sized_ok (a0 : AV) (h : AHeap) (Q : QT) (k : asm_source_sized a0 h Q) : C fn_asm_source_sized [a0] h Q :=
  okF (pl := [(2, [3, 4, 5, 6, 12, 13, 14, 15, 16, 17, 18, 19, 20, 21, 22, 23, 24, 25, 26, 27, 28, 29, 30, 31, 32, 33, 34, 35, 36, 37, 38, 39, 40, 41, 42, 43, 44, 45, 46, 47, 48, 49, 50, 51, 52, 53, 54, 55, 56, 57, 58, 59, 60, 61, 62, 63, 64, 65, 66, 67, 68, 69, 70, 71, 72, 73, 74, 75, 76, 77], [12]), (1000004, [0, 2, 3, 4, 5, 1, 6, 7, 8, 9, 10, 11], []), (1000009, [0, 1, 2, 3, 4, 5, 6, 7, 8, 9, 10], [])]) Tryz.func31 Tryz.ntmps31 (by kernel_rfl) (by kernel_rfl) rfl (by kernel_rfl) k
def asm_source_tell (a0 a1 a2 a3 : AV) (h : AHeap) (Q : QT) : Prop :=
  qNil a0 fun t10 =>
  qFieldAddr 3 t10 fun t11 =>
  qLoad1 t11 h fun t12 =>
  qBuild [(S ⟨#[]⟩), (I 0), (I 0)] [(0, 1, a1), (1, 1, a2), (2, 1, a3)] fun t16 =>
  qBuildSlice 1 3 [t16] fun t17 =>
  qAppend 3 32 t12 t17 h fun t18 h0 =>
  qNil a0 fun t19 =>
  qFieldAddr 3 t19 fun t20 =>
  qStore 1 t20 t18 h0 fun h1 =>
  Q (.tup []) h1
theorem asm_source_tell_ok (a0 a1 a2 a3 : AV) (h : AHeap) (Q : QT) (k : asm_source_tell a0 a1 a2 a3 h Q) : C fn_asm_source_tell [a0, a1, a2, a3] h Q :=
  okF (pl := []) Tryz.func46 Tryz.ntmps46 (by kernel_rfl) (by kernel_rfl) rfl (by kernel_rfl) k
def asm_source_twice_j8 (s52 : AV) (h : AHeap) (next7 : NT) : Prop :=
  qBin .add s52 (I 1) fun t77 =>
  next7 [t77] h
def asm_source_twice_b9 (s52 : AV) (h : AHeap) (next7 : NT) : Prop :=
  asm_source_twice_j8 s52 h next7
def asm_source_twice_j12 (s8 s52 s2 : AV) (h : AHeap) (next7 : NT) : Prop :=
  qLookup .string false (I 0) s2 s8 h fun t75 =>
  qBin .add t75 (I 1) fun t76 =>
  qMapUpdate .string s2 s8 t76 h fun h11 =>
  asm_source_twice_b9 s52 h11 next7
def asm_source_twice_l13 (s51 s50 s5 s26 s2 s0 : AV) (next5 : NT) (vs7 : List AV) (h : AHeap) (next7 : NT) : Prop :=
  qBin .lss (nthA vs7 0) s51 fun t53 =>
  ifB t53 (
  qIndexAddr 1 s50 (nthA vs7 0) fun t54 =>
  qLoad1 t54 h fun t55 =>
  qBin .eql t55 (S ⟨#[]⟩) fun t57 =>
  ifB t57 (
  asm_source_twice_b9 (nthA vs7 0) h next7) (
  qLookup .string false (I 0) s2 t55 h fun t60 =>
  qBin .gtr t60 (I 0) fun t61 =>
  ifB t61 (
  qNil s5 fun t64 =>
  qFieldAddr 0 t64 fun t65 =>
  qLoad1 t65 h fun t66 =>
  qNil s5 fun t68 =>
  qFieldAddr 1 t68 fun t69 =>
  qFieldAddr 0 t69 fun t70 =>
  qLoad1 t70 h fun t71 =>
  C fn_asm_source_tell [s0, t66, t71, (I 2)] h fun t72 h10 =>
  asm_source_twice_j12 t55 (nthA vs7 0) s2 h10 next7) (
  asm_source_twice_j12 t55 (nthA vs7 0) s2 h next7))) (
  qBin .add s26 (I 1) fun t78 =>
  next5 [t78] h)
def asm_source_twice_j14 (s6 s5 s26 s2 s0 : AV) (h : AHeap) (next5 : NT) : Prop :=
  qLenL s6 fun t51 =>
  Loop [(I 0)] h fun vs7 h next7 => asm_source_twice_l13 t51 s6 s5 s26 s2 s0 next5 vs7 h next7
def asm_source_twice_l15 (s25 s24 s2 s0 : AV) (Q : QT) (vs5 : List AV) (h : AHeap) (next5 : NT) : Prop :=
  qBin .lss (nthA vs5 0) s25 fun t27 =>
  ifB t27 (
  qIndexAddr 1 s24 (nthA vs5 0) fun t28 =>
  qLoad1 t28 h fun t29 =>
  qNil t29 fun t31 =>
  qFieldAddr 1 t31 fun t32 =>
  qFieldAddr 1 t32 fun t33 =>
  qLoad1 t33 h fun t34 =>
  qBuildSlice 1 1 [t34] fun t35 =>
  qNil t29 fun t37 =>
  qFieldAddr 1 t37 fun t38 =>
  qFieldAddr 2 t38 fun t39 =>
  qLoad1 t39 h fun t40 =>
  qBin .eql t40 (I 9) fun t41 =>
  ifB t41 (
  qNil t29 fun t44 =>
  qFieldAddr 1 t44 fun t45 =>
  qFieldAddr 4 t45 fun t46 =>
  qLoad1 t46 h fun t47 =>
  qBuildSlice 1 1 [t47] fun t48 =>
  qAppend 1 16 t35 t48 h fun t49 h6 =>
  asm_source_twice_j14 t49 t29 (nthA vs5 0) s2 s0 h6 next5) (
  asm_source_twice_j14 t35 t29 (nthA vs5 0) s2 s0 h next5)) (
  Q (.tup []) h)
def asm_source_twice_l16 (s14 s2 s0 : AV) (Q : QT) (h : AHeap) (next2 : NT) : Prop :=
  qNextM s14 h fun t15 h3 =>
  qExtract 0 t15 fun t16 =>
  ifB t16 (
  qEntry s14 h3 fun t17 =>
  qExtract 0 t17 fun t18 =>
  qMapUpdate .string s2 t18 (I 1) h3 fun h4 =>
  next2 [] h4) (
  qNil s0 fun t22 =>
  qFieldAddr 0 t22 fun t23 =>
  qLoad1 t23 h3 fun t24 =>
  qLenL t24 fun t25 =>
  Loop [(I 0)] h3 fun vs5 h next5 => asm_source_twice_l15 t25 t24 s2 s0 Q vs5 h next5)
def asm_source_twice (a0 : AV) (h : AHeap) (Q : QT) : Prop :=
  qMakeMap h fun t9 h0 =>
  qNil a0 fun t11 =>
  qFieldAddr 1 t11 fun t12 =>
  qLoad1 t12 h0 fun t13 =>
  qRangeM t13 h0 fun t14 h1 =>
  Loop [] h1 fun _ h next2 => asm_source_twice_l16 t14 t9 a0 Q h next2
theorem asm_source_twice_ok (a0 : AV) (h : AHeap) (Q : QT) (k : asm_source_twice a0 h Q) : C fn_asm_source_twice [a0] h Q :=
  okF (pl := [(3, [3, 15, 16, 17, 18, 19, 20], []), (7, [5, 6, 8, 26, 27, 28, 29, 30, 31, 32, 33, 34, 35, 36, 37, 38, 39, 40, 41, 42, 43, 44, 45, 46, 47, 48, 49, 50, 51, 52, 53, 54, 55, 56, 57, 58, 59, 60, 61, 62, 63, 64, 65, 66, 67, 68, 69, 70, 71, 72, 73, 74, 75, 76, 77, 78], [26]), (13, [8, 52, 53, 54, 55, 56, 57, 58, 59, 60, 61, 62, 63, 64, 65, 66, 67, 68, 69, 70, 71, 72, 73, 74, 75, 76, 77], [52]), (1000016, [0, 1, 2, 3, 4, 5, 6, 7, 8, 9, 10], [])]) Tryz.func30 Tryz.ntmps30 (by kernel_rfl) (by kernel_rfl) rfl (by kernel_rfl) k
def asm_source_values_j5 (s10 s9 s4 s5 s6 s17 : AV) (h : AHeap) (next0 : NT) (Q : QT) : Prop :=
  qBin .neq s10 (I 0) fun t40 =>
  ifB t40 (
  Q (.tup [(.full 0 []), s10]) h) (
  qBuildSlice 1 1 [s9] fun t44 =>
  qAppend 1 8 s6 t44 h fun t45 h4 =>
  qBin .add s17 (I 1) fun t46 =>
  next0 [s4, s5, t45, t46] h4)
def asm_source_values_l6 (s16 s15 s0 s1 : AV) (Q : QT) (vs0 : List AV) (h : AHeap) (next0 : NT) : Prop :=
  qBin .lss (nthA vs0 3) s16 fun t18 =>
  ifB t18 (
  qIndexAddr 5 s15 (nthA vs0 3) fun t19 =>
  qLoadA 5 t19 h fun t20 =>
  qNew [(I 0), (I 0), (I 0), (S ⟨#[]⟩), (.full 0 [])] h fun t8 h1 =>
  qStore 5 t8 t20 h1 fun h2 =>
  qFieldAddr 0 t8 fun t21 =>
  qLoad1 t21 h2 fun t22 =>
  qBin .lss t22 (I 0) fun t24 =>
  ifB t24 (
  qFieldAddr 1 t8 fun t26 =>
  qLoadA 4 t26 h2 fun t27 =>
  qNil s1 fun t29 =>
  qFieldAddr 7 t29 fun t30 =>
  qLoad1 t30 h2 fun t31 =>
  qNil s0 fun t33 =>
  qFieldAddr 2 t33 fun t34 =>
  qLoad1 t34 h2 fun t35 =>
  C fn_asm_eval [t27, t31, t35] h2 fun t36 h3 =>
  qExtract 0 t36 fun t37 =>
  qExtract 1 t36 fun t38 =>
  asm_source_values_j5 t38 t37 (nthA vs0 0) (nthA vs0 1) (nthA vs0 2) (nthA vs0 3) h3 next0 Q) (
  asm_source_values_j5 (I 0) t22 (nthA vs0 0) (nthA vs0 1) (nthA vs0 2) (nthA vs0 3) h2 next0 Q)) (
  Q (.tup [(nthA vs0 2), (I 0)]) h)
def asm_source_values (a0 a1 : AV) (h : AHeap) (Q : QT) : Prop :=
  qNil a1 fun t12 =>
  qFieldAddr 1 t12 fun t13 =>
  qFieldAddr 5 t13 fun t14 =>
  qLoad1 t14 h fun t15 =>
  qLenL t15 fun t16 =>
  Loop [(.full 0 []), (I 0), (.full 0 []), (I 0)] h fun vs0 h next0 => asm_source_values_l6 t16 t15 a0 a1 Q vs0 h next0
theorem asm_source_values_ok (a0 a1 : AV) (h : AHeap) (Q : QT) (k : asm_source_values a0 a1 h Q) : C fn_asm_source_values [a0, a1] h Q :=
  okF (pl := [(4, [4, 5, 6, 8, 9, 10, 17, 18, 19, 20, 21, 22, 23, 24, 25, 26, 27, 28, 29, 30, 31, 32, 33, 34, 35, 36, 37, 38, 39, 40, 41, 42, 43, 44, 45, 46], [4, 5, 6, 17]), (1000007, [0, 1, 2, 3, 4, 5, 6, 7, 8, 9, 10, 11, 12, 13, 14, 15], [])]) Tryz.func34 Tryz.ntmps34 (by kernel_rfl) (by kernel_rfl) rfl (by kernel_rfl) k
def wrEnd (h : AHeap) (Q : QT) : Prop := Q (I 0) h
def wrOne (a1 t37 : AV) (h : AHeap) (Q : QT) : Prop :=
  qNil a1 fun t94 =>
  qFieldAddr 1 t94 fun t95 =>
  qFieldAddr 2 t95 fun t96 =>
  qLoad1 t96 h fun t97 =>
  C fn_asm_within [t97] h fun t98 h5 =>
  qExtract 0 t98 fun t99 =>
  qExtract 1 t98 fun t100 =>
  C fn_slices_Min__int_int [t37] h5 fun t102 h6 =>
  qBin .lss t102 t99 fun t104 =>
  ifB t104 (Q (I 6) h6) (
  C fn_slices_Max__int_int [t37] h6 fun t107 h7 =>
  qBin .gtr t107 t100 fun t109 =>
  ifB t109 (
  Q (I 6) h7) (
  wrEnd h7 Q))
def wrData (a1 t37 : AV) (h : AHeap) (Q : QT) : Prop :=
  qNil a1 fun t71 =>
  qFieldAddr 1 t71 fun t72 =>
  qFieldAddr 2 t72 fun t73 =>
  qLoad1 t73 h fun t74 =>
  qBin .eql t74 (I 3) fun t75 =>
  ifB t75 (wrOne a1 t37 h Q) (
  qNil a1 fun t78 =>
  qFieldAddr 1 t78 fun t79 =>
  qFieldAddr 2 t79 fun t80 =>
  qLoad1 t80 h fun t81 =>
  qBin .eql t81 (I 4) fun t82 =>
  ifB t82 (wrOne a1 t37 h Q) (
  qNil a1 fun t86 =>
  qFieldAddr 1 t86 fun t87 =>
  qFieldAddr 2 t87 fun t88 =>
  qLoad1 t88 h fun t89 =>
  qBin .eql t89 (I 5) fun t90 =>
  ifB t90 (wrOne a1 t37 h Q) (
  wrEnd h Q)))
def wrCode (a1 t37 : AV) (h : AHeap) (Q : QT) : Prop :=
  C fn_asm_entry_full [a1, t37] h fun t65 h3 =>
  C fn_isa_Right [t65] h3 fun t66 h4 =>
  qUn .not t66 fun t67 =>
  ifB t67 (
  Q (I 6) h4) (
  wrData a1 t37 h4 Q)
def wrA (a1 t37 t38 : AV) (h : AHeap) (Q : QT) : Prop :=
  qBin .neq t38 (I 0) fun t58 =>
  ifB t58 (
  Q t38 h) (
  wrCode a1 t37 h Q)
def wrB (t22 a1 t37 t38 : AV) (h : AHeap) (Q : QT) : Prop :=
  qBin .neq t38 (I 0) fun t58 =>
  ifB t58 (
  Q t38 h) (
  ifB t22 (wrCode a1 t37 h Q) (wrData a1 t37 h Q))
def wrVals (a0 a1 : AV) (tail : AV → QT) (h : AHeap) (Q : QT) : Prop :=
  C fn_asm_source_values [a0, a1] h fun t36 h0 =>
  qExtract 0 t36 fun t37 =>
  qExtract 1 t36 fun t38 =>
  qBin .eql t38 (I 4) fun t41 =>
  ifB t41 (qNil a1 fun t44 =>
  qFieldAddr 1 t44 fun t45 =>
  qFieldAddr 2 t45 fun t46 =>
  qLoad1 t46 h0 fun t47 =>
  qBin .eql t47 (I 9) fun t48 =>
  ifB t48 (C fn_asm_entry_last [a1] h0 fun t53 h1 =>
  C fn_asm_source_declared [a0, t53] h1 fun t54 h2 =>
  ifB t54 (
  Q (I 5) h2) (
  tail t37 t38 h2)) (
  tail t37 t38 h0)) (
  tail t37 t38 h0)
def asm_source_wrong (a0 a1 : AV) (h : AHeap) (Q : QT) : Prop :=
  qNil a1 fun t11 =>
  qFieldAddr 1 t11 fun t12 =>
  qFieldAddr 2 t12 fun t13 =>
  qLoad1 t13 h fun t14 =>
  qBin .eql t14 (I 1) fun t15 =>
  ifB t15 (qNil a1 fun t27 =>
  qFieldAddr 7 t27 fun t28 =>
  qLoad1 t28 h fun t29 =>
  qBin .rem t29 (I 2) fun t30 =>
  qBin .neq t30 (I 0) fun t31 =>
  ifB t31 (
  Q (I 7) h) (
  wrVals a0 a1 (fun t37 t38 h => wrA a1 t37 t38 h Q) h Q)) (
  qNil a1 fun t18 =>
  qFieldAddr 1 t18 fun t19 =>
  qFieldAddr 2 t19 fun t20 =>
  qLoad1 t20 h fun t21 =>
  qBin .eql t21 (I 2) fun t22 =>
  ifB t22 (qNil a1 fun t27 =>
  qFieldAddr 7 t27 fun t28 =>
  qLoad1 t28 h fun t29 =>
  qBin .rem t29 (I 2) fun t30 =>
  qBin .neq t30 (I 0) fun t31 =>
  ifB t31 (
  Q (I 7) h) (
  wrVals a0 a1 (fun t37 t38 h => wrB t22 a1 t37 t38 h Q) h Q)) (
  wrVals a0 a1 (fun t37 t38 h => wrB t22 a1 t37 t38 h Q) h Q))
theorem asm_source_wrong_ok (a0 a1 : AV) (h : AHeap) (Q : QT) (k : asm_source_wrong a0 a1 h Q) : C fn_asm_source_wrong [a0, a1] h Q :=
  okF (pl := []) Tryz.func51 Tryz.ntmps51 (by kernel_rfl) (by kernel_rfl) rfl (by kernel_rfl) k
def asm_within (a0 : AV) (h : AHeap) (Q : QT) : Prop :=
  qBin .eql a0 (I 3) fun t6 =>
  ifB t6 (
  Q (.tup [(I (-128)), (I 255)]) h) (
  qBin .eql a0 (I 4) fun t8 =>
  ifB t8 (
  Q (.tup [(I (-32768)), (I 65535)]) h) (
  Q (.tup [(I (-2147483648)), (I 4294967295)]) h))
theorem asm_within_ok (a0 : AV) (h : AHeap) (Q : QT) (k : asm_within a0 h Q) : C fn_asm_within [a0] h Q :=
  okF (pl := []) Tryz.func79 Tryz.ntmps79 (by kernel_rfl) (by kernel_rfl) rfl (by kernel_rfl) k
def expr_Eval (a0 a1 a2 : AV) (h : AHeap) (Q : QT) : Prop :=
  qBox a0 h fun t3 h0 =>
  qFieldAddr 0 t3 fun t13 =>
  qLoad1 t13 h0 fun t14 =>
  qBin .eql t14 (I 1) fun t15 =>
  ifB t15 (
  qFieldAddr 1 t3 fun t16 =>
  qLoad1 t16 h0 fun t17 =>
  C fn_expr_bound [t17] h0 fun t18 h1 =>
  qExtract 0 t18 fun t19 =>
  qExtract 1 t18 fun t20 =>
  Q (.tup [t19, t20]) h1) (
  qFieldAddr 0 t3 fun t22 =>
  qLoad1 t22 h0 fun t23 =>
  qBin .eql t23 (I 3) fun t24 =>
  ifB t24 (
  C fn_expr_bound [a1] h0 fun t26 h2 =>
  qExtract 0 t26 fun t27 =>
  qExtract 1 t26 fun t28 =>
  Q (.tup [t27, t28]) h2) (
  qFieldAddr 0 t3 fun t30 =>
  qLoad1 t30 h0 fun t31 =>
  qBin .eql t31 (I 2) fun t32 =>
  ifB t32 (
  C fn_slices_IndexFunc__api_Sym_api_Sym [a2, (.fn (.func fn_expr_Eval_1) [] [t3])] h0 fun t35 h3 =>
  qBin .lss t35 (I 0) fun t37 =>
  ifB t37 (
  Q (.tup [(I 0), (I 4)]) h3) (
  qIndexAddr 2 a2 t35 fun t40 =>
  qFieldAddr 1 t40 fun t41 =>
  qLoad1 t41 h3 fun t42 =>
  C fn_expr_bound [t42] h3 fun t43 h4 =>
  qExtract 0 t43 fun t44 =>
  qExtract 1 t43 fun t45 =>
  Q (.tup [t44, t45]) h4)) (
  qFieldAddr 3 t3 fun t47 =>
  qLoad1 t47 h0 fun t48 =>
  qLenL t48 fun t49 =>
  qBin .eql t49 (I 0) fun t50 =>
  ifB t50 (
  Q (.tup [(I 0), (I 6)]) h0) (
  qFieldAddr 3 t3 fun t52 =>
  qLoad1 t52 h0 fun t53 =>
  qIndexAddr 4 t53 (I 0) fun t54 =>
  qLoadA 4 t54 h0 fun t55 =>
  C fn_expr_Eval [t55, a1, a2] h0 fun t58 h5 =>
  qExtract 0 t58 fun t59 =>
  qExtract 1 t58 fun t60 =>
  qBin .neq t60 (I 0) fun t63 =>
  ifB t63 (
  Q (.tup [(I 0), t60]) h5) (
  qFieldAddr 3 t3 fun t66 =>
  qLoad1 t66 h5 fun t67 =>
  qLenL t67 fun t68 =>
  qBin .eql t68 (I 1) fun t69 =>
  ifB t69 (
  qUn .neg t59 fun t71 =>
  C fn_expr_bound [t71] h5 fun t72 h6 =>
  qExtract 0 t72 fun t73 =>
  qExtract 1 t72 fun t74 =>
  Q (.tup [t73, t74]) h6) (
  qFieldAddr 3 t3 fun t76 =>
  qLoad1 t76 h5 fun t77 =>
  qIndexAddr 4 t77 (I 1) fun t78 =>
  qLoadA 4 t78 h5 fun t79 =>
  C fn_expr_Eval [t79, a1, a2] h5 fun t82 h7 =>
  qExtract 0 t82 fun t83 =>
  qExtract 1 t82 fun t84 =>
  qBin .neq t84 (I 0) fun t86 =>
  ifB t86 (
  Q (.tup [(I 0), t84]) h7) (
  qFieldAddr 0 t3 fun t88 =>
  qLoad1 t88 h7 fun t89 =>
  C fn_expr_both [t89, t59, t83] h7 fun t92 h8 =>
  qExtract 0 t92 fun t93 =>
  qExtract 1 t92 fun t94 =>
  Q (.tup [t93, t94]) h8)))))))
theorem expr_Eval_ok (a0 a1 a2 : AV) (h : AHeap) (Q : QT) (k : expr_Eval a0 a1 a2 h Q) : C fn_expr_Eval [a0, a1, a2] h Q :=
  okF (pl := []) Tryz.func73 Tryz.ntmps73 (by kernel_rfl) (by kernel_rfl) rfl (by kernel_rfl) k
def expr_Eval_1 (a0 a1 : AV) (h : AHeap) (Q : QT) : Prop :=
  qBox a0 h fun t2 h0 =>
  qFieldAddr 0 t2 fun t4 =>
  qLoad1 t4 h0 fun t5 =>
  qFieldAddr 2 a1 fun t6 =>
  qLoad1 t6 h0 fun t7 =>
  qBin .eql t5 t7 fun t8 =>
  Q t8 h0
theorem expr_Eval_1_ok (a0 a1 : AV) (h : AHeap) (Q : QT) (k : expr_Eval_1 a0 a1 h Q) : C fn_expr_Eval_1 [a0, a1] h Q :=
  okF (pl := []) Tryz.func111 Tryz.ntmps111 (by kernel_rfl) (by kernel_rfl) rfl (by kernel_rfl) k
def expr_Names_j9 (s3 s26 : AV) (h : AHeap) (next6 : NT) : Prop :=
  qBin .add s26 (I 1) fun t38 =>
  next6 [s3, t38] h
def expr_Names_b10 (s3 s26 : AV) (h : AHeap) (next6 : NT) : Prop :=
  expr_Names_j9 s3 s26 h next6
def expr_Names_l11 (s25 s24 s19 : AV) (next2 : NT) (vs6 : List AV) (h : AHeap) (next6 : NT) : Prop :=
  qBin .lss (nthA vs6 1) s25 fun t27 =>
  ifB t27 (
  qIndexAddr 1 s24 (nthA vs6 1) fun t28 =>
  qLoad1 t28 h fun t29 =>
  C fn_slices_Contains__string_string [(nthA vs6 0), t29] h fun t32 h7 =>
  qUn .not t32 fun t33 =>
  ifB t33 (
  qBuildSlice 1 1 [t29] fun t36 =>
  qAppend 1 16 (nthA vs6 0) t36 h7 fun t37 h8 =>
  expr_Names_b10 t37 (nthA vs6 1) h8 next6) (
  expr_Names_b10 (nthA vs6 0) (nthA vs6 1) h7 next6)) (
  qBin .add s19 (I 1) fun t39 =>
  next2 [(nthA vs6 0), t39] h)
def expr_Names_l13 (s18 s17 : AV) (Q : QT) (vs2 : List AV) (h : AHeap) (next2 : NT) : Prop :=
  qBin .lss (nthA vs2 1) s18 fun t20 =>
  ifB t20 (
  qIndexAddr 4 s17 (nthA vs2 1) fun t21 =>
  qLoadA 4 t21 h fun t22 =>
  qNew [(I 0), (I 0), (S ⟨#[]⟩), (.full 0 [])] h fun t5 h3 =>
  qStore 4 t5 t22 h3 fun h4 =>
  qLoadA 4 t5 h4 fun t23 =>
  C fn_expr_Names [t23] h4 fun t24 h5 =>
  qLenL t24 fun t25 =>
  Loop [(nthA vs2 0), (I 0)] h5 fun vs6 h next6 => expr_Names_l11 t25 t24 (nthA vs2 1) next2 vs6 h next6) (
  C fn_slices_Clone__string_string [(nthA vs2 0)] h fun t41 h12 =>
  Q t41 h12)
def expr_Names_j14 (s3 s1 : AV) (h : AHeap) (Q : QT) : Prop :=
  qFieldAddr 3 s1 fun t16 =>
  qLoad1 t16 h fun t17 =>
  qLenL t17 fun t18 =>
  Loop [s3, (I 0)] h fun vs2 h next2 => expr_Names_l13 t18 t17 Q vs2 h next2
def expr_Names (a0 : AV) (h : AHeap) (Q : QT) : Prop :=
  qBox a0 h fun t1 h0 =>
  qFieldAddr 0 t1 fun t8 =>
  qLoad1 t8 h0 fun t9 =>
  qBin .eql t9 (I 2) fun t10 =>
  ifB t10 (
  qFieldAddr 2 t1 fun t12 =>
  qLoad1 t12 h0 fun t13 =>
  qBuildSlice 1 1 [t13] fun t14 =>
  qAppend 1 16 (.full 0 []) t14 h0 fun t15 h1 =>
  expr_Names_j14 t15 t1 h1 Q) (
  expr_Names_j14 (.full 0 []) t1 h0 Q)
theorem expr_Names_ok (a0 : AV) (h : AHeap) (Q : QT) (k : expr_Names a0 h Q) : C fn_expr_Names [a0] h Q :=
  okF (pl := [(6, [3, 5, 7, 19, 20, 21, 22, 23, 24, 25, 26, 27, 28, 29, 30, 31, 32, 33, 34, 35, 36, 37, 38, 39], [3, 19]), (9, [3, 7, 26, 27, 28, 29, 30, 31, 32, 33, 34, 35, 36, 37, 38], [3, 26])]) Tryz.func68 Tryz.ntmps68 (by kernel_rfl) (by kernel_rfl) rfl (by kernel_rfl) k
def expr_Parse (a0 : AV) (h : AHeap) (Q : QT) : Prop :=
  qNew [(I 0), (I 0), (S ⟨#[]⟩), (.full 0 [])] h fun t2 h0 =>
  qBuild [(S ⟨#[]⟩), (I 0), (B false)] [(0, 1, a0)] fun t6 =>
  qBox t6 h0 fun t7 h1 =>
  C fn_expr_parser_two [t7, (I 0)] h1 fun t9 h2 =>
  qStore 4 t2 t9 h2 fun h3 =>
  C fn_expr_parser_blanks [t7] h3 fun t11 h4 =>
  qNil t7 fun t13 =>
  qFieldAddr 2 t13 fun t14 =>
  qLoad1 t14 h4 fun t15 =>
  ifB t15 (qBuild [(I 0), (I 0), (S ⟨#[]⟩), (.full 0 [])] [] fun t23 =>
  qStore 4 t2 t23 h4 fun h5 =>
  qLoadA 4 t2 h5 fun r6 =>
  Q (.tup [r6, (B false)]) h5) (
  qNil t7 fun t18 =>
  qFieldAddr 0 t18 fun t19 =>
  qLoad1 t19 h4 fun t20 =>
  qBin .neq t20 (S ⟨#[]⟩) fun t21 =>
  ifB t21 (
  qBuild [(I 0), (I 0), (S ⟨#[]⟩), (.full 0 [])] [] fun t23 =>
  qStore 4 t2 t23 h4 fun h7 =>
  qLoadA 4 t2 h7 fun r8 =>
  Q (.tup [r8, (B false)]) h7) (
  qLoadA 4 t2 h4 fun t24 =>
  qStore 4 t2 t24 h4 fun h9 =>
  qLoadA 4 t2 h9 fun r10 =>
  Q (.tup [r10, (B true)]) h9))
theorem expr_Parse_ok (a0 : AV) (h : AHeap) (Q : QT) (k : expr_Parse a0 h Q) : C fn_expr_Parse [a0] h Q :=
  okF (pl := []) Tryz.func168 Tryz.ntmps168 (by kernel_rfl) (by kernel_rfl) rfl (by kernel_rfl) k
def expr_as_l4 (s8 s0 s1 : AV) (Q : QT) (vs1 : List AV) (h : AHeap) (next1 : NT) : Prop :=
  qNextS s8 h fun t9 h2 =>
  qExtract 0 t9 fun t10 =>
  ifB t10 (
  qExtract 1 t9 fun t11 =>
  qExtract 2 t9 fun t12 =>
  CV s1 [t12] h2 fun t15 h3 =>
  qUn .not t15 fun t16 =>
  ifB t16 (
  qSliceS s0 none (some t11) fun t19 =>
  Q t19 h3) (
  next1 [(nthA vs1 0)] h3)) (
  Q s0 h2)
def expr_as (a0 a1 : AV) (h : AHeap) (Q : QT) : Prop :=
  qRangeS a0 h fun t8 h0 =>
  Loop [(S ⟨#[]⟩)] h0 fun vs1 h next1 => expr_as_l4 t8 a0 a1 Q vs1 h next1
theorem expr_as_ok (a0 a1 : AV) (h : AHeap) (Q : QT) (k : expr_as a0 a1 h Q) : C fn_expr_as [a0, a1] h Q :=
  okF (pl := [(3, [4, 5, 6, 9, 10, 11, 12, 13, 14, 15, 16, 17, 18, 19], [4])]) Tryz.func205 Tryz.ntmps205 (by kernel_rfl) (by kernel_rfl) rfl (by kernel_rfl) k
def expr_both (a0 a1 a2 : AV) (h : AHeap) (Q : QT) : Prop :=
  qBin .eql a0 (I 5) fun t10 =>
  ifB t10 (
  qBin .add a1 a2 fun t13 =>
  C fn_expr_bound [t13] h fun t14 h0 =>
  qExtract 0 t14 fun t15 =>
  qExtract 1 t14 fun t16 =>
  Q (.tup [t15, t16]) h0) (
  qBin .eql a0 (I 6) fun t18 =>
  ifB t18 (
  qBin .sub a1 a2 fun t21 =>
  C fn_expr_bound [t21] h fun t22 h1 =>
  qExtract 0 t22 fun t23 =>
  qExtract 1 t22 fun t24 =>
  Q (.tup [t23, t24]) h1) (
  qBin .eql a0 (I 7) fun t26 =>
  ifB t26 (
  C fn_expr_times [a1, a2] h fun t29 h2 =>
  qExtract 0 t29 fun t30 =>
  qExtract 1 t29 fun t31 =>
  Q (.tup [t30, t31]) h2) (
  qBin .eql a0 (I 8) fun t33 =>
  ifB t33 (
  qBin .and a1 a2 fun t36 =>
  C fn_expr_bound [t36] h fun t37 h3 =>
  qExtract 0 t37 fun t38 =>
  qExtract 1 t37 fun t39 =>
  Q (.tup [t38, t39]) h3) (
  qBin .eql a0 (I 9) fun t41 =>
  ifB t41 (
  qBin .or a1 a2 fun t44 =>
  C fn_expr_bound [t44] h fun t45 h4 =>
  qExtract 0 t45 fun t46 =>
  qExtract 1 t45 fun t47 =>
  Q (.tup [t46, t47]) h4) (
  qBin .lss a2 (I 0) fun t49 =>
  ifB t49 (Q (.tup [(I 0), (I 6)]) h) (
  qBin .gtr a2 (I 40) fun t52 =>
  ifB t52 (
  Q (.tup [(I 0), (I 6)]) h) (
  qBin .eql a0 (I 11) fun t55 =>
  ifB t55 (
  qBin .shr a1 a2 fun t58 =>
  C fn_expr_bound [t58] h fun t59 h5 =>
  qExtract 0 t59 fun t60 =>
  qExtract 1 t59 fun t61 =>
  Q (.tup [t60, t61]) h5) (
  qBin .shl (I 1) a2 fun t64 =>
  C fn_expr_times [a1, t64] h fun t65 h6 =>
  qExtract 0 t65 fun t66 =>
  qExtract 1 t65 fun t67 =>
  Q (.tup [t66, t67]) h6))))))))
theorem expr_both_ok (a0 a1 a2 : AV) (h : AHeap) (Q : QT) (k : expr_both a0 a1 a2 h Q) : C fn_expr_both [a0, a1, a2] h Q :=
  okF (pl := []) Tryz.func112 Tryz.ntmps112 (by kernel_rfl) (by kernel_rfl) rfl (by kernel_rfl) k
def expr_bound (a0 : AV) (h : AHeap) (Q : QT) : Prop :=
  qBin .lss a0 (I (-1099511627776)) fun t5 =>
  ifB t5 (Q (.tup [(I 0), (I 6)]) h) (
  qBin .gtr a0 (I 1099511627776) fun t8 =>
  ifB t8 (
  Q (.tup [(I 0), (I 6)]) h) (
  Q (.tup [a0, (I 0)]) h))
theorem expr_bound_ok (a0 : AV) (h : AHeap) (Q : QT) (k : expr_bound a0 h Q) : C fn_expr_bound [a0] h Q :=
  okF (pl := []) Tryz.func109 Tryz.ntmps109 (by kernel_rfl) (by kernel_rfl) rfl (by kernel_rfl) k
def expr_digit (a0 : AV) (h : AHeap) (Q : QT) : Prop :=
  qBin .geq a0 (.lit (.int .i32 48)) fun t4 =>
  ifB t4 (qBin .leq a0 (.lit (.int .i32 57)) fun t7 =>
  Q t7 h) (
  Q (B false) h)
theorem expr_digit_ok (a0 : AV) (h : AHeap) (Q : QT) (k : expr_digit a0 h Q) : C fn_expr_digit [a0] h Q :=
  okF (pl := []) Tryz.func209 Tryz.ntmps209 (by kernel_rfl) (by kernel_rfl) rfl (by kernel_rfl) k
def expr_hex (a0 : AV) (h : AHeap) (Q : QT) : Prop :=
  C fn_expr_digit [a0] h fun t4 h0 =>
  ifB t4 (Q (B true) h0) (
  qBin .geq a0 (.lit (.int .i32 97)) fun t7 =>
  ifT t7 (qBin .leq a0 (.lit (.int .i32 102)) fun t10 =>
  Q t10 h0) (
  Q (B false) h0) (
  ifB (.tup []) (Q (.tup []) h0) (Q (B false) h0)))
theorem expr_hex_ok (a0 : AV) (h : AHeap) (Q : QT) (k : expr_hex a0 h Q) : C fn_expr_hex [a0] h Q :=
  okF (pl := []) Tryz.func206 Tryz.ntmps206 (by kernel_rfl) (by kernel_rfl) rfl (by kernel_rfl) k
def expr_inner (a0 : AV) (h : AHeap) (Q : QT) : Prop :=
  C fn_expr_small [a0] h fun t4 h0 =>
  ifB t4 (Q (B true) h0) (
  C fn_expr_digit [a0] h0 fun t7 h1 =>
  Q t7 h1)
theorem expr_inner_ok (a0 : AV) (h : AHeap) (Q : QT) (k : expr_inner a0 h Q) : C fn_expr_inner [a0] h Q :=
  okF (pl := []) Tryz.func210 Tryz.ntmps210 (by kernel_rfl) (by kernel_rfl) rfl (by kernel_rfl) k
def expr_levels (h : AHeap) (Q : QT) : Prop :=
  qBuildSlice 1 1 [(I 9)] fun t1 =>
  qBuildSlice 1 1 [(I 8)] fun t2 =>
  qBuildSlice 2 1 [(I 10), (I 11)] fun t3 =>
  qBuildSlice 2 1 [(I 5), (I 6)] fun t4 =>
  qBuildSlice 1 1 [(I 7)] fun t5 =>
  qBuildSlice 5 1 [t1, t2, t3, t4, t5] fun t6 =>
  Q t6 h
theorem expr_levels_ok (h : AHeap) (Q : QT) (k : expr_levels  h Q) : C fn_expr_levels [] h Q :=
  okF (pl := []) Tryz.func193 Tryz.ntmps193 (by kernel_rfl) (by kernel_rfl) rfl (by kernel_rfl) k
def expr_parser_apart (a0 a1 : AV) (h : AHeap) (Q : QT) : Prop :=
  qBox a1 h fun t3 h0 =>
  qNew [(I 0), (I 0), (S ⟨#[]⟩), (.full 0 [])] h0 fun t4 h1 =>
  qNil a0 fun t6 =>
  qFieldAddr 0 t6 fun t7 =>
  qLoad1 t7 h1 fun t8 =>
  C fn_expr_as [t8, (.fn (.func fn_expr_inner) [] [])] h1 fun t9 h2 =>
  qBin .neq t9 (S ⟨#[]⟩) fun t10 =>
  ifB t10 (
  C fn_expr_parser_fail [a0] h2 fun t12 h3 =>
  qStore 4 t4 t12 h3 fun h4 =>
  qLoadA 4 t4 h4 fun r5 =>
  Q r5 h4) (
  qLoadA 4 t3 h2 fun t13 =>
  qStore 4 t4 t13 h2 fun h6 =>
  qLoadA 4 t4 h6 fun r7 =>
  Q r7 h6)
theorem expr_parser_apart_ok (a0 a1 : AV) (h : AHeap) (Q : QT) (k : expr_parser_apart a0 a1 h Q) : C fn_expr_parser_apart [a0, a1] h Q :=
  okF (pl := []) Tryz.func207 Tryz.ntmps207 (by kernel_rfl) (by kernel_rfl) rfl (by kernel_rfl) k
def expr_parser_blanks (a0 : AV) (h : AHeap) (Q : QT) : Prop :=
  qNil a0 fun t4 =>
  qFieldAddr 0 t4 fun t5 =>
  qLoad1 t5 h fun t6 =>
  C fn_strings_TrimLeft [t6, (S ⟨#[32]⟩)] h fun t7 h0 =>
  qNil a0 fun t8 =>
  qFieldAddr 0 t8 fun t9 =>
  qStore 1 t9 t7 h0 fun h1 =>
  Q (.tup []) h1
theorem expr_parser_blanks_ok (a0 : AV) (h : AHeap) (Q : QT) (k : expr_parser_blanks a0 h Q) : C fn_expr_parser_blanks [a0] h Q :=
  okF (pl := []) Tryz.func181 Tryz.ntmps181 (by kernel_rfl) (by kernel_rfl) rfl (by kernel_rfl) k
def expr_parser_fail (a0 : AV) (h : AHeap) (Q : QT) : Prop :=
  qNew [(I 0), (I 0), (S ⟨#[]⟩), (.full 0 [])] h fun t2 h0 =>
  qNil a0 fun t4 =>
  qFieldAddr 2 t4 fun t5 =>
  qStore 1 t5 (B true) h0 fun h1 =>
  qBuild [(I 0), (I 0), (S ⟨#[]⟩), (.full 0 [])] [] fun t6 =>
  qStore 4 t2 t6 h1 fun h2 =>
  qLoadA 4 t2 h2 fun r3 =>
  Q r3 h2
theorem expr_parser_fail_ok (a0 : AV) (h : AHeap) (Q : QT) (k : expr_parser_fail a0 h Q) : C fn_expr_parser_fail [a0] h Q :=
  okF (pl := []) Tryz.func212 Tryz.ntmps212 (by kernel_rfl) (by kernel_rfl) rfl (by kernel_rfl) k
def expr_parser_group (a0 : AV) (h : AHeap) (Q : QT) : Prop :=
  qNew [(I 0), (I 0), (S ⟨#[]⟩), (.full 0 [])] h fun t2 h0 =>
  C fn_expr_parser_two [a0, (I 0)] h0 fun t5 h1 =>
  qNew [(I 0), (I 0), (S ⟨#[]⟩), (.full 0 [])] h1 fun t3 h2 =>
  qStore 4 t3 t5 h2 fun h3 =>
  C fn_expr_parser_take [a0, (S ⟨#[41]⟩)] h3 fun t7 h4 =>
  qUn .not t7 fun t8 =>
  ifB t8 (
  C fn_expr_parser_fail [a0] h4 fun t10 h5 =>
  qStore 4 t2 t10 h5 fun h6 =>
  qLoadA 4 t2 h6 fun r7 =>
  Q r7 h6) (
  qLoadA 4 t3 h4 fun t11 =>
  qStore 4 t2 t11 h4 fun h8 =>
  qLoadA 4 t2 h8 fun r9 =>
  Q r9 h8)
theorem expr_parser_group_ok (a0 : AV) (h : AHeap) (Q : QT) (k : expr_parser_group a0 h Q) : C fn_expr_parser_group [a0] h Q :=
  okF (pl := []) Tryz.func202 Tryz.ntmps202 (by kernel_rfl) (by kernel_rfl) rfl (by kernel_rfl) k
def expr_parser_kind_l3 (s8 s7 s0 : AV) (Q : QT) (vs0 : List AV) (h : AHeap) (next0 : NT) : Prop :=
  qBin .lss (nthA vs0 1) s8 fun t10 =>
  ifB t10 (
  qIndexAddr 1 s7 (nthA vs0 1) fun t11 =>
  qLoad1 t11 h fun t12 =>
  C fn_expr_signs [] h fun t14 h1 =>
  qIndexAddr 1 t14 t12 fun t16 =>
  qLoad1 t16 h1 fun t17 =>
  C fn_expr_parser_take [s0, t17] h1 fun t18 h2 =>
  ifB t18 (
  Q t12 h2) (
  qBin .add (nthA vs0 1) (I 1) fun t20 =>
  next0 [(nthA vs0 0), t20] h2)) (
  Q (I 0) h)
def expr_parser_kind (a0 a1 : AV) (h : AHeap) (Q : QT) : Prop :=
  qLenL a1 fun t8 =>
  Loop [(I 0), (I 0)] h fun vs0 h next0 => expr_parser_kind_l3 t8 a1 a0 Q vs0 h next0
theorem expr_parser_kind_ok (a0 a1 : AV) (h : AHeap) (Q : QT) (k : expr_parser_kind a0 a1 h Q) : C fn_expr_parser_kind [a0, a1] h Q :=
  okF (pl := [(3, [4, 6, 9, 10, 11, 12, 13, 14, 15, 16, 17, 18, 19, 20], [4, 9])]) Tryz.func195 Tryz.ntmps195 (by kernel_rfl) (by kernel_rfl) rfl (by kernel_rfl) k
def expr_parser_minus (a0 : AV) (h : AHeap) (Q : QT) : Prop :=
  qNew [(I 0), (I 0), (S ⟨#[]⟩), (.full 0 [])] h fun t2 h0 =>
  C fn_expr_parser_one [a0] h0 fun t4 h1 =>
  qBuildSlice 1 4 [t4] fun t5 =>
  qBuild [(I 0), (I 0), (S ⟨#[]⟩), (.full 0 [])] [(0, 1, (I 4)), (3, 1, t5)] fun t6 =>
  qStore 4 t2 t6 h1 fun h2 =>
  qLoadA 4 t2 h2 fun r3 =>
  Q r3 h2
theorem expr_parser_minus_ok (a0 : AV) (h : AHeap) (Q : QT) (k : expr_parser_minus a0 h Q) : C fn_expr_parser_minus [a0] h Q :=
  okF (pl := []) Tryz.func203 Tryz.ntmps203 (by kernel_rfl) (by kernel_rfl) rfl (by kernel_rfl) k
def expr_parser_number_j7 (s10 s7 s6 s0 s2 : AV) (h : AHeap) (next2 : NT) (Q : QT) : Prop :=
  qBin .mul s7 s2 fun t27 =>
  qBin .add t27 s10 fun t29 =>
  qBin .geq t29 (I 4294967296) fun t31 =>
  ifB t31 (
  C fn_expr_parser_fail [s0] h fun t33 h4 =>
  qStore 4 s6 t33 h4 fun h5 =>
  qLoadA 4 s6 h5 fun r6 =>
  Q r6 h5) (
  next2 [t29] h)
def expr_parser_number_l11 (s12 s6 s0 s1 s2 : AV) (Q : QT) (vs2 : List AV) (h : AHeap) (next2 : NT) : Prop :=
  qNextS s12 h fun t13 h3 =>
  qExtract 0 t13 fun t14 =>
  ifB t14 (
  qExtract 2 t13 fun t15 =>
  qBin .sub t15 (.lit (.int .i32 48)) fun t17 =>
  qConvII .i64 t17 fun t18 =>
  qBin .geq t15 (.lit (.int .i32 97)) fun t20 =>
  ifB t20 (
  qBin .sub t15 (.lit (.int .i32 97)) fun t22 =>
  qConvII .i64 t22 fun t23 =>
  qBin .add t23 (I 10) fun t24 =>
  expr_parser_number_j7 t24 (nthA vs2 0) s6 s0 s2 h3 next2 Q) (
  expr_parser_number_j7 t18 (nthA vs2 0) s6 s0 s2 h3 next2 Q)) (
  qNil s0 fun t36 =>
  qFieldAddr 0 t36 fun t37 =>
  qLoad1 t37 h3 fun t38 =>
  qLenS s1 fun t40 =>
  qSliceS t38 (some t40) none fun t41 =>
  qNil s0 fun t42 =>
  qFieldAddr 0 t42 fun t43 =>
  qStore 1 t43 t41 h3 fun h8 =>
  qBuild [(I 0), (I 0), (S ⟨#[]⟩), (.full 0 [])] [(0, 1, (I 1)), (1, 1, (nthA vs2 0))] fun t45 =>
  qStore 4 s6 t45 h8 fun h9 =>
  qLoadA 4 s6 h9 fun r10 =>
  Q r10 h9)
def expr_parser_number (a0 a1 a2 : AV) (h : AHeap) (Q : QT) : Prop :=
  qNew [(I 0), (I 0), (S ⟨#[]⟩), (.full 0 [])] h fun t6 h0 =>
  qRangeS a1 h0 fun t12 h1 =>
  Loop [(I 0)] h1 fun vs2 h next2 => expr_parser_number_l11 t12 t6 a0 a1 a2 Q vs2 h next2
theorem expr_parser_number_ok (a0 a1 a2 : AV) (h : AHeap) (Q : QT) (k : expr_parser_number a0 a1 a2 h Q) : C fn_expr_parser_number [a0, a1, a2] h Q :=
  okF (pl := [(4, [7, 9, 10, 13, 14, 15, 16, 17, 18, 19, 20, 21, 22, 23, 24, 25, 26, 27, 28, 29, 30, 31, 32, 33], [7])]) Tryz.func208 Tryz.ntmps208 (by kernel_rfl) (by kernel_rfl) rfl (by kernel_rfl) k
def expr_parser_one (a0 : AV) (h : AHeap) (Q : QT) : Prop :=
  qNew [(I 0), (I 0), (S ⟨#[]⟩), (.full 0 [])] h fun t2 h0 =>
  C fn_expr_parser_take [a0, (S ⟨#[40]⟩)] h0 fun t7 h1 =>
  ifB t7 (
  C fn_expr_parser_within [a0, (.fn (.func fn_expr_parser_group) [a0] [])] h1 fun t11 h2 =>
  qStore 4 t2 t11 h2 fun h3 =>
  qLoadA 4 t2 h3 fun r4 =>
  Q r4 h3) (
  C fn_expr_parser_take [a0, (S ⟨#[45]⟩)] h1 fun t14 h5 =>
  ifB t14 (
  C fn_expr_parser_within [a0, (.fn (.func fn_expr_parser_minus) [a0] [])] h5 fun t18 h6 =>
  qStore 4 t2 t18 h6 fun h7 =>
  qLoadA 4 t2 h7 fun r8 =>
  Q r8 h7) (
  C fn_expr_parser_take [a0, (S ⟨#[46]⟩)] h5 fun t21 h9 =>
  ifB t21 (
  qBuild [(I 0), (I 0), (S ⟨#[]⟩), (.full 0 [])] [(0, 1, (I 3))] fun t22 =>
  qStore 4 t2 t22 h9 fun h10 =>
  qLoadA 4 t2 h10 fun r11 =>
  Q r11 h10) (
  qNil a0 fun t25 =>
  qFieldAddr 2 t25 fun t26 =>
  qLoad1 t26 h9 fun t27 =>
  ifB t27 (
  qBuild [(I 0), (I 0), (S ⟨#[]⟩), (.full 0 [])] [] fun t28 =>
  qStore 4 t2 t28 h9 fun h12 =>
  qLoadA 4 t2 h12 fun r13 =>
  Q r13 h12) (
  qNil a0 fun t30 =>
  qFieldAddr 0 t30 fun t31 =>
  qLoad1 t31 h9 fun t32 =>
  C fn_strings_HasPrefix [t32, (S ⟨#[48, 120]⟩)] h9 fun t33 h14 =>
  ifB t33 (qNil a0 fun t36 =>
  qFieldAddr 0 t36 fun t37 =>
  qLoad1 t37 h14 fun t38 =>
  qSliceS t38 (some (I 2)) none fun t39 =>
  C fn_expr_as [t39, (.fn (.func fn_expr_hex) [] [])] h14 fun t40 h15 =>
  qBin .neq t40 (S ⟨#[]⟩) fun t41 =>
  ifB t41 (
  qNil a0 fun t45 =>
  qFieldAddr 0 t45 fun t46 =>
  qLoad1 t46 h15 fun t47 =>
  qSliceS t47 (some (I 2)) none fun t48 =>
  qNil a0 fun t49 =>
  qFieldAddr 0 t49 fun t50 =>
  qStore 1 t50 t48 h15 fun h16 =>
  qNil a0 fun t54 =>
  qFieldAddr 0 t54 fun t55 =>
  qLoad1 t55 h16 fun t56 =>
  C fn_expr_as [t56, (.fn (.func fn_expr_hex) [] [])] h16 fun t57 h17 =>
  C fn_expr_parser_number [a0, t57, (I 16)] h17 fun t58 h18 =>
  C fn_expr_parser_apart [a0, t58] h18 fun t59 h19 =>
  qStore 4 t2 t59 h19 fun h20 =>
  qLoadA 4 t2 h20 fun r21 =>
  Q r21 h20) (
  qNil a0 fun t61 =>
  qFieldAddr 0 t61 fun t62 =>
  qLoad1 t62 h15 fun t63 =>
  C fn_expr_as [t63, (.fn (.func fn_expr_digit) [] [])] h15 fun t64 h22 =>
  qBin .neq t64 (S ⟨#[]⟩) fun t66 =>
  ifB t66 (
  C fn_expr_parser_number [a0, t64, (I 10)] h22 fun t70 h23 =>
  C fn_expr_parser_apart [a0, t70] h23 fun t71 h24 =>
  qStore 4 t2 t71 h24 fun h25 =>
  qLoadA 4 t2 h25 fun r26 =>
  Q r26 h25) (
  qNil a0 fun t73 =>
  qFieldAddr 0 t73 fun t74 =>
  qLoad1 t74 h22 fun t75 =>
  C fn_expr_as [t75, (.fn (.func fn_expr_inner) [] [])] h22 fun t76 h27 =>
  C fn_expr_word [t76] h27 fun t78 h28 =>
  ifB t78 (
  qNil a0 fun t81 =>
  qFieldAddr 0 t81 fun t82 =>
  qLoad1 t82 h28 fun t83 =>
  qLenS t76 fun t85 =>
  qSliceS t83 (some t85) none fun t86 =>
  qNil a0 fun t87 =>
  qFieldAddr 0 t87 fun t88 =>
  qStore 1 t88 t86 h28 fun h29 =>
  qBuild [(I 0), (I 0), (S ⟨#[]⟩), (.full 0 [])] [(0, 1, (I 2)), (2, 1, t76)] fun t90 =>
  qStore 4 t2 t90 h29 fun h30 =>
  qLoadA 4 t2 h30 fun r31 =>
  Q r31 h30) (
  C fn_expr_parser_fail [a0] h28 fun t92 h32 =>
  qStore 4 t2 t92 h32 fun h33 =>
  qLoadA 4 t2 h33 fun r34 =>
  Q r34 h33)))) (
  qNil a0 fun t61 =>
  qFieldAddr 0 t61 fun t62 =>
  qLoad1 t62 h14 fun t63 =>
  C fn_expr_as [t63, (.fn (.func fn_expr_digit) [] [])] h14 fun t64 h35 =>
  qBin .neq t64 (S ⟨#[]⟩) fun t66 =>
  ifB t66 (
  C fn_expr_parser_number [a0, t64, (I 10)] h35 fun t70 h36 =>
  C fn_expr_parser_apart [a0, t70] h36 fun t71 h37 =>
  qStore 4 t2 t71 h37 fun h38 =>
  qLoadA 4 t2 h38 fun r39 =>
  Q r39 h38) (
  qNil a0 fun t73 =>
  qFieldAddr 0 t73 fun t74 =>
  qLoad1 t74 h35 fun t75 =>
  C fn_expr_as [t75, (.fn (.func fn_expr_inner) [] [])] h35 fun t76 h40 =>
  C fn_expr_word [t76] h40 fun t78 h41 =>
  ifB t78 (
  qNil a0 fun t81 =>
  qFieldAddr 0 t81 fun t82 =>
  qLoad1 t82 h41 fun t83 =>
  qLenS t76 fun t85 =>
  qSliceS t83 (some t85) none fun t86 =>
  qNil a0 fun t87 =>
  qFieldAddr 0 t87 fun t88 =>
  qStore 1 t88 t86 h41 fun h42 =>
  qBuild [(I 0), (I 0), (S ⟨#[]⟩), (.full 0 [])] [(0, 1, (I 2)), (2, 1, t76)] fun t90 =>
  qStore 4 t2 t90 h42 fun h43 =>
  qLoadA 4 t2 h43 fun r44 =>
  Q r44 h43) (
  C fn_expr_parser_fail [a0] h41 fun t92 h45 =>
  qStore 4 t2 t92 h45 fun h46 =>
  qLoadA 4 t2 h46 fun r47 =>
  Q r47 h46)))))))
theorem expr_parser_one_ok (a0 : AV) (h : AHeap) (Q : QT) (k : expr_parser_one a0 h Q) : C fn_expr_parser_one [a0] h Q :=
  okF (pl := []) Tryz.func194 Tryz.ntmps194 (by kernel_rfl) (by kernel_rfl) rfl (by kernel_rfl) k
def expr_parser_take (a0 a1 : AV) (h : AHeap) (Q : QT) : Prop :=
  C fn_expr_parser_blanks [a0] h fun t6 h0 =>
  qNil a0 fun t8 =>
  qFieldAddr 2 t8 fun t9 =>
  qLoad1 t9 h0 fun t10 =>
  ifB t10 (Q (B false) h0) (
  qNil a0 fun t13 =>
  qFieldAddr 0 t13 fun t14 =>
  qLoad1 t14 h0 fun t15 =>
  C fn_strings_HasPrefix [t15, a1] h0 fun t17 h1 =>
  qUn .not t17 fun t18 =>
  ifB t18 (
  Q (B false) h1) (
  qNil a0 fun t22 =>
  qFieldAddr 0 t22 fun t23 =>
  qLoad1 t23 h1 fun t24 =>
  qLenS a1 fun t26 =>
  qSliceS t24 (some t26) none fun t27 =>
  qNil a0 fun t28 =>
  qFieldAddr 0 t28 fun t29 =>
  qStore 1 t29 t27 h1 fun h2 =>
  Q (B true) h2))
theorem expr_parser_take_ok (a0 a1 : AV) (h : AHeap) (Q : QT) (k : expr_parser_take a0 a1 h Q) : C fn_expr_parser_take [a0, a1] h Q :=
  okF (pl := []) Tryz.func200 Tryz.ntmps200 (by kernel_rfl) (by kernel_rfl) rfl (by kernel_rfl) k
def expr_parser_two_l19 (s5 s4 s0 s1 : AV) (Q : QT) (vs10 : List AV) (h : AHeap) (next10 : NT) : Prop :=
  qBin .neq (nthA vs10 0) (I 0) fun t24 =>
  ifB t24 (qNil s0 fun t27 =>
  qFieldAddr 2 t27 fun t28 =>
  qLoad1 t28 h fun t29 =>
  qUn .not t29 fun t30 =>
  ifB t30 (
  qLoadA 4 s5 h fun t39 =>
  qBin .add s1 (I 1) fun t42 =>
  C fn_expr_parser_two [s0, t42] h fun t43 h11 =>
  (qLoadA 4 s5 h11 fun _t =>
  _t = t39) ∧
  qBuildSlice 2 4 [t39, t43] fun t44 =>
  qBuild [(I 0), (I 0), (S ⟨#[]⟩), (.full 0 [])] [(0, 1, (nthA vs10 0)), (3, 1, t44)] fun t45 =>
  qStore 4 s5 t45 h11 fun h12 =>
  C fn_expr_levels [] h12 fun t33 h13 =>
  qIndexAddr 1 t33 s1 fun t35 =>
  qLoad1 t35 h13 fun t36 =>
  C fn_expr_parser_kind [s0, t36] h13 fun t37 h14 =>
  next10 [t37] h14) (
  qLoadA 4 s5 h fun t46 =>
  qStore 4 s4 t46 h fun h15 =>
  qLoadA 4 s4 h15 fun r16 =>
  Q r16 h15)) (
  qLoadA 4 s5 h fun t46 =>
  qStore 4 s4 t46 h fun h17 =>
  qLoadA 4 s4 h17 fun r18 =>
  Q r18 h17)
def expr_parser_two (a0 a1 : AV) (h : AHeap) (Q : QT) : Prop :=
  qNew [(I 0), (I 0), (S ⟨#[]⟩), (.full 0 [])] h fun t4 h0 =>
  C fn_expr_levels [] h0 fun t8 h1 =>
  qLenL t8 fun t9 =>
  qBin .eql a1 t9 fun t10 =>
  ifB t10 (
  C fn_expr_parser_one [a0] h1 fun t12 h2 =>
  qStore 4 t4 t12 h2 fun h3 =>
  qLoadA 4 t4 h3 fun r4 =>
  Q r4 h3) (
  qBin .add a1 (I 1) fun t15 =>
  C fn_expr_parser_two [a0, t15] h1 fun t16 h5 =>
  qNew [(I 0), (I 0), (S ⟨#[]⟩), (.full 0 [])] h5 fun t5 h6 =>
  qStore 4 t5 t16 h6 fun h7 =>
  C fn_expr_levels [] h7 fun t18 h8 =>
  qIndexAddr 1 t18 a1 fun t20 =>
  qLoad1 t20 h8 fun t21 =>
  C fn_expr_parser_kind [a0, t21] h8 fun t22 h9 =>
  Loop [t22] h9 fun vs10 h next10 => expr_parser_two_l19 t5 t4 a0 a1 Q vs10 h next10)
theorem expr_parser_two_ok (a0 a1 : AV) (h : AHeap) (Q : QT) (k : expr_parser_two a0 a1 h Q) : C fn_expr_parser_two [a0, a1] h Q :=
  okF (pl := [(6, [6, 23, 24, 25, 26, 27, 28, 29, 30, 31, 32, 33, 34, 35, 36, 37, 38, 39, 40, 41, 42, 43, 44, 45], [6]), (1000007, [0, 1, 2, 3, 4, 5, 6, 7, 8], [])]) Tryz.func180 Tryz.ntmps180 (by kernel_rfl) (by kernel_rfl) rfl (by kernel_rfl) k
def expr_parser_within (a0 a1 : AV) (h : AHeap) (Q : QT) : Prop :=
  qNew [(I 0), (I 0), (S ⟨#[]⟩), (.full 0 [])] h fun t4 h0 =>
  qNil a0 fun t7 =>
  qFieldAddr 1 t7 fun t8 =>
  qLoad1 t8 h0 fun t9 =>
  qBin .geq t9 (I 12) fun t10 =>
  ifB t10 (
  C fn_expr_parser_fail [a0] h0 fun t12 h1 =>
  qStore 4 t4 t12 h1 fun h2 =>
  qLoadA 4 t4 h2 fun r3 =>
  Q r3 h2) (
  qNil a0 fun t14 =>
  qFieldAddr 1 t14 fun t15 =>
  qLoad1 t15 h0 fun t16 =>
  qBin .add t16 (I 1) fun t17 =>
  qNil a0 fun t18 =>
  qFieldAddr 1 t18 fun t19 =>
  qStore 1 t19 t17 h0 fun h4 =>
  CV a1 [] h4 fun t21 h5 =>
  qNew [(I 0), (I 0), (S ⟨#[]⟩), (.full 0 [])] h5 fun t5 h6 =>
  qStore 4 t5 t21 h6 fun h7 =>
  qNil a0 fun t23 =>
  qFieldAddr 1 t23 fun t24 =>
  qLoad1 t24 h7 fun t25 =>
  qBin .sub t25 (I 1) fun t26 =>
  qNil a0 fun t27 =>
  qFieldAddr 1 t27 fun t28 =>
  qStore 1 t28 t26 h7 fun h8 =>
  qLoadA 4 t5 h8 fun t29 =>
  qStore 4 t4 t29 h8 fun h9 =>
  qLoadA 4 t4 h9 fun r10 =>
  Q r10 h9)
theorem expr_parser_within_ok (a0 a1 : AV) (h : AHeap) (Q : QT) (k : expr_parser_within a0 a1 h Q) : C fn_expr_parser_within [a0, a1] h Q :=
  okF (pl := []) Tryz.func201 Tryz.ntmps201 (by kernel_rfl) (by kernel_rfl) rfl (by kernel_rfl) k
def expr_signs (h : AHeap) (Q : QT) : Prop :=
  qBuildSlice 12 1 [(S ⟨#[]⟩), (S ⟨#[]⟩), (S ⟨#[]⟩), (S ⟨#[46]⟩), (S ⟨#[45]⟩), (S ⟨#[43]⟩), (S ⟨#[45]⟩), (S ⟨#[42]⟩), (S ⟨#[38]⟩), (S ⟨#[124]⟩), (S ⟨#[60, 60]⟩), (S ⟨#[62, 62]⟩)] fun t1 =>
  Q t1 h
theorem expr_signs_ok (h : AHeap) (Q : QT) (k : expr_signs  h Q) : C fn_expr_signs [] h Q :=
  okF (pl := []) Tryz.func213 Tryz.ntmps213 (by kernel_rfl) (by kernel_rfl) rfl (by kernel_rfl) k
def expr_small (a0 : AV) (h : AHeap) (Q : QT) : Prop :=
  qBin .geq a0 (.lit (.int .i32 97)) fun t4 =>
  ifB t4 (qBin .leq a0 (.lit (.int .i32 122)) fun t7 =>
  ifB t7 (Q (B true) h) (
  qBin .eql a0 (.lit (.int .i32 95)) fun t11 =>
  Q t11 h)) (
  qBin .eql a0 (.lit (.int .i32 95)) fun t11 =>
  Q t11 h)
theorem expr_small_ok (a0 : AV) (h : AHeap) (Q : QT) (k : expr_small a0 h Q) : C fn_expr_small [a0] h Q :=
  okF (pl := []) Tryz.func220 Tryz.ntmps220 (by kernel_rfl) (by kernel_rfl) rfl (by kernel_rfl) k
def expr_times (a0 a1 : AV) (h : AHeap) (Q : QT) : Prop :=
  qBin .eql a0 (I 0) fun t8 =>
  ifB t8 (Q (.tup [(I 0), (I 0)]) h) (
  qBin .eql a1 (I 0) fun t11 =>
  ifB t11 (
  Q (.tup [(I 0), (I 0)]) h) (
  qBin .mul a0 a1 fun t15 =>
  qUn .neg a0 fun t18 =>
  qMax a0 t18 fun t19 =>
  qUn .neg a1 fun t22 =>
  qMax a1 t22 fun t23 =>
  qBin .quo (I 1099511627776) t23 fun t24 =>
  qBin .gtr t19 t24 fun t25 =>
  ifB t25 (
  Q (.tup [(I 0), (I 6)]) h) (
  C fn_expr_bound [t15] h fun t27 h0 =>
  qExtract 0 t27 fun t28 =>
  qExtract 1 t27 fun t29 =>
  Q (.tup [t28, t29]) h0)))
theorem expr_times_ok (a0 a1 : AV) (h : AHeap) (Q : QT) (k : expr_times a0 a1 h Q) : C fn_expr_times [a0, a1] h Q :=
  okF (pl := []) Tryz.func148 Tryz.ntmps148 (by kernel_rfl) (by kernel_rfl) rfl (by kernel_rfl) k
def expr_word (a0 : AV) (h : AHeap) (Q : QT) : Prop :=
  qBin .eql a0 (S ⟨#[]⟩) fun t4 =>
  ifB t4 (Q (B false) h) (
  qLenS a0 fun t7 =>
  qBin .gtr t7 (I 12) fun t8 =>
  ifB t8 (Q (B false) h) (
  qIndexS a0 (I 0) fun t12 =>
  qConvII .i32 t12 fun t13 =>
  C fn_expr_digit [t13] h fun t14 h0 =>
  ifB t14 (Q (B false) h0) (
  C fn_expr_as [a0, (.fn (.func fn_expr_inner) [] [])] h0 fun t18 h1 =>
  qBin .neq t18 a0 fun t20 =>
  ifB t20 (
  Q (B false) h1) (
  qIndexS a0 (I 0) fun t23 =>
  qBin .neq t23 (.lit (.int .u8 114)) fun t24 =>
  ifB t24 (Q (B true) h1) (
  qLenS a0 fun t27 =>
  qBin .eql t27 (I 1) fun t28 =>
  ifB t28 (Q (B true) h1) (
  qSliceS a0 (some (I 1)) none fun t32 =>
  qSliceS a0 (some (I 1)) none fun t35 =>
  C fn_expr_as [t32, (.fn (.func fn_expr_digit) [] [])] h1 fun t33 h2 =>
  qBin .neq t33 t35 fun t36 =>
  Q t36 h2))))))
theorem expr_word_ok (a0 : AV) (h : AHeap) (Q : QT) (k : expr_word a0 h Q) : C fn_expr_word [a0] h Q :=
  okF (pl := [(1000003, [0, 1, 2, 3, 4, 5, 6, 7, 8, 9, 10, 12, 13, 11, 14, 15, 16], [])]) Tryz.func211 Tryz.ntmps211 (by kernel_rfl) (by kernel_rfl) rfl (by kernel_rfl) k
def line_One_j25 (s0 s4 s2 : AV) (h : AHeap) (Q : QT) : Prop :=
  qBin .eql s0 (S ⟨#[]⟩) fun t47 =>
  ifB t47 (
  qNil s4 fun t49 =>
  qFieldAddr 0 t49 fun t50 =>
  qFieldAddr 1 t50 fun t51 =>
  qLoad1 t51 h fun t52 =>
  qBin .eql t52 (S ⟨#[]⟩) fun t53 =>
  ifB t53 (
  qBuild [(I 0), (S ⟨#[]⟩), (I 0), (I 0), (S ⟨#[]⟩), (.full 0 [])] [] fun t54 =>
  qStore 6 s2 t54 h fun h12 =>
  qLoadA 6 s2 h12 fun r13 =>
  Q (.tup [r13, (B true)]) h12) (
  qNil s4 fun t56 =>
  qFieldAddr 0 t56 fun t57 =>
  qLoadA 6 t57 h fun t58 =>
  qStore 6 s2 t58 h fun h14 =>
  qLoadA 6 s2 h14 fun r15 =>
  Q (.tup [r15, (B true)]) h14)) (
  C fn_line_front [s0, (.fn (.func fn_line_One_1) [] [])] h fun t60 h16 =>
  qSliceS s0 none (some t60) fun t64 =>
  qSliceS s0 (some t60) none fun t67 =>
  C fn_strings_Trim [t67, (S ⟨#[32, 9]⟩)] h16 fun t68 h17 =>
  C fn_line_reader_statement [s4, t64, t68] h17 fun t69 h18 =>
  qUn .not t69 fun t70 =>
  ifB t70 (
  qBuild [(I 0), (S ⟨#[]⟩), (I 0), (I 0), (S ⟨#[]⟩), (.full 0 [])] [] fun t71 =>
  qStore 6 s2 t71 h18 fun h19 =>
  qLoadA 6 s2 h19 fun r20 =>
  Q (.tup [r20, (B false)]) h19) (
  qNil s4 fun t74 =>
  qFieldAddr 0 t74 fun t75 =>
  qFieldAddr 5 t75 fun t76 =>
  qLoad1 t76 h18 fun t77 =>
  C fn_slices_Clone__api_Arg_api_Arg [t77] h18 fun t78 h21 =>
  qNil s4 fun t79 =>
  qFieldAddr 0 t79 fun t80 =>
  qFieldAddr 5 t80 fun t81 =>
  qStore 1 t81 t78 h21 fun h22 =>
  qNil s4 fun t83 =>
  qFieldAddr 0 t83 fun t84 =>
  qLoadA 6 t84 h22 fun t85 =>
  qStore 6 s2 t85 h22 fun h23 =>
  qLoadA 6 s2 h23 fun r24 =>
  Q (.tup [r24, (B true)]) h23))
def line_One (a0 : AV) (h : AHeap) (Q : QT) : Prop :=
  qNew [(I 0), (S ⟨#[]⟩), (I 0), (I 0), (S ⟨#[]⟩), (.full 0 [])] h fun t2 h0 =>
  C fn_strings_IndexByte [a0, (.lit (.int .u8 10))] h0 fun t8 h1 =>
  qBin .geq t8 (I 0) fun t9 =>
  ifB t9 (
  qBuild [(I 0), (S ⟨#[]⟩), (I 0), (I 0), (S ⟨#[]⟩), (.full 0 [])] [] fun t10 =>
  qStore 6 t2 t10 h1 fun h2 =>
  qLoadA 6 t2 h2 fun r3 =>
  Q (.tup [r3, (B false)]) h2) (
  C fn_line_bare [a0] h1 fun t12 h4 =>
  qBuild [(I 0), (S ⟨#[]⟩), (I 0), (I 0), (S ⟨#[]⟩), (.full 0 [])] [(0, 1, (I 1))] fun t13 =>
  qBuild [(I 0), (S ⟨#[]⟩), (I 0), (I 0), (S ⟨#[]⟩), (.full 0 [])] [(0, 6, t13)] fun t14 =>
  qBox t14 h4 fun t15 h5 =>
  C fn_line_front [t12, (.fn (.func fn_line_inner) [] [])] h5 fun t17 h6 =>
  qLenS t12 fun t20 =>
  qBin .lss t17 t20 fun t21 =>
  ifB t21 (qIndexS t12 t17 fun t25 =>
  qBin .eql t25 (.lit (.int .u8 58)) fun t26 =>
  ifB t26 (
  qSliceS t12 none (some t17) fun t30 =>
  C fn_line_Word [t30] h6 fun t31 h7 =>
  qUn .not t31 fun t32 =>
  ifB t32 (
  qBuild [(I 0), (S ⟨#[]⟩), (I 0), (I 0), (S ⟨#[]⟩), (.full 0 [])] [] fun t33 =>
  qStore 6 t2 t33 h7 fun h8 =>
  qLoadA 6 t2 h8 fun r9 =>
  Q (.tup [r9, (B false)]) h8) (
  qSliceS t12 none (some t17) fun t37 =>
  qBin .add t17 (I 1) fun t40 =>
  qSliceS t12 (some t40) none fun t41 =>
  C fn_strings_Trim [t41, (S ⟨#[32, 9]⟩)] h7 fun t42 h10 =>
  qNil t15 fun t43 =>
  qFieldAddr 0 t43 fun t44 =>
  qFieldAddr 1 t44 fun t45 =>
  qStore 1 t45 t37 h10 fun h11 =>
  line_One_j25 t42 t15 t2 h11 Q)) (
  line_One_j25 t12 t15 t2 h6 Q)) (
  line_One_j25 t12 t15 t2 h6 Q))
theorem line_One_ok (a0 : AV) (h : AHeap) (Q : QT) (k : line_One a0 h Q) : C fn_line_One [a0] h Q :=
  okF (pl := [(1000009, [0, 1, 2, 3, 4, 5, 6, 7, 8, 9, 10, 11, 12, 13], []), (1000015, [0, 1, 2, 3, 4, 5, 6, 7, 8, 9], [])]) Tryz.func70 Tryz.ntmps70 (by kernel_rfl) (by kernel_rfl) rfl (by kernel_rfl) k
def line_One_1 (a0 : AV) (h : AHeap) (Q : QT) : Prop :=
  qBin .neq a0 (.lit (.int .u8 32)) fun t4 =>
  ifB t4 (qBin .neq a0 (.lit (.int .u8 9)) fun t7 =>
  Q t7 h) (
  Q (B false) h)
theorem line_One_1_ok (a0 : AV) (h : AHeap) (Q : QT) (k : line_One_1 a0 h Q) : C fn_line_One_1 [a0] h Q :=
  okF (pl := []) Tryz.func105 Tryz.ntmps105 (by kernel_rfl) (by kernel_rfl) rfl (by kernel_rfl) k
def line_Parse_j6 (s3 s2 s11 : AV) (h : AHeap) (next1 : NT) : Prop :=
  qBin .add s11 (I 1) fun t40 =>
  next1 [s2, s3, t40] h
def line_Parse_b7 (s3 s2 s11 : AV) (h : AHeap) (next1 : NT) : Prop :=
  line_Parse_j6 s3 s2 s11 h next1
def line_Parse_b8 (s3 s2 s11 : AV) (h : AHeap) (next1 : NT) : Prop :=
  line_Parse_b7 s3 s2 s11 h next1
def line_Parse_l13 (s10 s9 : AV) (Q : QT) (vs1 : List AV) (h : AHeap) (next1 : NT) : Prop :=
  qBin .lss (nthA vs1 2) s10 fun t12 =>
  ifB t12 (
  qIndexAddr 1 s9 (nthA vs1 2) fun t14 =>
  qLoad1 t14 h fun t15 =>
  C fn_line_One [t15] h fun t18 h2 =>
  qExtract 0 t18 fun t19 =>
  qExtract 1 t18 fun t20 =>
  qNew [(I 0), (S ⟨#[]⟩), (I 0), (I 0), (S ⟨#[]⟩), (.full 0 [])] h2 fun t6 h3 =>
  qStore 6 t6 t19 h3 fun h4 =>
  qUn .not t20 fun t23 =>
  ifB t23 (
  qBin .add (nthA vs1 2) (I 1) fun t26 =>
  qBuildSlice 1 1 [t26] fun t27 =>
  qAppend 1 8 (nthA vs1 1) t27 h4 fun t28 h5 =>
  line_Parse_b8 t28 (nthA vs1 0) (nthA vs1 2) h5 next1) (
  qFieldAddr 0 t6 fun t30 =>
  qLoad1 t30 h4 fun t31 =>
  qBin .gtr t31 (I 0) fun t32 =>
  ifB t32 (
  qBin .add (nthA vs1 2) (I 1) fun t34 =>
  qFieldAddr 0 t6 fun t35 =>
  qStore 1 t35 t34 h4 fun h9 =>
  qLoadA 6 t6 h9 fun t37 =>
  qBuildSlice 1 6 [t37] fun t38 =>
  qAppend 6 80 (nthA vs1 0) t38 h9 fun t39 h10 =>
  line_Parse_b8 (nthA vs1 1) t39 (nthA vs1 2) h10 next1) (
  line_Parse_b8 (nthA vs1 1) (nthA vs1 0) (nthA vs1 2) h4 next1))) (
  C fn_slices_Clone__api_Stmt_api_Stmt [(nthA vs1 0)] h fun t42 h11 =>
  C fn_slices_Clone__int_int [(nthA vs1 1)] h11 fun t44 h12 =>
  Q (.tup [t42, t44]) h12)
def line_Parse (a0 : AV) (h : AHeap) (Q : QT) : Prop :=
  C fn_strings_Split [a0, (S ⟨#[10]⟩)] h fun t9 h0 =>
  qLenL t9 fun t10 =>
  Loop [(.full 0 []), (.full 0 []), (I 0)] h0 fun vs1 h next1 => line_Parse_l13 t10 t9 Q vs1 h next1
theorem line_Parse_ok (a0 : AV) (h : AHeap) (Q : QT) (k : line_Parse a0 h Q) : C fn_line_Parse [a0] h Q :=
  okF (pl := [(3, [2, 3, 4, 5, 6, 7, 11, 12, 13, 14, 15, 16, 17, 18, 19, 20, 21, 22, 23, 24, 25, 26, 27, 28, 29, 30, 31, 32, 33, 34, 35, 36, 37, 38, 39, 40], [2, 3, 11])]) Tryz.func42 Tryz.ntmps42 (by kernel_rfl) (by kernel_rfl) rfl (by kernel_rfl) k
def line_Word (a0 : AV) (h : AHeap) (Q : QT) : Prop :=
  qBin .eql a0 (S ⟨#[]⟩) fun t4 =>
  ifB t4 (Q (B false) h) (
  qLenS a0 fun t7 =>
  qBin .gtr t7 (I 12) fun t8 =>
  ifB t8 (Q (B false) h) (
  qIndexS a0 (I 0) fun t12 =>
  C fn_line_digit [t12] h fun t13 h0 =>
  ifB t13 (Q (B false) h0) (
  C fn_line_front [a0, (.fn (.func fn_line_inner) [] [])] h0 fun t17 h1 =>
  qLenS a0 fun t19 =>
  qBin .neq t17 t19 fun t20 =>
  ifB t20 (
  Q (B false) h1) (
  qIndexS a0 (I 0) fun t23 =>
  qBin .neq t23 (.lit (.int .u8 114)) fun t24 =>
  ifB t24 (Q (B true) h1) (
  qLenS a0 fun t27 =>
  qBin .eql t27 (I 1) fun t28 =>
  ifB t28 (Q (B true) h1) (
  qSliceS a0 (some (I 1)) none fun t32 =>
  C fn_line_front [t32, (.fn (.func fn_line_digit) [] [])] h1 fun t33 h2 =>
  qLenS a0 fun t35 =>
  qBin .sub t35 (I 1) fun t36 =>
  qBin .neq t33 t36 fun t37 =>
  Q t37 h2))))))
theorem line_Word_ok (a0 : AV) (h : AHeap) (Q : QT) (k : line_Word a0 h Q) : C fn_line_Word [a0] h Q :=
  okF (pl := []) Tryz.func103 Tryz.ntmps103 (by kernel_rfl) (by kernel_rfl) rfl (by kernel_rfl) k
def line_all_l2 (s0 s1 : AV) (Q : QT) (vs0 : List AV) (h : AHeap) (next0 : NT) : Prop :=
  qLenL s1 fun t14 =>
  qBin .lss (nthA vs0 1) t14 fun t15 =>
  ifB t15 (ifB (nthA vs0 0) (
  qIndexAddr 1 s1 (nthA vs0 1) fun t23 =>
  qLoad1 t23 h fun t24 =>
  qIndexAddr 1 s0 (nthA vs0 1) fun t27 =>
  qLoad1 t27 h fun t28 =>
  CV t24 [t28] h fun t29 h1 =>
  qBin .add (nthA vs0 1) (I 1) fun t20 =>
  next0 [t29, t20] h1) (
  Q (nthA vs0 0) h)) (
  Q (nthA vs0 0) h)
def line_all (a0 a1 : AV) (h : AHeap) (Q : QT) : Prop :=
  qLenL a0 fun t8 =>
  qLenL a1 fun t10 =>
  qBin .eql t8 t10 fun t11 =>
  Loop [t11, (I 0)] h fun vs0 h next0 => line_all_l2 a0 a1 Q vs0 h next0
theorem line_all_ok (a0 a1 : AV) (h : AHeap) (Q : QT) (k : line_all a0 a1 h Q) : C fn_line_all [a0, a1] h Q :=
  okF (pl := [(4, [5, 6, 12, 13, 14, 15, 16, 17, 18, 19, 20, 21, 22, 23, 24, 25, 26, 27, 28, 29], [5, 6]), (1000005, [0, 1, 2, 3, 4, 5, 6, 7, 8, 9], [])]) Tryz.func143 Tryz.ntmps143 (by kernel_rfl) (by kernel_rfl) rfl (by kernel_rfl) k
def line_digit (a0 : AV) (h : AHeap) (Q : QT) : Prop :=
  qBin .geq a0 (.lit (.int .u8 48)) fun t4 =>
  ifB t4 (qBin .leq a0 (.lit (.int .u8 57)) fun t7 =>
  Q t7 h) (
  Q (B false) h)
theorem line_digit_ok (a0 : AV) (h : AHeap) (Q : QT) (k : line_digit a0 h Q) : C fn_line_digit [a0] h Q :=
  okF (pl := []) Tryz.func131 Tryz.ntmps131 (by kernel_rfl) (by kernel_rfl) rfl (by kernel_rfl) k
def line_front_l2 (s0 s1 : AV) (Q : QT) (vs0 : List AV) (h : AHeap) (next0 : NT) : Prop :=
  qLenS s0 fun t8 =>
  qBin .lss (nthA vs0 0) t8 fun t9 =>
  ifB t9 (qIndexS s0 (nthA vs0 0) fun t14 =>
  CV s1 [t14] h fun t15 h1 =>
  ifB t15 (
  qBin .add (nthA vs0 0) (I 1) fun t18 =>
  next0 [t18] h1) (
  Q (nthA vs0 0) h1)) (
  Q (nthA vs0 0) h)
def line_front (a0 a1 : AV) (h : AHeap) (Q : QT) : Prop :=
  Loop [(I 0)] h fun vs0 h next0 => line_front_l2 a0 a1 Q vs0 h next0
theorem line_front_ok (a0 a1 : AV) (h : AHeap) (Q : QT) (k : line_front a0 a1 h Q) : C fn_line_front [a0, a1] h Q :=
  okF (pl := [(3, [5, 6, 7, 8, 9, 10, 11, 12, 13, 14, 15, 16, 17, 18], [5])]) Tryz.func101 Tryz.ntmps101 (by kernel_rfl) (by kernel_rfl) rfl (by kernel_rfl) k
def line_grows (h : AHeap) (Q : QT) : Prop :=
  qBuildSlice 3 1 [(S ⟨#[98]⟩), (S ⟨#[98, 108]⟩), (S ⟨#[98, 99]⟩)] fun t1 =>
  Q t1 h
theorem line_grows_ok (h : AHeap) (Q : QT) (k : line_grows  h Q) : C fn_line_grows [] h Q :=
  okF (pl := []) Tryz.func142 Tryz.ntmps142 (by kernel_rfl) (by kernel_rfl) rfl (by kernel_rfl) k
def line_inner (a0 : AV) (h : AHeap) (Q : QT) : Prop :=
  qBin .geq a0 (.lit (.int .u8 97)) fun t4 =>
  ifB t4 (qBin .leq a0 (.lit (.int .u8 122)) fun t7 =>
  ifB t7 (Q (B true) h) (
  qBin .eql a0 (.lit (.int .u8 95)) fun t11 =>
  ifB t11 (Q (B true) h) (
  C fn_line_digit [a0] h fun t15 h0 =>
  Q t15 h0))) (
  qBin .eql a0 (.lit (.int .u8 95)) fun t11 =>
  ifB t11 (Q (B true) h) (
  C fn_line_digit [a0] h fun t15 h1 =>
  Q t15 h1))
theorem line_inner_ok (a0 : AV) (h : AHeap) (Q : QT) (k : line_inner a0 h Q) : C fn_line_inner [a0] h Q :=
  okF (pl := []) Tryz.func102 Tryz.ntmps102 (by kernel_rfl) (by kernel_rfl) rfl (by kernel_rfl) k
def line_operands_l4 (s10 s3 : AV) (Q : QT) (vs1 : List AV) (h : AHeap) (next1 : NT) : Prop :=
  qBin .lss (nthA vs1 0) s10 fun t12 =>
  ifB t12 (
  qIndexAddr 1 s3 (nthA vs1 0) fun t18 =>
  qLoad1 t18 h fun t19 =>
  C fn_strings_Trim [t19, (S ⟨#[32, 9]⟩)] h fun t20 h2 =>
  qIndexAddr 1 s3 (nthA vs1 0) fun t21 =>
  qStore 1 t21 t20 h2 fun h3 =>
  qBin .add (nthA vs1 0) (I 1) fun t22 =>
  next1 [t22] h3) (
  Q s3 h)
def line_operands (a0 : AV) (h : AHeap) (Q : QT) : Prop :=
  qBin .eql a0 (S ⟨#[]⟩) fun t6 =>
  ifB t6 (
  Q (.full 0 []) h) (
  C fn_strings_Split [a0, (S ⟨#[44]⟩)] h fun t8 h0 =>
  qLenL t8 fun t10 =>
  Loop [(I 0)] h0 fun vs1 h next1 => line_operands_l4 t10 t8 Q vs1 h next1)
theorem line_operands_ok (a0 : AV) (h : AHeap) (Q : QT) (k : line_operands a0 h Q) : C fn_line_operands [a0] h Q :=
  okF (pl := [(6, [4, 11, 12, 13, 14, 15, 16, 17, 18, 19, 20, 21, 22], [11])]) Tryz.func139 Tryz.ntmps139 (by kernel_rfl) (by kernel_rfl) rfl (by kernel_rfl) k
def line_reader_ascii (a0 a1 : AV) (h : AHeap) (Q : QT) : Prop :=
  qLenS a1 fun t6 =>
  qBin .lss t6 (I 2) fun t7 =>
  ifB t7 (Q (B false) h) (
  qLenS a1 fun t10 =>
  qBin .gtr t10 (I 62) fun t11 =>
  ifB t11 (Q (B false) h) (
  qIndexS a1 (I 0) fun t15 =>
  qBin .neq t15 (.lit (.int .u8 34)) fun t16 =>
  ifB t16 (Q (B false) h) (
  qLenS a1 fun t21 =>
  qBin .sub t21 (I 1) fun t22 =>
  qIndexS a1 t22 fun t23 =>
  qBin .neq t23 (.lit (.int .u8 34)) fun t24 =>
  ifB t24 (
  Q (B false) h) (
  qLenS a1 fun t29 =>
  qBin .sub t29 (I 1) fun t30 =>
  qSliceS a1 (some (I 1)) (some t30) fun t31 =>
  qNil a0 fun t32 =>
  qFieldAddr 0 t32 fun t33 =>
  qFieldAddr 4 t33 fun t34 =>
  qStore 1 t34 t31 h fun h0 =>
  qNil a0 fun t36 =>
  qFieldAddr 0 t36 fun t37 =>
  qFieldAddr 4 t37 fun t38 =>
  qLoad1 t38 h0 fun t39 =>
  qNil a0 fun t42 =>
  qFieldAddr 0 t42 fun t43 =>
  qFieldAddr 4 t43 fun t44 =>
  qLoad1 t44 h0 fun t45 =>
  qLenS t45 fun t46 =>
  C fn_line_front [t39, (.fn (.func fn_line_reader_ascii_1) [] [])] h0 fun t40 h1 =>
  (qLoad1 t44 h1 fun _t =>
  _t = t45) ∧
  qBin .eql t40 t46 fun t47 =>
  Q t47 h1))))
theorem line_reader_ascii_ok (a0 a1 : AV) (h : AHeap) (Q : QT) (k : line_reader_ascii a0 a1 h Q) : C fn_line_reader_ascii [a0, a1] h Q :=
  okF (pl := [(1000004, [0, 1, 2, 3, 4, 6, 7, 8, 9, 10, 11, 5, 12, 13], [])]) Tryz.func146 Tryz.ntmps146 (by kernel_rfl) (by kernel_rfl) rfl (by kernel_rfl) k
def line_reader_ascii_1 (a0 : AV) (h : AHeap) (Q : QT) : Prop :=
  qBin .geq a0 (.lit (.int .u8 32)) fun t4 =>
  ifB t4 (qBin .leq a0 (.lit (.int .u8 126)) fun t7 =>
  ifB t7 (qBin .neq a0 (.lit (.int .u8 34)) fun t11 =>
  Q t11 h) (
  Q (B false) h)) (
  Q (B false) h)
theorem line_reader_ascii_1_ok (a0 : AV) (h : AHeap) (Q : QT) (k : line_reader_ascii_1 a0 h Q) : C fn_line_reader_ascii_1 [a0] h Q :=
  okF (pl := []) Tryz.func169 Tryz.ntmps169 (by kernel_rfl) (by kernel_rfl) rfl (by kernel_rfl) k
def line_reader_instruction_j5 (s5 s16 : AV) (h : AHeap) (next2 : NT) : Prop :=
  qBin .add s16 (I 1) fun t34 =>
  next2 [s5, t34] h
def line_reader_instruction_b6 (s5 s16 : AV) (h : AHeap) (next2 : NT) : Prop :=
  line_reader_instruction_j5 s5 s16 h next2
def line_reader_instruction_l9 (s15 s14 s0 s1 : AV) (Q : QT) (vs2 : List AV) (h : AHeap) (next2 : NT) : Prop :=
  qBin .lss (nthA vs2 1) s15 fun t17 =>
  ifB t17 (
  qIndexAddr 1 s14 (nthA vs2 1) fun t18 =>
  qLoad1 t18 h fun t19 =>
  qBin .add (S ⟨#[32]⟩) t19 fun t21 =>
  qBin .add t21 (S ⟨#[32]⟩) fun t22 =>
  C fn_strings_Contains [(S ⟨#[32, 88, 32, 89, 32, 68, 32, 65, 32, 66, 32]⟩), t22] h fun t23 h3 =>
  ifB t23 (
  qBuildSlice 1 1 [(.fn (.func fn_line_reader_register) [s0] [])] fun t27 =>
  qAppend 1 8 (nthA vs2 0) t27 h3 fun t28 h4 =>
  line_reader_instruction_b6 t28 (nthA vs2 1) h4 next2) (
  qBuildSlice 1 1 [(.fn (.func fn_line_reader_value) [s0] [])] fun t32 =>
  qAppend 1 8 (nthA vs2 0) t32 h3 fun t33 h7 =>
  line_reader_instruction_b6 t33 (nthA vs2 1) h7 next2)) (
  C fn_line_all [s1, (nthA vs2 0)] h fun t37 h8 =>
  Q t37 h8)
def line_reader_instruction (a0 a1 : AV) (h : AHeap) (Q : QT) : Prop :=
  qNil a0 fun t9 =>
  qFieldAddr 0 t9 fun t10 =>
  qFieldAddr 3 t10 fun t11 =>
  qLoad1 t11 h fun t12 =>
  C fn_isa_Kinds [t12] h fun t13 h0 =>
  C fn_strings_Fields [t13] h0 fun t14 h1 =>
  qLenL t14 fun t15 =>
  Loop [(.full 0 []), (I 0)] h1 fun vs2 h next2 => line_reader_instruction_l9 t15 t14 a0 a1 Q vs2 h next2
theorem line_reader_instruction_ok (a0 a1 : AV) (h : AHeap) (Q : QT) (k : line_reader_instruction a0 a1 h Q) : C fn_line_reader_instruction [a0, a1] h Q :=
  okF (pl := [(4, [5, 7, 16, 17, 18, 19, 20, 21, 22, 23, 24, 25, 26, 27, 28, 29, 30, 31, 32, 33, 34], [5, 16])]) Tryz.func141 Tryz.ntmps141 (by kernel_rfl) (by kernel_rfl) rfl (by kernel_rfl) k
def line_reader_register (a0 a1 : AV) (h : AHeap) (Q : QT) : Prop :=
  C fn_line_register [a1] h fun t9 h0 =>
  qExtract 0 t9 fun t10 =>
  qExtract 1 t9 fun t11 =>
  qNil a0 fun t14 =>
  qFieldAddr 0 t14 fun t15 =>
  qFieldAddr 5 t15 fun t16 =>
  qLoad1 t16 h0 fun t17 =>
  qBuild [(I 0), (I 0), (I 0), (S ⟨#[]⟩), (.full 0 [])] [(0, 1, t10)] fun t19 =>
  qBuildSlice 1 5 [t19] fun t20 =>
  qAppend 5 64 t17 t20 h0 fun t21 h1 =>
  qNil a0 fun t22 =>
  qFieldAddr 0 t22 fun t23 =>
  qFieldAddr 5 t23 fun t24 =>
  qStore 1 t24 t21 h1 fun h2 =>
  Q t11 h2
theorem line_reader_register_ok (a0 a1 : AV) (h : AHeap) (Q : QT) (k : line_reader_register a0 a1 h Q) : C fn_line_reader_register [a0, a1] h Q :=
  okF (pl := []) Tryz.func167 Tryz.ntmps167 (by kernel_rfl) (by kernel_rfl) rfl (by kernel_rfl) k
def line_reader_statement_j23 (s93 s54 s7 s0 s1 : AV) (h : AHeap) (Q : QT) : Prop :=
  ifB s93 (
  qBuildSlice 2 1 [(S ⟨#[46, 97, 108, 105, 103, 110]⟩), (S ⟨#[46, 115, 112, 97, 99, 101]⟩)] fun t97 =>
  C fn_slices_Index__string_string [t97, s1] h fun t99 h17 =>
  qBin .add (I 7) t99 fun t100 =>
  qNil s0 fun t101 =>
  qFieldAddr 0 t101 fun t102 =>
  qFieldAddr 2 t102 fun t103 =>
  qStore 1 t103 t100 h17 fun h18 =>
  C fn_line_same [(.fn (.func fn_line_reader_value) [s0] []), (I 1)] h18 fun t107 h19 =>
  C fn_line_all [s7, t107] h19 fun t108 h20 =>
  Q t108 h20) (
  qBin .eql s54 (S ⟨#[46, 101, 113, 117]⟩) fun t110 =>
  ifB t110 (
  qNil s0 fun t112 =>
  qFieldAddr 0 t112 fun t113 =>
  qFieldAddr 2 t113 fun t114 =>
  qStore 1 t114 (I 9) h fun h21 =>
  qBuildSlice 2 1 [(.fn (.func fn_line_reader_word) [s0] []), (.fn (.func fn_line_reader_value) [s0] [])] fun t120 =>
  C fn_line_all [s7, t120] h21 fun t121 h22 =>
  Q t121 h22) (
  Q (B false) h))
def line_reader_statement_j24 (s55 s54 s7 s0 s1 s2 : AV) (h : AHeap) (Q : QT) : Prop :=
  ifB s55 (
  qBuildSlice 3 1 [(S ⟨#[46, 98, 121, 116, 101]⟩), (S ⟨#[46, 104, 97, 108, 102]⟩), (S ⟨#[46, 108, 111, 110, 103]⟩)] fun t60 =>
  C fn_slices_Index__string_string [t60, s1] h fun t62 h11 =>
  qBin .add (I 3) t62 fun t63 =>
  qNil s0 fun t64 =>
  qFieldAddr 0 t64 fun t65 =>
  qFieldAddr 2 t65 fun t66 =>
  qStore 1 t66 t63 h11 fun h12 =>
  qLenL s7 fun t68 =>
  qBin .geq t68 (I 1) fun t69 =>
  ifB t69 (qLenL s7 fun t72 =>
  qBin .leq t72 (I 16) fun t73 =>
  ifB t73 (qLenL s7 fun t80 =>
  C fn_line_same [(.fn (.func fn_line_reader_value) [s0] []), t80] h12 fun t81 h13 =>
  C fn_line_all [s7, t81] h13 fun t82 h14 =>
  Q t82 h14) (
  Q (B false) h12)) (
  Q (B false) h12)) (
  qBin .eql s54 (S ⟨#[46, 97, 115, 99, 105, 105]⟩) fun t85 =>
  ifB t85 (
  qNil s0 fun t87 =>
  qFieldAddr 0 t87 fun t88 =>
  qFieldAddr 2 t88 fun t89 =>
  qStore 1 t89 (I 6) h fun h15 =>
  C fn_line_reader_ascii [s0, s2] h15 fun t92 h16 =>
  Q t92 h16) (
  qBin .eql s54 (S ⟨#[46, 97, 108, 105, 103, 110]⟩) fun t94 =>
  ifB t94 (
  line_reader_statement_j23 t94 s54 s7 s0 s1 h Q) (
  qBin .eql s54 (S ⟨#[46, 115, 112, 97, 99, 101]⟩) fun t95 =>
  line_reader_statement_j23 t95 s54 s7 s0 s1 h Q)))
def line_reader_statement (a0 a1 a2 : AV) (h : AHeap) (Q : QT) : Prop :=
  C fn_line_operands [a2] h fun t12 h0 =>
  C fn_isa_Find [a1] h0 fun t15 h1 =>
  qExtract 0 t15 fun t16 =>
  qExtract 1 t15 fun t17 =>
  ifB t17 (
  qNil a0 fun t22 =>
  qFieldAddr 0 t22 fun t23 =>
  qFieldAddr 2 t23 fun t24 =>
  qStore 1 t24 (I 1) h1 fun h2 =>
  qNil a0 fun t25 =>
  qFieldAddr 0 t25 fun t26 =>
  qFieldAddr 3 t26 fun t27 =>
  qStore 1 t27 t16 h2 fun h3 =>
  C fn_line_reader_instruction [a0, t12] h3 fun t30 h4 =>
  Q t30 h4) (
  C fn_line_grows [] h1 fun t31 h5 =>
  C fn_slices_Index__string_string [t31, a1] h5 fun t33 h6 =>
  qBin .geq t33 (I 0) fun t35 =>
  ifB t35 (
  qNil a0 fun t39 =>
  qFieldAddr 0 t39 fun t40 =>
  qFieldAddr 2 t40 fun t41 =>
  qStore 1 t41 (I 2) h6 fun h7 =>
  qNil a0 fun t42 =>
  qFieldAddr 0 t42 fun t43 =>
  qFieldAddr 3 t43 fun t44 =>
  qStore 1 t44 t33 h7 fun h8 =>
  qBin .quo t33 (I 2) fun t49 =>
  qBin .mul t49 (I 2) fun t50 =>
  qBin .add (I 1) t50 fun t51 =>
  C fn_line_same [(.fn (.func fn_line_reader_value) [a0] []), t51] h8 fun t52 h9 =>
  C fn_line_all [t12, t52] h9 fun t53 h10 =>
  Q t53 h10) (
  qBin .eql a1 (S ⟨#[46, 98, 121, 116, 101]⟩) fun t56 =>
  ifB t56 (
  line_reader_statement_j24 t56 a1 t12 a0 a1 a2 h6 Q) (
  qBin .eql a1 (S ⟨#[46, 104, 97, 108, 102]⟩) fun t57 =>
  ifB t57 (
  line_reader_statement_j24 t57 a1 t12 a0 a1 a2 h6 Q) (
  qBin .eql a1 (S ⟨#[46, 108, 111, 110, 103]⟩) fun t58 =>
  line_reader_statement_j24 t58 a1 t12 a0 a1 a2 h6 Q))))
theorem line_reader_statement_ok (a0 a1 a2 : AV) (h : AHeap) (Q : QT) (k : line_reader_statement a0 a1 a2 h Q) : C fn_line_reader_statement [a0, a1, a2] h Q :=
  okF (pl := []) Tryz.func106 Tryz.ntmps106 (by kernel_rfl) (by kernel_rfl) rfl (by kernel_rfl) k
def line_reader_value (a0 a1 : AV) (h : AHeap) (Q : QT) : Prop :=
  C fn_expr_Parse [a1] h fun t9 h0 =>
  qExtract 0 t9 fun t10 =>
  qExtract 1 t9 fun t11 =>
  qNew [(I 0), (I 0), (S ⟨#[]⟩), (.full 0 [])] h0 fun t5 h1 =>
  qStore 4 t5 t10 h1 fun h2 =>
  qNil a0 fun t14 =>
  qFieldAddr 0 t14 fun t15 =>
  qFieldAddr 5 t15 fun t16 =>
  qLoad1 t16 h2 fun t17 =>
  qLoadA 4 t5 h2 fun t18 =>
  qBuild [(I 0), (I 0), (I 0), (S ⟨#[]⟩), (.full 0 [])] [(0, 1, (I (-1))), (1, 4, t18)] fun t19 =>
  qBuildSlice 1 5 [t19] fun t20 =>
  qAppend 5 64 t17 t20 h2 fun t21 h3 =>
  qNil a0 fun t22 =>
  qFieldAddr 0 t22 fun t23 =>
  qFieldAddr 5 t23 fun t24 =>
  qStore 1 t24 t21 h3 fun h4 =>
  Q t11 h4
theorem line_reader_value_ok (a0 a1 : AV) (h : AHeap) (Q : QT) (k : line_reader_value a0 a1 h Q) : C fn_line_reader_value [a0, a1] h Q :=
  okF (pl := [(1000002, [0, 1, 2, 3, 4, 5, 6, 7, 8, 9, 10, 11, 12, 13], [])]) Tryz.func145 Tryz.ntmps145 (by kernel_rfl) (by kernel_rfl) rfl (by kernel_rfl) k
def line_reader_word (a0 a1 : AV) (h : AHeap) (Q : QT) : Prop :=
  qNil a0 fun t7 =>
  qFieldAddr 0 t7 fun t8 =>
  qFieldAddr 4 t8 fun t9 =>
  qStore 1 t9 a1 h fun h0 =>
  C fn_line_Word [a1] h0 fun t11 h1 =>
  Q t11 h1
theorem line_reader_word_ok (a0 a1 : AV) (h : AHeap) (Q : QT) (k : line_reader_word a0 a1 h Q) : C fn_line_reader_word [a0, a1] h Q :=
  okF (pl := []) Tryz.func147 Tryz.ntmps147 (by kernel_rfl) (by kernel_rfl) rfl (by kernel_rfl) k
def line_register (a0 : AV) (h : AHeap) (Q : QT) : Prop :=
  qLenS a0 fun t7 =>
  qBin .lss t7 (I 2) fun t8 =>
  ifB t8 (Q (.tup [(I 0), (B false)]) h) (
  qLenS a0 fun t11 =>
  qBin .gtr t11 (I 3) fun t12 =>
  ifB t12 (Q (.tup [(I 0), (B false)]) h) (
  qIndexS a0 (I 0) fun t16 =>
  qBin .neq t16 (.lit (.int .u8 114)) fun t17 =>
  ifB t17 (Q (.tup [(I 0), (B false)]) h) (
  qSliceS a0 (some (I 1)) none fun t21 =>
  C fn_line_front [t21, (.fn (.func fn_line_digit) [] [])] h fun t22 h0 =>
  qLenS a0 fun t24 =>
  qBin .sub t24 (I 1) fun t25 =>
  qBin .neq t22 t25 fun t26 =>
  ifB t26 (Q (.tup [(I 0), (B false)]) h0) (
  qLenS a0 fun t30 =>
  qBin .eql t30 (I 3) fun t31 =>
  ifT t31 (qIndexS a0 (I 1) fun t34 =>
  qBin .eql t34 (.lit (.int .u8 48)) fun t35 =>
  ifB t35 (
  Q (.tup [(I 0), (B false)]) h0) (
  qSliceS a0 (some (I 1)) none fun t40 =>
  C fn_strconv_Atoi [t40] h0 fun t41 h1 =>
  qExtract 0 t41 fun t42 =>
  qExtract 1 t41 fun t43 =>
  qBin .lss t42 (I 32) fun t46 =>
  Q (.tup [t42, t46]) h1)) (
  qSliceS a0 (some (I 1)) none fun t40 =>
  C fn_strconv_Atoi [t40] h0 fun t41 h2 =>
  qExtract 0 t41 fun t42 =>
  qExtract 1 t41 fun t43 =>
  qBin .lss t42 (I 32) fun t46 =>
  Q (.tup [t42, t46]) h2) (
  ifB (.tup []) (ifB (.tup []) (
  Q (.tup [(I 0), (B false)]) h0) (
  qSliceS a0 (some (I 1)) none fun t40 =>
  C fn_strconv_Atoi [t40] h0 fun t41 h3 =>
  qExtract 0 t41 fun t42 =>
  qExtract 1 t41 fun t43 =>
  qBin .lss t42 (I 32) fun t46 =>
  Q (.tup [t42, t46]) h3)) (qSliceS a0 (some (I 1)) none fun t40 =>
  C fn_strconv_Atoi [t40] h0 fun t41 h4 =>
  qExtract 0 t41 fun t42 =>
  qExtract 1 t41 fun t43 =>
  qBin .lss t42 (I 32) fun t46 =>
  Q (.tup [t42, t46]) h4))))))
theorem line_register_ok (a0 : AV) (h : AHeap) (Q : QT) (k : line_register a0 h Q) : C fn_line_register [a0] h Q :=
  okF (pl := []) Tryz.func179 Tryz.ntmps179 (by kernel_rfl) (by kernel_rfl) rfl (by kernel_rfl) k
def line_same_l2 (s6 s0 : AV) (Q : QT) (vs0 : List AV) (h : AHeap) (next0 : NT) : Prop :=
  qBin .lss (nthA vs0 1) s6 fun t8 =>
  ifB t8 (
  qBuildSlice 1 1 [s0] fun t11 =>
  qAppend 1 8 (nthA vs0 0) t11 h fun t12 h1 =>
  qBin .add (nthA vs0 1) (I 1) fun t13 =>
  next0 [t12, t13] h1) (
  Q (nthA vs0 0) h)
def line_same (a0 a1 : AV) (h : AHeap) (Q : QT) : Prop :=
  Loop [(.full 0 []), (I 0)] h fun vs0 h next0 => line_same_l2 a1 a0 Q vs0 h next0
theorem line_same_ok (a0 a1 : AV) (h : AHeap) (Q : QT) (k : line_same a0 a1 h Q) : C fn_line_same [a0, a1] h Q :=
  okF (pl := [(4, [5, 7, 8, 9, 10, 11, 12, 13], [5, 7])]) Tryz.func144 Tryz.ntmps144 (by kernel_rfl) (by kernel_rfl) rfl (by kernel_rfl) k
def seqA : Code → Code
  | .seq a _ => a
  | c => c
def seqC : Code → Code
  | .seq _ (.scope c) => c
  | c => c
def line_bare_s (a0 s4 : AV) (h : AHeap) (Q : QT) : Prop :=
  qSliceS a0 none (some s4) fun t21 =>
  C fn_strings_Trim [t21, (S ⟨#[32, 9]⟩)] h fun t22 h1 =>
  Q t22 h1
def line_bare_n (s3 s4 : AV) (h : AHeap) (next : NT) : Prop :=
  qBin .add s4 (I 1) fun t30 =>
  next [s3, t30] h
def line_bare_g (a0 s3 s4 : AV) (h : AHeap) (next : NT) : Prop :=
  qIndexS a0 s4 fun t25 =>
  qBin .eql t25 (.lit (.int .u8 34)) fun t26 =>
  ifB t26 (qUn .not s3 fun t28 => line_bare_n t28 s4 h next) (line_bare_n s3 s4 h next)
def line_bare_l (a0 s3 s4 : AV) (h : AHeap) (Q : QT) (next : NT) : Prop :=
  qLenS a0 fun t7 =>
  qBin .eql s4 t7 fun t8 =>
  ifB t8 (line_bare_s a0 s4 h Q) (
  qIndexS a0 s4 fun t12 =>
  qBin .eql t12 (.lit (.int .u8 35)) fun t13 =>
  ifT t13 (qUn .not s3 fun t16 =>
  ifB t16 (line_bare_s a0 s4 h Q) (line_bare_g a0 s3 s4 h next)) (line_bare_g a0 s3 s4 h next) False)
def line_bare (a0 : AV) (h : AHeap) (Q : QT) : Prop :=
  line_bare_l a0 (B false) (I 0) h Q fun vs h => Loop vs h fun vs h next => line_bare_l a0 (nthA vs 0) (nthA vs 1) h Q next
theorem line_bare_eq (a0 : AV) (h : AHeap) (Q : QT) : denJ Pg [] Tryz.f100 (seqA (bodyOf Tryz.f100)) (seqC (bodyOf Tryz.f100)) ((findLabel (seqC (bodyOf Tryz.f100)) 0).getD .skip) 0 [2, 3, 4, 5, 6, 7, 8, 9, 10, 11, 12, 13, 14, 15, 16, 17, 18, 19, 20, 21, 22, 23, 24, 25, 26, 27, 28, 29, 30] [3, 4] [a0] h Q = line_bare a0 h Q := by kernel_rfl
theorem line_bare_ok (a0 : AV) (h : AHeap) (Q : QT) (k : line_bare a0 h Q) : C fn_line_bare [a0] h Q :=
  acall_of_denJ (pl := []) Tryz.func100 (A := seqA (bodyOf Tryz.f100)) (c := seqC (bodyOf Tryz.f100)) (rest := (findLabel (seqC (bodyOf Tryz.f100)) 0).getD .skip) (l := 0) (ws := [2, 3, 4, 5, 6, 7, 8, 9, 10, 11, 12, 13, 14, 15, 16, 17, 18, 19, 20, 21, 22, 23, 24, 25, 26, 27, 28, 29, 30]) (ks := [3, 4]) (by kernel_rfl) (by kernel_rfl) (by kernel_rfl) (by kernel_rfl) (by kernel_rfl) (by kernel_rfl) (by have := Tryz.ntmps100; simp only [List.length_cons, List.length_nil]; omega) (by rw [line_bare_eq]; exact k)
end
end Go.Proofs.YtiddcelpooenfaaGreatDoor.AL
