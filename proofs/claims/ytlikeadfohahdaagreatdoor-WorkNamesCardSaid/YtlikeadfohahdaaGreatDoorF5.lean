import Derived.Test.YtlikeadfohahdaaGreatDoorF5A
set_option linter.all false
set_option autoImplicit true
set_option relaxedAutoImplicit true
set_option maxRecDepth 100000
namespace Go.Proofs.YtlikeadfohahdaaGreatDoor.AL
noncomputable section
open Go.Proofs
variable [Tabs]
def asm_Assemble_l6 (s27 s26 s6 : AV) (Q : QT) (vs2 : List AV) (h : AHeap) (next2 : NT) : Prop :=
  qBin .lss (nthA vs2 1) s27 fun t29 =>
  ifB t29 (
  qIndexAddr 1 s26 (nthA vs2 1) fun t30 =>
  qLoad1 t30 h fun t31 =>
  C fn_asm_source_bytes [s6, t31] h fun t35 h3 =>
  qAppend 1 1 (nthA vs2 0) t35 h3 fun t36 h4 =>
  qBin .add (nthA vs2 1) (I 1) fun t37 =>
  next2 [t36, t37] h4) (
  C fn_slices_Clone__byte_byte [(nthA vs2 0)] h fun t39 h5 =>
  Q (.tup [t39, (.full 0 [])]) h5)
def asm_Assemble (a0 a1 : AV) (h : AHeap) (Q : QT) : Prop :=
  C fn_asm_made [a0, a1] h fun t11 h0 =>
  qNil t11 fun t13 =>
  qFieldAddr 3 t13 fun t14 =>
  qLoad1 t14 h0 fun t15 =>
  qLenL t15 fun t16 =>
  qBin .gtr t16 (I 0) fun t17 =>
  ifB t17 (
  qNil t11 fun t19 =>
  qFieldAddr 3 t19 fun t20 =>
  qLoad1 t20 h0 fun t21 =>
  C fn_slices_Clone__api_Diag_api_Diag [t21] h0 fun t22 h1 =>
  Q (.tup [(.full 0 []), t22]) h1) (
  qNil t11 fun t24 =>
  qFieldAddr 0 t24 fun t25 =>
  qLoad1 t25 h0 fun t26 =>
  qLenL t26 fun t27 =>
  Loop [(.full 0 []), (I 0)] h0 fun vs2 h next2 => asm_Assemble_l6 t27 t26 t11 Q vs2 h next2)
theorem asm_Assemble_ok (a0 a1 : AV) (h : AHeap) (Q : QT) (k : asm_Assemble a0 a1 h Q) : C fn_asm_Assemble [a0, a1] h Q :=
  okF (pl := [(6, [4, 8, 28, 29, 30, 31, 32, 33, 34, 35, 36, 37], [4, 28])]) Tryz.func48 Tryz.ntmps48 (by kernel_rfl) (by kernel_rfl) rfl (by kernel_rfl) k
def asm_made_j2 (s5 : AV) (h : AHeap) (Q : QT) : Prop :=
  Q s5 h
def asm_made_b3 (s5 : AV) (h : AHeap) (Q : QT) : Prop :=
  asm_made_j2 s5 h Q
def asm_made_l5 (s20 s19 s5 : AV) (Q : QT) (vs1 : List AV) (h : AHeap) (next1 : NT) : Prop :=
  qBin .lss (nthA vs1 0) s20 fun t22 =>
  ifB t22 (
  qIndexAddr 1 s19 (nthA vs1 0) fun t23 =>
  qLoad1 t23 h fun t24 =>
  qNil s5 fun t26 =>
  qFieldAddr 3 t26 fun t27 =>
  qLoad1 t27 h fun t28 =>
  qLenL t28 fun t29 =>
  qBin .gtr t29 (I 0) fun t30 =>
  ifB t30 (
  asm_made_b3 s5 h Q) (
  CV t24 [] h fun t32 h4 =>
  qBin .add (nthA vs1 0) (I 1) fun t33 =>
  next1 [t33] h4)) (
  asm_made_b3 s5 h Q)
def asm_made (a0 a1 : AV) (h : AHeap) (Q : QT) : Prop :=
  C fn_asm_read [a0, a1] h fun t10 h0 =>
  qBuildSlice 4 1 [(.fn (.func fn_asm_source_twice) [t10] []), (.fn (.func fn_asm_source_sized) [t10] []), (.fn (.func fn_asm_source_places) [t10] []), (.fn (.func fn_asm_source_check) [t10] [])] fun t19 =>
  qLenL t19 fun t20 =>
  Loop [(I 0)] h0 fun vs1 h next1 => asm_made_l5 t20 t19 t10 Q vs1 h next1
theorem asm_made_ok (a0 a1 : AV) (h : AHeap) (Q : QT) (k : asm_made a0 a1 h Q) : C fn_asm_made [a0, a1] h Q :=
  okF (pl := [(4, [7, 21, 22, 23, 24, 25, 26, 27, 28, 29, 30, 31, 32, 33], [21])]) Tryz.func63 Tryz.ntmps63 (by kernel_rfl) (by kernel_rfl) rfl (by kernel_rfl) k
def asm_read_l18 (s68 s67 s9 s36 s5 : AV) (next6 : NT) (vs16 : List AV) (h : AHeap) (next16 : NT) : Prop :=
  qBin .lss (nthA vs16 0) s68 fun t70 =>
  ifB t70 (
  qIndexAddr 1 s67 (nthA vs16 0) fun t71 =>
  qLoad1 t71 h fun t72 =>
  qFieldAddr 0 s9 fun t74 =>
  qLoad1 t74 h fun t75 =>
  C fn_asm_source_tell [s5, t75, t72, (I 1)] h fun t77 h17 =>
  qBin .add (nthA vs16 0) (I 1) fun t78 =>
  next16 [t78] h17) (
  qBin .add s36 (I 1) fun t79 =>
  next6 [t79] h)
def asm_read_l19 (s47 s46 s11 s9 s36 s5 : AV) (next6 : NT) (vs10 : List AV) (h : AHeap) (next10 : NT) : Prop :=
  qBin .lss (nthA vs10 0) s47 fun t49 =>
  ifB t49 (
  qIndexAddr 6 s46 (nthA vs10 0) fun t50 =>
  qLoadA 6 t50 h fun t51 =>
  qNew [(I 0), (S ⟨#[]⟩), (I 0), (I 0), (S ⟨#[]⟩), (.full 0 [])] h fun t13 h11 =>
  qStore 6 t13 t51 h11 fun h12 =>
  qNil s5 fun t54 =>
  qFieldAddr 0 t54 fun t55 =>
  qLoad1 t55 h12 fun t56 =>
  qFieldAddr 0 s9 fun t57 =>
  qLoad1 t57 h12 fun t58 =>
  qLoadA 6 t13 h12 fun t59 =>
  qBuild [(S ⟨#[]⟩), (I 0), (S ⟨#[]⟩), (I 0), (I 0), (S ⟨#[]⟩), (.full 0 []), (I 0), (B false)] [(0, 1, t58), (1, 6, t59)] fun t60 =>
  qBox t60 h12 fun t61 h13 =>
  (qLoad1 t55 h13 fun _t =>
  _t = t56) ∧
  qBuildSlice 1 1 [t61] fun t62 =>
  qAppend 1 8 t56 t62 h13 fun t63 h14 =>
  qNil s5 fun t64 =>
  qFieldAddr 0 t64 fun t65 =>
  qStore 1 t65 t63 h14 fun h15 =>
  qBin .add (nthA vs10 0) (I 1) fun t66 =>
  next10 [t66] h15) (
  qLenL s11 fun t68 =>
  Loop [(I 0)] h fun vs16 h next16 => asm_read_l18 t68 s11 s9 s36 s5 next6 vs16 h next16)
def asm_read_l20 (s35 s34 s5 : AV) (Q : QT) (vs6 : List AV) (h : AHeap) (next6 : NT) : Prop :=
  qBin .lss (nthA vs6 0) s35 fun t37 =>
  ifB t37 (
  qIndexAddr 2 s34 (nthA vs6 0) fun t38 =>
  qLoadA 2 t38 h fun t39 =>
  qNew [(S ⟨#[]⟩), (S ⟨#[]⟩)] h fun t9 h7 =>
  qStore 2 t9 t39 h7 fun h8 =>
  qFieldAddr 1 t9 fun t41 =>
  qLoad1 t41 h8 fun t42 =>
  C fn_line_Parse [t42] h8 fun t43 h9 =>
  qExtract 0 t43 fun t44 =>
  qExtract 1 t43 fun t45 =>
  qLenL t44 fun t47 =>
  Loop [(I 0)] h9 fun vs10 h next10 => asm_read_l19 t47 t44 t45 t9 (nthA vs6 0) s5 next6 vs10 h next10) (
  Q s5 h)
def asm_read_l21 (s20 s19 s5 s0 : AV) (Q : QT) (vs2 : List AV) (h : AHeap) (next2 : NT) : Prop :=
  qBin .lss (nthA vs2 0) s20 fun t22 =>
  ifB t22 (
  qIndexAddr 2 s19 (nthA vs2 0) fun t23 =>
  qLoadA 2 t23 h fun t24 =>
  qNew [(S ⟨#[]⟩), (I 0)] h fun t7 h3 =>
  qStore 2 t7 t24 h3 fun h4 =>
  qNil s5 fun t26 =>
  qFieldAddr 1 t26 fun t27 =>
  qLoad1 t27 h4 fun t28 =>
  qFieldAddr 0 t7 fun t29 =>
  qLoad1 t29 h4 fun t30 =>
  qFieldAddr 1 t7 fun t31 =>
  qLoad1 t31 h4 fun t32 =>
  qMapUpdate .string t28 t30 t32 h4 fun h5 =>
  qBin .add (nthA vs2 0) (I 1) fun t33 =>
  next2 [t33] h5) (
  qLenL s0 fun t35 =>
  Loop [(I 0)] h fun vs6 h next6 => asm_read_l20 t35 s0 s5 Q vs6 h next6)
def asm_read (a0 a1 : AV) (h : AHeap) (Q : QT) : Prop :=
  qMakeMap h fun t16 h0 =>
  qBuild [(.full 0 []), (.lit (.map none)), (.lit (.map none)), (.full 0 []), (I 0)] [(1, 1, t16)] fun t17 =>
  qBox t17 h0 fun t18 h1 =>
  qLenL a1 fun t20 =>
  Loop [(I 0)] h1 fun vs2 h next2 => asm_read_l21 t20 a1 t18 a0 Q vs2 h next2
theorem asm_read_ok (a0 a1 : AV) (h : AHeap) (Q : QT) (k : asm_read a0 a1 h Q) : C fn_asm_read [a0, a1] h Q :=
  okF (pl := [(4, [7, 21, 22, 23, 24, 25, 26, 27, 28, 29, 30, 31, 32, 33], [21]), (1000005, [0, 1, 2, 3, 4, 5, 6, 7, 8], []), (9, [9, 10, 11, 13, 15, 36, 37, 38, 39, 40, 41, 42, 43, 44, 45, 46, 47, 48, 49, 50, 51, 52, 53, 54, 55, 56, 57, 58, 59, 60, 61, 62, 63, 64, 65, 66, 67, 68, 69, 70, 71, 72, 73, 74, 75, 76, 77, 78, 79], [36]), (13, [13, 48, 49, 50, 51, 52, 53, 54, 55, 56, 57, 58, 59, 60, 61, 62, 63, 64, 65, 66], [48]), (1000014, [0, 1, 2, 3, 4, 5, 6, 7, 8, 9, 10, 11, 12, 13, 14], []), (18, [15, 69, 70, 71, 72, 73, 74, 75, 76, 77, 78], [69])]) Tryz.func78 Tryz.ntmps78 (by kernel_rfl) (by kernel_rfl) rfl (by kernel_rfl) k
def asm_source_check_j3 (s10 : AV) (h : AHeap) (next0 : NT) : Prop :=
  qBin .add s10 (I 1) fun t31 =>
  next0 [t31] h
def asm_source_check_b4 (s10 : AV) (h : AHeap) (next0 : NT) : Prop :=
  asm_source_check_j3 s10 h next0
def asm_source_check_l5 (s9 s8 s0 : AV) (Q : QT) (vs0 : List AV) (h : AHeap) (next0 : NT) : Prop :=
  qBin .lss (nthA vs0 0) s9 fun t11 =>
  ifB t11 (
  qIndexAddr 1 s8 (nthA vs0 0) fun t12 =>
  qLoad1 t12 h fun t13 =>
  C fn_asm_source_wrong [s0, t13] h fun t16 h1 =>
  qBin .neq t16 (I 0) fun t18 =>
  ifB t18 (
  qNil t13 fun t21 =>
  qFieldAddr 0 t21 fun t22 =>
  qLoad1 t22 h1 fun t23 =>
  qNil t13 fun t25 =>
  qFieldAddr 1 t25 fun t26 =>
  qFieldAddr 0 t26 fun t27 =>
  qLoad1 t27 h1 fun t28 =>
  C fn_asm_source_tell [s0, t23, t28, t16] h1 fun t30 h2 =>
  asm_source_check_b4 (nthA vs0 0) h2 next0) (
  asm_source_check_b4 (nthA vs0 0) h1 next0)) (
  Q (.tup []) h)
def asm_source_check (a0 : AV) (h : AHeap) (Q : QT) : Prop :=
  qNil a0 fun t6 =>
  qFieldAddr 0 t6 fun t7 =>
  qLoad1 t7 h fun t8 =>
  qLenL t8 fun t9 =>
  Loop [(I 0)] h fun vs0 h next0 => asm_source_check_l5 t9 t8 a0 Q vs0 h next0
theorem asm_source_check_ok (a0 : AV) (h : AHeap) (Q : QT) (k : asm_source_check a0 h Q) : C fn_asm_source_check [a0] h Q :=
  okF (pl := [(2, [3, 4, 10, 11, 12, 13, 14, 15, 16, 17, 18, 19, 20, 21, 22, 23, 24, 25, 26, 27, 28, 29, 30, 31], [10]), (1000005, [0, 1, 2, 3, 4, 5, 6, 7, 8, 9, 10, 11], [])]) Tryz.func82 Tryz.ntmps82 (by kernel_rfl) (by kernel_rfl) rfl (by kernel_rfl) k
def asm_source_grow_j1 (s3 s15 : AV) (h : AHeap) (next0 : NT) : Prop :=
  qBin .add s15 (I 1) fun t64 =>
  next0 [s3, t64] h
def asm_source_grow_b2 (s3 s15 : AV) (h : AHeap) (next0 : NT) : Prop :=
  asm_source_grow_j1 s3 s15 h next0
def asm_source_grow_l10 (s66 s65 s3 : AV) (Q : QT) (vs8 : List AV) (h : AHeap) (next8 : NT) : Prop :=
  qBin .lss (nthA vs8 0) s66 fun t68 =>
  ifB t68 (
  qIndexAddr 1 s65 (nthA vs8 0) fun t69 =>
  qLoad1 t69 h fun t70 =>
  qNil t70 fun t72 =>
  qFieldAddr 8 t72 fun t73 =>
  qStore 1 t73 (B true) h fun h9 =>
  qBin .add (nthA vs8 0) (I 1) fun t74 =>
  next8 [t74] h9) (
  qLenL s3 fun t76 =>
  qBin .gtr t76 (I 0) fun t77 =>
  Q t77 h)
def asm_source_grow_l11 (s14 s13 s0 : AV) (Q : QT) (vs0 : List AV) (h : AHeap) (next0 : NT) : Prop :=
  qBin .lss (nthA vs0 1) s14 fun t16 =>
  ifB t16 (
  qIndexAddr 1 s13 (nthA vs0 1) fun t17 =>
  qLoad1 t17 h fun t18 =>
  qNil t18 fun t20 =>
  qFieldAddr 1 t20 fun t21 =>
  qFieldAddr 2 t21 fun t22 =>
  qLoad1 t22 h fun t23 =>
  qBin .neq t23 (I 2) fun t24 =>
  ifB t24 (asm_source_grow_b2 (nthA vs0 0) (nthA vs0 1) h next0) (
  qNil t18 fun t27 =>
  qFieldAddr 8 t27 fun t28 =>
  qLoad1 t28 h fun t29 =>
  ifB t29 (
  asm_source_grow_b2 (nthA vs0 0) (nthA vs0 1) h next0) (
  qNil t18 fun t35 =>
  qFieldAddr 7 t35 fun t36 =>
  qLoad1 t36 h fun t37 =>
  qNil s0 fun t39 =>
  qFieldAddr 2 t39 fun t40 =>
  qLoad1 t40 h fun t41 =>
  C fn_asm_entry_last [t18] h fun t33 h3 =>
  (qLoad1 t40 h3 fun _t =>
  _t = t41) ∧
  (qLoad1 t36 h3 fun _t =>
  _t = t37) ∧
  C fn_asm_eval [t33, t37, t41] h3 fun t42 h4 =>
  qExtract 0 t42 fun t43 =>
  qExtract 1 t42 fun t44 =>
  qBin .eql t44 (I 0) fun t46 =>
  ifB t46 (qNil t18 fun t51 =>
  qFieldAddr 7 t51 fun t52 =>
  qLoad1 t52 h4 fun t53 =>
  qBin .sub t43 t53 fun t54 =>
  qBuildSlice 1 1 [t54] fun t55 =>
  C fn_asm_short [(I 0)] h4 fun t48 h5 =>
  (qLoad1 t52 h5 fun _t =>
  _t = t53) ∧
  qBuild [(I 0), (.full 0 [])] [(0, 1, t48), (1, 1, t55)] fun t56 =>
  C fn_isa_Right [t56] h5 fun t57 h6 =>
  qUn .not t57 fun t58 =>
  ifB t58 (
  qBuildSlice 1 1 [t18] fun t62 =>
  qAppend 1 8 (nthA vs0 0) t62 h6 fun t63 h7 =>
  asm_source_grow_b2 t63 (nthA vs0 1) h7 next0) (
  asm_source_grow_b2 (nthA vs0 0) (nthA vs0 1) h6 next0)) (
  asm_source_grow_b2 (nthA vs0 0) (nthA vs0 1) h4 next0)))) (
  qLenL (nthA vs0 0) fun t66 =>
  Loop [(I 0)] h fun vs8 h next8 => asm_source_grow_l10 t66 (nthA vs0 0) (nthA vs0 0) Q vs8 h next8)
def asm_source_grow (a0 : AV) (h : AHeap) (Q : QT) : Prop :=
  qNil a0 fun t11 =>
  qFieldAddr 0 t11 fun t12 =>
  qLoad1 t12 h fun t13 =>
  qLenL t13 fun t14 =>
  Loop [(.full 0 []), (I 0)] h fun vs0 h next0 => asm_source_grow_l11 t14 t13 a0 Q vs0 h next0
theorem asm_source_grow_ok (a0 : AV) (h : AHeap) (Q : QT) (k : asm_source_grow a0 h Q) : C fn_asm_source_grow [a0] h Q :=
  okF (pl := [(4, [3, 5, 6, 7, 15, 16, 17, 18, 19, 20, 21, 22, 23, 24, 25, 26, 27, 28, 29, 30, 31, 32, 33, 34, 35, 36, 37, 38, 39, 40, 41, 42, 43, 44, 45, 46, 47, 48, 49, 50, 51, 52, 53, 54, 55, 56, 57, 58, 59, 60, 61, 62, 63, 64], [3, 15]), (1000006, [0, 2, 3, 4, 5, 6, 7, 8, 9, 1, 10, 11, 12, 13, 14, 15], []), (1000007, [0, 1, 2, 4, 5, 6, 7, 8, 9, 10, 3, 11, 12, 13, 14], []), (12, [9, 67, 68, 69, 70, 71, 72, 73, 74], [67])]) Tryz.func112 Tryz.ntmps112 (by kernel_rfl) (by kernel_rfl) rfl (by kernel_rfl) k
def asm_source_lay_j10 (s6 s4 s39 s0 : AV) (h : AHeap) (next6 : NT) : Prop :=
  C fn_asm_source_long [s0, s6] h fun t66 h9 =>
  qBin .add s4 t66 fun t67 =>
  qBin .add s39 (I 1) fun t68 =>
  next6 [t67, t68] h9
def asm_source_lay_j14 (s7 s79 : AV) (h : AHeap) (next13 : NT) : Prop :=
  qBin .add s79 (I 1) fun t133 =>
  next13 [s7, t133] h
def asm_source_lay_b15 (s7 s79 : AV) (h : AHeap) (next13 : NT) : Prop :=
  asm_source_lay_j14 s7 s79 h next13
def asm_source_lay_l20 (s78 s77 s0 : AV) (next12 : NT) (vs13 : List AV) (h : AHeap) (next13 : NT) : Prop :=
  qBin .lss (nthA vs13 1) s78 fun t80 =>
  ifB t80 (
  qIndexAddr 1 s77 (nthA vs13 1) fun t81 =>
  qLoad1 t81 h fun t82 =>
  qNil s0 fun t85 =>
  qFieldAddr 2 t85 fun t86 =>
  qLoad1 t86 h fun t87 =>
  qNil t82 fun t89 =>
  qFieldAddr 1 t89 fun t90 =>
  qFieldAddr 4 t90 fun t91 =>
  qLoad1 t91 h fun t92 =>
  qLookup .string true (I 0) t87 t92 h fun t93 =>
  qExtract 0 t93 fun t94 =>
  qExtract 1 t93 fun t95 =>
  qNil t82 fun t97 =>
  qFieldAddr 1 t97 fun t98 =>
  qFieldAddr 2 t98 fun t99 =>
  qLoad1 t99 h fun t100 =>
  qBin .neq t100 (I 9) fun t101 =>
  ifB t101 (asm_source_lay_b15 (nthA vs13 0) (nthA vs13 1) h next13) (
  ifB t95 (
  asm_source_lay_b15 (nthA vs13 0) (nthA vs13 1) h next13) (
  qNil t82 fun t109 =>
  qFieldAddr 7 t109 fun t110 =>
  qLoad1 t110 h fun t111 =>
  qNil s0 fun t113 =>
  qFieldAddr 2 t113 fun t114 =>
  qLoad1 t114 h fun t115 =>
  C fn_asm_entry_last [t82] h fun t107 h16 =>
  (qLoad1 t114 h16 fun _t =>
  _t = t115) ∧
  (qLoad1 t110 h16 fun _t =>
  _t = t111) ∧
  C fn_asm_eval [t107, t111, t115] h16 fun t116 h17 =>
  qExtract 0 t116 fun t117 =>
  qExtract 1 t116 fun t118 =>
  qBin .eql t118 (I 0) fun t120 =>
  ifB t120 (
  qNil s0 fun t122 =>
  qFieldAddr 2 t122 fun t123 =>
  qLoad1 t123 h17 fun t124 =>
  qNil t82 fun t126 =>
  qFieldAddr 1 t126 fun t127 =>
  qFieldAddr 4 t127 fun t128 =>
  qLoad1 t128 h17 fun t129 =>
  qMapEntry .string (I 0) t124 t129 h17 fun t131 h18 =>
  qExtract 1 t131 fun t132 =>
  qEntryStore t124 t132 t117 h18 fun h19 =>
  asm_source_lay_b15 (B true) (nthA vs13 1) h19 next13) (
  asm_source_lay_b15 (nthA vs13 0) (nthA vs13 1) h17 next13)))) (
  next12 [(nthA vs13 0)] h)
def asm_source_lay_l21 (s0 : AV) (Q : QT) (vs12 : List AV) (h : AHeap) (next12 : NT) : Prop :=
  ifB (nthA vs12 0) (
  qNil s0 fun t75 =>
  qFieldAddr 0 t75 fun t76 =>
  qLoad1 t76 h fun t77 =>
  qLenL t77 fun t78 =>
  Loop [(B false), (I 0)] h fun vs13 h next13 => asm_source_lay_l20 t78 t77 s0 next12 vs13 h next13) (
  Q (.tup []) h)
def asm_source_lay_l22 (s38 s37 s0 : AV) (Q : QT) (vs6 : List AV) (h : AHeap) (next6 : NT) : Prop :=
  qBin .lss (nthA vs6 1) s38 fun t40 =>
  ifB t40 (
  qIndexAddr 1 s37 (nthA vs6 1) fun t41 =>
  qLoad1 t41 h fun t42 =>
  qNil t42 fun t45 =>
  qFieldAddr 7 t45 fun t46 =>
  qStore 1 t46 (nthA vs6 0) h fun h7 =>
  qNil t42 fun t48 =>
  qFieldAddr 1 t48 fun t49 =>
  qFieldAddr 1 t49 fun t50 =>
  qLoad1 t50 h7 fun t51 =>
  qBin .neq t51 (S ⟨#[]⟩) fun t52 =>
  ifB t52 (
  qNil s0 fun t54 =>
  qFieldAddr 2 t54 fun t55 =>
  qLoad1 t55 h7 fun t56 =>
  qNil t42 fun t58 =>
  qFieldAddr 1 t58 fun t59 =>
  qFieldAddr 1 t59 fun t60 =>
  qLoad1 t60 h7 fun t61 =>
  qMapUpdate .string t56 t61 (nthA vs6 0) h7 fun h8 =>
  asm_source_lay_j10 t42 (nthA vs6 0) (nthA vs6 1) s0 h8 next6) (
  asm_source_lay_j10 t42 (nthA vs6 0) (nthA vs6 1) s0 h7 next6)) (
  qNil s0 fun t71 =>
  qFieldAddr 4 t71 fun t72 =>
  qStore 1 t72 (nthA vs6 0) h fun h11 =>
  Loop [(B true)] h11 fun vs12 h next12 => asm_source_lay_l21 s0 Q vs12 h next12)
def asm_source_lay_l23 (s22 s0 : AV) (Q : QT) (h : AHeap) (next3 : NT) : Prop :=
  qNextM s22 h fun t23 h4 =>
  qExtract 0 t23 fun t24 =>
  ifB t24 (
  qEntry s22 h4 fun t25 =>
  qExtract 0 t25 fun t26 =>
  qExtract 1 t25 fun t27 =>
  qNil s0 fun t29 =>
  qFieldAddr 2 t29 fun t30 =>
  qLoad1 t30 h4 fun t31 =>
  qMapUpdate .string t31 t26 t27 h4 fun h5 =>
  next3 [] h5) (
  qNil s0 fun t35 =>
  qFieldAddr 0 t35 fun t36 =>
  qLoad1 t36 h4 fun t37 =>
  qLenL t37 fun t38 =>
  Loop [(I 0), (I 0)] h4 fun vs6 h next6 => asm_source_lay_l22 t38 t37 s0 Q vs6 h next6)
def asm_source_lay (a0 : AV) (h : AHeap) (Q : QT) : Prop :=
  qMakeMap h fun t15 h0 =>
  qNil a0 fun t16 =>
  qFieldAddr 2 t16 fun t17 =>
  qStore 1 t17 t15 h0 fun h1 =>
  qNil a0 fun t19 =>
  qFieldAddr 1 t19 fun t20 =>
  qLoad1 t20 h1 fun t21 =>
  qRangeM t21 h1 fun t22 h2 =>
  Loop [] h2 fun _ h next3 => asm_source_lay_l23 t22 a0 Q h next3
theorem asm_source_lay_ok (a0 : AV) (h : AHeap) (Q : QT) (k : asm_source_lay a0 h Q) : C fn_asm_source_lay [a0] h Q :=
  okF (pl := [(3, [2, 3, 23, 24, 25, 26, 27, 28, 29, 30, 31, 32, 33], []), (8, [4, 6, 39, 40, 41, 42, 43, 44, 45, 46, 47, 48, 49, 50, 51, 52, 53, 54, 55, 56, 57, 58, 59, 60, 61, 62, 63, 64, 65, 66, 67, 68], [4, 39]), (1000011, [0, 1, 2, 3, 4, 5, 6, 7, 8, 9, 10], []), (17, [7, 9, 10, 11, 12, 13, 73, 74, 75, 76, 77, 78, 79, 80, 81, 82, 83, 84, 85, 86, 87, 88, 89, 90, 91, 92, 93, 94, 95, 96, 97, 98, 99, 100, 101, 102, 103, 104, 105, 106, 107, 108, 109, 110, 111, 112, 113, 114, 115, 116, 117, 118, 119, 120, 121, 122, 123, 124, 125, 126, 127, 128, 129, 130, 131, 132, 133], [7]), (20, [7, 9, 10, 11, 12, 13, 79, 80, 81, 82, 83, 84, 85, 86, 87, 88, 89, 90, 91, 92, 93, 94, 95, 96, 97, 98, 99, 100, 101, 102, 103, 104, 105, 106, 107, 108, 109, 110, 111, 112, 113, 114, 115, 116, 117, 118, 119, 120, 121, 122, 123, 124, 125, 126, 127, 128, 129, 130, 131, 132, 133], [7, 79]), (1000021, [0, 1, 2, 3, 4, 5, 6, 7, 8, 9, 10, 11, 12, 13, 14], []), (1000023, [0, 2, 3, 4, 5, 6, 7, 8, 9, 1, 10, 11, 12, 13, 14, 15], []), (1000025, [0, 1, 2, 3, 4, 5, 6, 7, 8, 9, 10, 11, 12, 13], [])]) Tryz.func111 Tryz.ntmps111 (by kernel_rfl) (by kernel_rfl) rfl (by kernel_rfl) k
def asm_source_places_l5 (s0 : AV) (Q : QT) (h : AHeap) (next1 : NT) : Prop :=
  C fn_asm_source_grow [s0] h fun t5 h2 =>
  ifB t5 (
  C fn_asm_source_lay [s0] h2 fun t7 h3 =>
  next1 [] h3) (
  qNil s0 fun t9 =>
  qFieldAddr 4 t9 fun t10 =>
  qLoad1 t10 h2 fun t11 =>
  qBin .gtr t11 (I 4096) fun t12 =>
  ifB t12 (
  C fn_asm_source_tell [s0, (S ⟨#[]⟩), (I 0), (I 8)] h2 fun t14 h4 =>
  Q (.tup []) h4) (
  Q (.tup []) h2))
def asm_source_places (a0 : AV) (h : AHeap) (Q : QT) : Prop :=
  C fn_asm_source_lay [a0] h fun t3 h0 =>
  Loop [] h0 fun _ h next1 => asm_source_places_l5 a0 Q h next1
theorem asm_source_places_ok (a0 : AV) (h : AHeap) (Q : QT) (k : asm_source_places a0 h Q) : C fn_asm_source_places [a0] h Q :=
  okF (pl := [(2, [4, 5, 6, 7], [])]) Tryz.func81 Tryz.ntmps81 (by kernel_rfl) (by kernel_rfl) rfl (by kernel_rfl) k
def asm_source_sized_j1 (s12 : AV) (h : AHeap) (next0 : NT) : Prop :=
  qBin .add s12 (I 1) fun t77 =>
  next0 [t77] h
def asm_source_sized_b2 (s12 : AV) (h : AHeap) (next0 : NT) : Prop :=
  asm_source_sized_j1 s12 h next0
def asm_source_sized_j11 (s6 s5 s3 s12 s0 : AV) (h : AHeap) (next0 : NT) : Prop :=
  C fn_asm_entry_last [s3] h fun t56 h6 =>
  C fn_asm_here [t56] h6 fun t57 h7 =>
  ifB t57 (qNil s3 fun t68 =>
  qFieldAddr 0 t68 fun t69 =>
  qLoad1 t69 h7 fun t70 =>
  qNil s3 fun t72 =>
  qFieldAddr 1 t72 fun t73 =>
  qFieldAddr 0 t73 fun t74 =>
  qLoad1 t74 h7 fun t75 =>
  C fn_asm_source_tell [s0, t70, t75, (I 3)] h7 fun t76 h8 =>
  asm_source_sized_b2 s12 h8 next0) (
  qBin .neq s5 (I 0) fun t60 =>
  ifB t60 (qNil s3 fun t68 =>
  qFieldAddr 0 t68 fun t69 =>
  qLoad1 t69 h7 fun t70 =>
  qNil s3 fun t72 =>
  qFieldAddr 1 t72 fun t73 =>
  qFieldAddr 0 t73 fun t74 =>
  qLoad1 t74 h7 fun t75 =>
  C fn_asm_source_tell [s0, t70, t75, (I 3)] h7 fun t76 h9 =>
  asm_source_sized_b2 s12 h9 next0) (
  qUn .not s6 fun t64 =>
  ifB t64 (
  qNil s3 fun t68 =>
  qFieldAddr 0 t68 fun t69 =>
  qLoad1 t69 h7 fun t70 =>
  qNil s3 fun t72 =>
  qFieldAddr 1 t72 fun t73 =>
  qFieldAddr 0 t73 fun t74 =>
  qLoad1 t74 h7 fun t75 =>
  C fn_asm_source_tell [s0, t70, t75, (I 3)] h7 fun t76 h10 =>
  asm_source_sized_b2 s12 h10 next0) (
  asm_source_sized_b2 s12 h7 next0)))
def asm_source_sized_j18 (s6 s5 s3 s12 s0 : AV) (h : AHeap) (next0 : NT) : Prop :=
  C fn_asm_entry_last [s3] h fun t56 h13 =>
  C fn_asm_here [t56] h13 fun t57 h14 =>
  ifB t57 (qNil s3 fun t68 =>
  qFieldAddr 0 t68 fun t69 =>
  qLoad1 t69 h14 fun t70 =>
  qNil s3 fun t72 =>
  qFieldAddr 1 t72 fun t73 =>
  qFieldAddr 0 t73 fun t74 =>
  qLoad1 t74 h14 fun t75 =>
  C fn_asm_source_tell [s0, t70, t75, (I 3)] h14 fun t76 h15 =>
  asm_source_sized_b2 s12 h15 next0) (
  qBin .neq s5 (I 0) fun t60 =>
  ifB t60 (qNil s3 fun t68 =>
  qFieldAddr 0 t68 fun t69 =>
  qLoad1 t69 h14 fun t70 =>
  qNil s3 fun t72 =>
  qFieldAddr 1 t72 fun t73 =>
  qFieldAddr 0 t73 fun t74 =>
  qLoad1 t74 h14 fun t75 =>
  C fn_asm_source_tell [s0, t70, t75, (I 3)] h14 fun t76 h16 =>
  asm_source_sized_b2 s12 h16 next0) (
  qUn .not s6 fun t64 =>
  ifB t64 (
  qNil s3 fun t68 =>
  qFieldAddr 0 t68 fun t69 =>
  qLoad1 t69 h14 fun t70 =>
  qNil s3 fun t72 =>
  qFieldAddr 1 t72 fun t73 =>
  qFieldAddr 0 t73 fun t74 =>
  qLoad1 t74 h14 fun t75 =>
  C fn_asm_source_tell [s0, t70, t75, (I 3)] h14 fun t76 h17 =>
  asm_source_sized_b2 s12 h17 next0) (
  asm_source_sized_b2 s12 h14 next0)))
def asm_source_sized_j27 (s6 s5 s3 s12 s0 : AV) (h : AHeap) (next0 : NT) : Prop :=
  C fn_asm_entry_last [s3] h fun t56 h22 =>
  C fn_asm_here [t56] h22 fun t57 h23 =>
  ifB t57 (qNil s3 fun t68 =>
  qFieldAddr 0 t68 fun t69 =>
  qLoad1 t69 h23 fun t70 =>
  qNil s3 fun t72 =>
  qFieldAddr 1 t72 fun t73 =>
  qFieldAddr 0 t73 fun t74 =>
  qLoad1 t74 h23 fun t75 =>
  C fn_asm_source_tell [s0, t70, t75, (I 3)] h23 fun t76 h24 =>
  asm_source_sized_b2 s12 h24 next0) (
  qBin .neq s5 (I 0) fun t60 =>
  ifB t60 (qNil s3 fun t68 =>
  qFieldAddr 0 t68 fun t69 =>
  qLoad1 t69 h23 fun t70 =>
  qNil s3 fun t72 =>
  qFieldAddr 1 t72 fun t73 =>
  qFieldAddr 0 t73 fun t74 =>
  qLoad1 t74 h23 fun t75 =>
  C fn_asm_source_tell [s0, t70, t75, (I 3)] h23 fun t76 h25 =>
  asm_source_sized_b2 s12 h25 next0) (
  qUn .not s6 fun t64 =>
  ifB t64 (
  qNil s3 fun t68 =>
  qFieldAddr 0 t68 fun t69 =>
  qLoad1 t69 h23 fun t70 =>
  qNil s3 fun t72 =>
  qFieldAddr 1 t72 fun t73 =>
  qFieldAddr 0 t73 fun t74 =>
  qLoad1 t74 h23 fun t75 =>
  C fn_asm_source_tell [s0, t70, t75, (I 3)] h23 fun t76 h26 =>
  asm_source_sized_b2 s12 h26 next0) (
  asm_source_sized_b2 s12 h23 next0)))
def asm_source_sized_j34 (s6 s5 s3 s12 s0 : AV) (h : AHeap) (next0 : NT) : Prop :=
  C fn_asm_entry_last [s3] h fun t56 h29 =>
  C fn_asm_here [t56] h29 fun t57 h30 =>
  ifB t57 (qNil s3 fun t68 =>
  qFieldAddr 0 t68 fun t69 =>
  qLoad1 t69 h30 fun t70 =>
  qNil s3 fun t72 =>
  qFieldAddr 1 t72 fun t73 =>
  qFieldAddr 0 t73 fun t74 =>
  qLoad1 t74 h30 fun t75 =>
  C fn_asm_source_tell [s0, t70, t75, (I 3)] h30 fun t76 h31 =>
  asm_source_sized_b2 s12 h31 next0) (
  qBin .neq s5 (I 0) fun t60 =>
  ifB t60 (qNil s3 fun t68 =>
  qFieldAddr 0 t68 fun t69 =>
  qLoad1 t69 h30 fun t70 =>
  qNil s3 fun t72 =>
  qFieldAddr 1 t72 fun t73 =>
  qFieldAddr 0 t73 fun t74 =>
  qLoad1 t74 h30 fun t75 =>
  C fn_asm_source_tell [s0, t70, t75, (I 3)] h30 fun t76 h32 =>
  asm_source_sized_b2 s12 h32 next0) (
  qUn .not s6 fun t64 =>
  ifB t64 (
  qNil s3 fun t68 =>
  qFieldAddr 0 t68 fun t69 =>
  qLoad1 t69 h30 fun t70 =>
  qNil s3 fun t72 =>
  qFieldAddr 1 t72 fun t73 =>
  qFieldAddr 0 t73 fun t74 =>
  qLoad1 t74 h30 fun t75 =>
  C fn_asm_source_tell [s0, t70, t75, (I 3)] h30 fun t76 h33 =>
  asm_source_sized_b2 s12 h33 next0) (
  asm_source_sized_b2 s12 h30 next0)))
def asm_source_sized_l35 (s11 s10 s0 : AV) (Q : QT) (vs0 : List AV) (h : AHeap) (next0 : NT) : Prop :=
  qBin .lss (nthA vs0 0) s11 fun t13 =>
  ifB t13 (
  qIndexAddr 1 s10 (nthA vs0 0) fun t14 =>
  qLoad1 t14 h fun t15 =>
  qNil t15 fun t17 =>
  qFieldAddr 1 t17 fun t18 =>
  qFieldAddr 2 t18 fun t19 =>
  qLoad1 t19 h fun t20 =>
  qBin .neq t20 (I 7) fun t21 =>
  ifB t21 (qNil t15 fun t24 =>
  qFieldAddr 1 t24 fun t25 =>
  qFieldAddr 2 t25 fun t26 =>
  qLoad1 t26 h fun t27 =>
  qBin .neq t27 (I 8) fun t28 =>
  ifB t28 (
  asm_source_sized_b2 (nthA vs0 0) h next0) (
  qNil s0 fun t34 =>
  qFieldAddr 1 t34 fun t35 =>
  qLoad1 t35 h fun t36 =>
  C fn_asm_entry_last [t15] h fun t32 h3 =>
  (qLoad1 t35 h3 fun _t =>
  _t = t36) ∧
  C fn_asm_eval [t32, (I 0), t36] h3 fun t37 h4 =>
  qExtract 0 t37 fun t38 =>
  qExtract 1 t37 fun t39 =>
  qBin .geq t38 (I 0) fun t41 =>
  ifB t41 (qBin .leq t38 (I 1000) fun t44 =>
  qNil t15 fun t47 =>
  qFieldAddr 1 t47 fun t48 =>
  qFieldAddr 2 t48 fun t49 =>
  qLoad1 t49 h4 fun t50 =>
  qBin .eql t50 (I 7) fun t51 =>
  ifB t51 (
  qBuildSlice 5 1 [(I 1), (I 2), (I 4), (I 8), (I 16)] fun t52 =>
  C fn_slices_Contains__int_int [t52, t38] h4 fun t54 h5 =>
  asm_source_sized_j11 t54 t39 t15 (nthA vs0 0) s0 h5 next0) (
  asm_source_sized_j11 t44 t39 t15 (nthA vs0 0) s0 h4 next0)) (
  qNil t15 fun t47 =>
  qFieldAddr 1 t47 fun t48 =>
  qFieldAddr 2 t48 fun t49 =>
  qLoad1 t49 h4 fun t50 =>
  qBin .eql t50 (I 7) fun t51 =>
  ifB t51 (
  qBuildSlice 5 1 [(I 1), (I 2), (I 4), (I 8), (I 16)] fun t52 =>
  C fn_slices_Contains__int_int [t52, t38] h4 fun t54 h12 =>
  asm_source_sized_j18 t54 t39 t15 (nthA vs0 0) s0 h12 next0) (
  asm_source_sized_j18 (B false) t39 t15 (nthA vs0 0) s0 h4 next0)))) (
  qNil s0 fun t34 =>
  qFieldAddr 1 t34 fun t35 =>
  qLoad1 t35 h fun t36 =>
  C fn_asm_entry_last [t15] h fun t32 h19 =>
  (qLoad1 t35 h19 fun _t =>
  _t = t36) ∧
  C fn_asm_eval [t32, (I 0), t36] h19 fun t37 h20 =>
  qExtract 0 t37 fun t38 =>
  qExtract 1 t37 fun t39 =>
  qBin .geq t38 (I 0) fun t41 =>
  ifB t41 (qBin .leq t38 (I 1000) fun t44 =>
  qNil t15 fun t47 =>
  qFieldAddr 1 t47 fun t48 =>
  qFieldAddr 2 t48 fun t49 =>
  qLoad1 t49 h20 fun t50 =>
  qBin .eql t50 (I 7) fun t51 =>
  ifB t51 (
  qBuildSlice 5 1 [(I 1), (I 2), (I 4), (I 8), (I 16)] fun t52 =>
  C fn_slices_Contains__int_int [t52, t38] h20 fun t54 h21 =>
  asm_source_sized_j27 t54 t39 t15 (nthA vs0 0) s0 h21 next0) (
  asm_source_sized_j27 t44 t39 t15 (nthA vs0 0) s0 h20 next0)) (
  qNil t15 fun t47 =>
  qFieldAddr 1 t47 fun t48 =>
  qFieldAddr 2 t48 fun t49 =>
  qLoad1 t49 h20 fun t50 =>
  qBin .eql t50 (I 7) fun t51 =>
  ifB t51 (
  qBuildSlice 5 1 [(I 1), (I 2), (I 4), (I 8), (I 16)] fun t52 =>
  C fn_slices_Contains__int_int [t52, t38] h20 fun t54 h28 =>
  asm_source_sized_j34 t54 t39 t15 (nthA vs0 0) s0 h28 next0) (
  asm_source_sized_j34 (B false) t39 t15 (nthA vs0 0) s0 h20 next0)))) (
  Q (.tup []) h)
def asm_source_sized (a0 : AV) (h : AHeap) (Q : QT) : Prop :=
  qNil a0 fun t8 =>
  qFieldAddr 0 t8 fun t9 =>
  qLoad1 t9 h fun t10 =>
  qLenL t10 fun t11 =>
  Loop [(I 0)] h fun vs0 h next0 => asm_source_sized_l35 t11 t10 a0 Q vs0 h next0
theorem asm_source_sized_ok (a0 : AV) (h : AHeap) (Q : QT) (k : asm_source_sized a0 h Q) : C fn_asm_source_sized [a0] h Q :=
  okF (pl := [(2, [3, 4, 5, 6, 12, 13, 14, 15, 16, 17, 18, 19, 20, 21, 22, 23, 24, 25, 26, 27, 28, 29, 30, 31, 32, 33, 34, 35, 36, 37, 38, 39, 40, 41, 42, 43, 44, 45, 46, 47, 48, 49, 50, 51, 52, 53, 54, 55, 56, 57, 58, 59, 60, 61, 62, 63, 64, 65, 66, 67, 68, 69, 70, 71, 72, 73, 74, 75, 76, 77], [12]), (1000004, [0, 2, 3, 4, 5, 1, 6, 7, 8, 9, 10, 11], []), (1000009, [0, 1, 2, 3, 4, 5, 6, 7, 8, 9, 10], [])]) Tryz.func80 Tryz.ntmps80 (by kernel_rfl) (by kernel_rfl) rfl (by kernel_rfl) k
def asm_source_twice_j8 (s52 : AV) (h : AHeap) (next7 : NT) : Prop :=
  qBin .add s52 (I 1) fun t77 =>
  next7 [t77] h
def asm_source_twice_b9 (s52 : AV) (h : AHeap) (next7 : NT) : Prop :=
  asm_source_twice_j8 s52 h next7
def asm_source_twice_j12 (s8 s52 s2 : AV) (h : AHeap) (next7 : NT) : Prop :=
  qLookup .string false (I 0) s2 s8 h fun t75 =>
  qBin .add t75 (I 1) fun t76 =>
  qMapUpdate .string s2 s8 t76 h fun h11 =>
  asm_source_twice_b9 s52 h11 next7
def asm_source_twice_l13 (s51 s50 s5 s26 s2 s0 : AV) (next5 : NT) (vs7 : List AV) (h : AHeap) (next7 : NT) : Prop :=
  qBin .lss (nthA vs7 0) s51 fun t53 =>
  ifB t53 (
  qIndexAddr 1 s50 (nthA vs7 0) fun t54 =>
  qLoad1 t54 h fun t55 =>
  qBin .eql t55 (S ⟨#[]⟩) fun t57 =>
  ifB t57 (
  asm_source_twice_b9 (nthA vs7 0) h next7) (
  qLookup .string false (I 0) s2 t55 h fun t60 =>
  qBin .gtr t60 (I 0) fun t61 =>
  ifB t61 (
  qNil s5 fun t64 =>
  qFieldAddr 0 t64 fun t65 =>
  qLoad1 t65 h fun t66 =>
  qNil s5 fun t68 =>
  qFieldAddr 1 t68 fun t69 =>
  qFieldAddr 0 t69 fun t70 =>
  qLoad1 t70 h fun t71 =>
  C fn_asm_source_tell [s0, t66, t71, (I 2)] h fun t72 h10 =>
  asm_source_twice_j12 t55 (nthA vs7 0) s2 h10 next7) (
  asm_source_twice_j12 t55 (nthA vs7 0) s2 h next7))) (
  qBin .add s26 (I 1) fun t78 =>
  next5 [t78] h)
def asm_source_twice_j14 (s6 s5 s26 s2 s0 : AV) (h : AHeap) (next5 : NT) : Prop :=
  qLenL s6 fun t51 =>
  Loop [(I 0)] h fun vs7 h next7 => asm_source_twice_l13 t51 s6 s5 s26 s2 s0 next5 vs7 h next7
def asm_source_twice_l15 (s25 s24 s2 s0 : AV) (Q : QT) (vs5 : List AV) (h : AHeap) (next5 : NT) : Prop :=
  qBin .lss (nthA vs5 0) s25 fun t27 =>
  ifB t27 (
  qIndexAddr 1 s24 (nthA vs5 0) fun t28 =>
  qLoad1 t28 h fun t29 =>
  qNil t29 fun t31 =>
  qFieldAddr 1 t31 fun t32 =>
  qFieldAddr 1 t32 fun t33 =>
  qLoad1 t33 h fun t34 =>
  qBuildSlice 1 1 [t34] fun t35 =>
  qNil t29 fun t37 =>
  qFieldAddr 1 t37 fun t38 =>
  qFieldAddr 2 t38 fun t39 =>
  qLoad1 t39 h fun t40 =>
  qBin .eql t40 (I 9) fun t41 =>
  ifB t41 (
  qNil t29 fun t44 =>
  qFieldAddr 1 t44 fun t45 =>
  qFieldAddr 4 t45 fun t46 =>
  qLoad1 t46 h fun t47 =>
  qBuildSlice 1 1 [t47] fun t48 =>
  qAppend 1 16 t35 t48 h fun t49 h6 =>
  asm_source_twice_j14 t49 t29 (nthA vs5 0) s2 s0 h6 next5) (
  asm_source_twice_j14 t35 t29 (nthA vs5 0) s2 s0 h next5)) (
  Q (.tup []) h)
def asm_source_twice_l16 (s14 s2 s0 : AV) (Q : QT) (h : AHeap) (next2 : NT) : Prop :=
  qNextM s14 h fun t15 h3 =>
  qExtract 0 t15 fun t16 =>
  ifB t16 (
  qEntry s14 h3 fun t17 =>
  qExtract 0 t17 fun t18 =>
  qMapUpdate .string s2 t18 (I 1) h3 fun h4 =>
  next2 [] h4) (
  qNil s0 fun t22 =>
  qFieldAddr 0 t22 fun t23 =>
  qLoad1 t23 h3 fun t24 =>
  qLenL t24 fun t25 =>
  Loop [(I 0)] h3 fun vs5 h next5 => asm_source_twice_l15 t25 t24 s2 s0 Q vs5 h next5)
def asm_source_twice (a0 : AV) (h : AHeap) (Q : QT) : Prop :=
  qMakeMap h fun t9 h0 =>
  qNil a0 fun t11 =>
  qFieldAddr 1 t11 fun t12 =>
  qLoad1 t12 h0 fun t13 =>
  qRangeM t13 h0 fun t14 h1 =>
  Loop [] h1 fun _ h next2 => asm_source_twice_l16 t14 t9 a0 Q h next2
theorem asm_source_twice_ok (a0 : AV) (h : AHeap) (Q : QT) (k : asm_source_twice a0 h Q) : C fn_asm_source_twice [a0] h Q :=
  okF (pl := [(3, [3, 15, 16, 17, 18, 19, 20], []), (7, [5, 6, 8, 26, 27, 28, 29, 30, 31, 32, 33, 34, 35, 36, 37, 38, 39, 40, 41, 42, 43, 44, 45, 46, 47, 48, 49, 50, 51, 52, 53, 54, 55, 56, 57, 58, 59, 60, 61, 62, 63, 64, 65, 66, 67, 68, 69, 70, 71, 72, 73, 74, 75, 76, 77, 78], [26]), (13, [8, 52, 53, 54, 55, 56, 57, 58, 59, 60, 61, 62, 63, 64, 65, 66, 67, 68, 69, 70, 71, 72, 73, 74, 75, 76, 77], [52]), (1000016, [0, 1, 2, 3, 4, 5, 6, 7, 8, 9, 10], [])]) Tryz.func79 Tryz.ntmps79 (by kernel_rfl) (by kernel_rfl) rfl (by kernel_rfl) k
def line_Word (a0 : AV) (h : AHeap) (Q : QT) : Prop :=
  qBin .eql a0 (S ⟨#[]⟩) fun t4 =>
  ifB t4 (Q (B false) h) (
  qLenS a0 fun t7 =>
  qBin .gtr t7 (I 12) fun t8 =>
  ifB t8 (Q (B false) h) (
  qIndexS a0 (I 0) fun t12 =>
  C fn_line_digit [t12] h fun t13 h0 =>
  ifB t13 (Q (B false) h0) (
  C fn_line_front [a0, (.fn (.func fn_line_inner) [] [])] h0 fun t17 h1 =>
  qLenS a0 fun t19 =>
  qBin .neq t17 t19 fun t20 =>
  ifB t20 (
  Q (B false) h1) (
  qIndexS a0 (I 0) fun t23 =>
  qBin .neq t23 (.lit (.int .u8 114)) fun t24 =>
  ifB t24 (Q (B true) h1) (
  qLenS a0 fun t27 =>
  qBin .eql t27 (I 1) fun t28 =>
  ifB t28 (Q (B true) h1) (
  qSliceS a0 (some (I 1)) none fun t32 =>
  C fn_line_front [t32, (.fn (.func fn_line_digit) [] [])] h1 fun t33 h2 =>
  qLenS a0 fun t35 =>
  qBin .sub t35 (I 1) fun t36 =>
  qBin .neq t33 t36 fun t37 =>
  Q t37 h2))))))
theorem line_Word_ok (a0 : AV) (h : AHeap) (Q : QT) (k : line_Word a0 h Q) : C fn_line_Word [a0] h Q :=
  okF (pl := []) Tryz.func26 Tryz.ntmps26 (by kernel_rfl) (by kernel_rfl) rfl (by kernel_rfl) k
def line_digit (a0 : AV) (h : AHeap) (Q : QT) : Prop :=
  qBin .geq a0 (.lit (.int .u8 48)) fun t4 =>
  ifB t4 (qBin .leq a0 (.lit (.int .u8 57)) fun t7 =>
  Q t7 h) (
  Q (B false) h)
theorem line_digit_ok (a0 : AV) (h : AHeap) (Q : QT) (k : line_digit a0 h Q) : C fn_line_digit [a0] h Q :=
  okF (pl := []) Tryz.func45 Tryz.ntmps45 (by kernel_rfl) (by kernel_rfl) rfl (by kernel_rfl) k
def line_front_l2 (s0 s1 : AV) (Q : QT) (vs0 : List AV) (h : AHeap) (next0 : NT) : Prop :=
  qLenS s0 fun t8 =>
  qBin .lss (nthA vs0 0) t8 fun t9 =>
  ifB t9 (qIndexS s0 (nthA vs0 0) fun t14 =>
  CV s1 [t14] h fun t15 h1 =>
  ifB t15 (
  qBin .add (nthA vs0 0) (I 1) fun t18 =>
  next0 [t18] h1) (
  Q (nthA vs0 0) h1)) (
  Q (nthA vs0 0) h)
def line_front (a0 a1 : AV) (h : AHeap) (Q : QT) : Prop :=
  Loop [(I 0)] h fun vs0 h next0 => line_front_l2 a0 a1 Q vs0 h next0
theorem line_front_ok (a0 a1 : AV) (h : AHeap) (Q : QT) (k : line_front a0 a1 h Q) : C fn_line_front [a0, a1] h Q :=
  okF (pl := [(3, [5, 6, 7, 8, 9, 10, 11, 12, 13, 14, 15, 16, 17, 18], [5])]) Tryz.func46 Tryz.ntmps46 (by kernel_rfl) (by kernel_rfl) rfl (by kernel_rfl) k
def line_inner (a0 : AV) (h : AHeap) (Q : QT) : Prop :=
  qBin .geq a0 (.lit (.int .u8 97)) fun t4 =>
  ifB t4 (qBin .leq a0 (.lit (.int .u8 122)) fun t7 =>
  ifB t7 (Q (B true) h) (
  qBin .eql a0 (.lit (.int .u8 95)) fun t11 =>
  ifB t11 (Q (B true) h) (
  C fn_line_digit [a0] h fun t15 h0 =>
  Q t15 h0))) (
  qBin .eql a0 (.lit (.int .u8 95)) fun t11 =>
  ifB t11 (Q (B true) h) (
  C fn_line_digit [a0] h fun t15 h1 =>
  Q t15 h1))
theorem line_inner_ok (a0 : AV) (h : AHeap) (Q : QT) (k : line_inner a0 h Q) : C fn_line_inner [a0] h Q :=
  okF (pl := []) Tryz.func47 Tryz.ntmps47 (by kernel_rfl) (by kernel_rfl) rfl (by kernel_rfl) k
end
end Go.Proofs.YtlikeadfohahdaaGreatDoor.AL
