import Derived.Test.YtochldeokjifkaaGreatDoorF5
set_option linter.all false
set_option autoImplicit true
set_option relaxedAutoImplicit true
set_option maxRecDepth 100000
namespace Go.Proofs.YtochldeokjifkaaGreatDoor.AL
noncomputable section
open Go.Proofs
variable [Tabs]
def law9_Name (a0 : AV) (h : AHeap) (Q : QT) : Prop :=
  qBuildSlice 12 1 [(S ⟨#[109, 97, 105, 110]⟩), (S ⟨#[97]⟩), (S ⟨#[98, 49]⟩), (S ⟨#[120]⟩), (S ⟨#[108, 105, 98]⟩), (S ⟨#[101, 110, 100]⟩), (S ⟨#[99]⟩), (S ⟨#[100]⟩), (S ⟨#[101]⟩), (S ⟨#[102]⟩), (S ⟨#[98, 97, 115, 101]⟩), (S ⟨#[107]⟩)] fun t3 =>
  C fn_law9_within [a0, (I 12)] h fun t5 h0 =>
  qIndexAddr 1 t3 t5 fun t6 =>
  qLoad1 t6 h0 fun t7 =>
  Q t7 h0
theorem law9_Name_ok (a0 : AV) (h : AHeap) (Q : QT) (k : law9_Name a0 h Q) : C fn_law9_Name [a0] h Q :=
  okF (pl := []) Tryz.func14 Tryz.ntmps14 (by kernel_rfl) (by kernel_rfl) rfl (by kernel_rfl) k
def law9_WorkLimits_j11 (s10 s6 s9 s7 : AV) (h : AHeap) (next3 : NT) (Q : QT) : Prop :=
  qLoadA 4 s10 h fun t38 =>
  C fn_work_Work_Do [s7, t38] h fun t39 h9 =>
  qPart1 0 t39 fun t40 =>
  qBin .eql t40 (I 0) fun t41 =>
  qBin .lss s9 (I 8) fun t43 =>
  qBinB .neq t41 t43 fun t44 =>
  ifB t44 (Q (B false) h9) (
  qLoadA 4 s10 h9 fun t47 =>
  C fn_work_Work_Do [s7, t47] h9 fun t48 h10 =>
  qPart1 0 t48 fun t49 =>
  qBin .eql t49 (I 0) fun t50 =>
  qBin .lss s9 (I 8) fun t52 =>
  qBinB .neq t50 t52 fun t53 =>
  ifB t53 (
  Q (B false) h10) (
  qBin .add s9 (I 1) fun t28 =>
  next3 [s6, t28] h10))
def law9_WorkLimits_l24 (s11 s1 : AV) (Q : QT) (vs15 : List AV) (h : AHeap) (next15 : NT) : Prop :=
  qBin .lss (nthA vs15 1) (I 590) fun t69 =>
  ifB t69 (
  qBin .add (nthA vs15 0) (S ⟨#[35]⟩) fun t73 =>
  qBin .add (nthA vs15 1) (I 1) fun t71 =>
  next15 [t73, t71] h) (
  C fn_law9_within [s1, (I 20)] h fun t75 h16 =>
  qBuild [(I 0), (S ⟨#[]⟩), (S ⟨#[]⟩), (I 0)] [(0, 1, (I 1)), (1, 1, (S ⟨#[97]⟩)), (2, 1, (nthA vs15 0))] fun t78 =>
  C fn_work_Work_Do [s11, t78] h16 fun t79 h17 =>
  qSliceS (nthA vs15 0) none (some t75) fun t83 =>
  qBuild [(I 0), (S ⟨#[]⟩), (S ⟨#[]⟩), (I 0)] [(0, 1, (I 3)), (1, 1, (S ⟨#[97]⟩)), (2, 1, t83)] fun t84 =>
  C fn_work_Work_Do [s11, t84] h17 fun t85 h18 =>
  qNew [(I 0), (S ⟨#[]⟩), (.full 0 []), (.full 0 [])] h18 fun t15 h19 =>
  qStore 4 t15 t85 h19 fun h20 =>
  qBuild [(I 0), (S ⟨#[]⟩), (S ⟨#[]⟩), (I 0)] [(0, 1, (I 4)), (1, 1, (S ⟨#[97]⟩))] fun t87 =>
  C fn_work_Work_Do [s11, t87] h20 fun t88 h21 =>
  qNew [(I 0), (S ⟨#[]⟩), (.full 0 []), (.full 0 [])] h21 fun t16 h22 =>
  qStore 4 t16 t88 h22 fun h23 =>
  qFieldAddr 0 t15 fun t89 =>
  qLoad1 t89 h23 fun t90 =>
  qBin .eql t90 (I 0) fun t91 =>
  qBin .leq t75 (I 10) fun t93 =>
  qBinB .eql t91 t93 fun t94 =>
  ifB t94 (qFieldAddr 0 t15 fun t96 =>
  qLoad1 t96 h23 fun t97 =>
  qBin .eql t97 (I 0) fun t98 =>
  ifT t98 (qFieldAddr 1 t16 fun t106 =>
  qLoad1 t106 h23 fun t107 =>
  qLenS t107 fun t108 =>
  qBin .add (I 590) t75 fun t110 =>
  qBin .eql t108 t110 fun t111 =>
  qBin .leq t75 (I 10) fun t113 =>
  qBinB .eql t111 t113 fun t114 =>
  ifB t114 (qBin .leq t75 (I 10) fun t118 =>
  ifT t118 (Q (B true) h23) (
  qFieldAddr 1 t16 fun t120 =>
  qLoad1 t120 h23 fun t121 =>
  qLenS t121 fun t122 =>
  qBin .eql t122 (I 590) fun t123 =>
  Q t123 h23) (
  ifB (.tup []) (Q (B true) h23) (Q (.tup []) h23))) (
  Q (B false) h23)) (
  qFieldAddr 0 t15 fun t100 =>
  qLoad1 t100 h23 fun t101 =>
  qBin .eql t101 (I 10) fun t102 =>
  ifB t102 (qFieldAddr 1 t16 fun t106 =>
  qLoad1 t106 h23 fun t107 =>
  qLenS t107 fun t108 =>
  qBin .add (I 590) t75 fun t110 =>
  qBin .eql t108 t110 fun t111 =>
  qBin .leq t75 (I 10) fun t113 =>
  qBinB .eql t111 t113 fun t114 =>
  ifB t114 (qBin .leq t75 (I 10) fun t118 =>
  ifT t118 (Q (B true) h23) (
  qFieldAddr 1 t16 fun t120 =>
  qLoad1 t120 h23 fun t121 =>
  qLenS t121 fun t122 =>
  qBin .eql t122 (I 590) fun t123 =>
  Q t123 h23) (
  ifB (.tup []) (Q (B true) h23) (Q (.tup []) h23))) (
  Q (B false) h23)) (
  Q (B false) h23)) (
  ifB (.tup []) (qFieldAddr 1 t16 fun t106 =>
  qLoad1 t106 h23 fun t107 =>
  qLenS t107 fun t108 =>
  qBin .add (I 590) t75 fun t110 =>
  qBin .eql t108 t110 fun t111 =>
  qBin .leq t75 (I 10) fun t113 =>
  qBinB .eql t111 t113 fun t114 =>
  ifB t114 (qBin .leq t75 (I 10) fun t118 =>
  ifT t118 (Q (B true) h23) (
  qFieldAddr 1 t16 fun t120 =>
  qLoad1 t120 h23 fun t121 =>
  qLenS t121 fun t122 =>
  qBin .eql t122 (I 590) fun t123 =>
  Q t123 h23) (
  ifB (.tup []) (Q (B true) h23) (Q (.tup []) h23))) (
  Q (B false) h23)) (ifB (.tup []) (ifB (.tup []) (Q (.tup []) h23) (Q (B false) h23)) (Q (B false) h23)))) (
  Q (B false) h23))
def law9_WorkLimits_l25 (s8 s7 s1 s2 : AV) (Q : QT) (vs3 : List AV) (h : AHeap) (next3 : NT) : Prop :=
  qBin .lss (nthA vs3 1) s8 fun t26 =>
  ifB t26 (
  C fn_law9_Name [(nthA vs3 1)] h fun t30 h4 =>
  qBuild [(I 0), (S ⟨#[]⟩), (S ⟨#[]⟩), (I 0)] [(0, 1, (I 1)), (1, 1, t30)] fun t31 =>
  qNew [(I 0), (S ⟨#[]⟩), (S ⟨#[]⟩), (I 0)] h4 fun t10 h5 =>
  qStore 4 t10 t31 h5 fun h6 =>
  ifB s2 (
  C fn_law9_Name [(nthA vs3 1)] h6 fun t34 h7 =>
  qBuild [(I 0), (S ⟨#[]⟩), (S ⟨#[]⟩), (I 0)] [(0, 1, (I 5)), (1, 1, t34), (3, 1, (nthA vs3 1))] fun t36 =>
  qStore 4 t10 t36 h7 fun h8 =>
  law9_WorkLimits_j11 t10 (nthA vs3 0) (nthA vs3 1) s7 h8 next3 Q) (
  law9_WorkLimits_j11 t10 (nthA vs3 0) (nthA vs3 1) s7 h6 next3 Q)) (
  C fn_work_Work_Frags [s7] h fun t56 h12 =>
  qLenL t56 fun t57 =>
  C fn_work_Work_Syms [s7] h12 fun t59 h13 =>
  qLenL t59 fun t60 =>
  qBin .add t57 t60 fun t61 =>
  qMin s8 (I 8) fun t63 =>
  qBin .neq t61 t63 fun t64 =>
  ifB t64 (
  Q (B false) h13) (
  C fn_work_New [] h13 fun t65 h14 =>
  qBinP .eql t65 (.lit (.pointer none)) fun t67 =>
  ifB t67 (
  Q (B false) h14) (
  Loop [(S ⟨#[]⟩), (I 0)] h14 fun vs15 h next15 => law9_WorkLimits_l24 t65 s1 Q vs15 h next15)))
def law9_WorkLimits (a0 a1 a2 : AV) (h : AHeap) (Q : QT) : Prop :=
  C fn_law9_known [] h fun t17 h0 =>
  qUn .not t17 fun t18 =>
  ifB t18 (
  Q (B false) h0) (
  C fn_work_New [] h0 fun t19 h1 =>
  qBinP .eql t19 (.lit (.pointer none)) fun t21 =>
  ifB t21 (
  Q (B false) h1) (
  C fn_law9_within [a0, (I 12)] h1 fun t23 h2 =>
  Loop [(B false), (I 0)] h2 fun vs3 h next3 => law9_WorkLimits_l25 t23 t19 a1 a2 Q vs3 h next3))
theorem law9_WorkLimits_ok (a0 a1 a2 : AV) (h : AHeap) (Q : QT) (k : law9_WorkLimits a0 a1 a2 h Q) : C fn_law9_WorkLimits [a0, a1, a2] h Q :=
  okF (pl := [(9, [6, 9, 10, 24, 25, 26, 27, 28, 29, 30, 31, 32, 33, 34, 35, 36, 37, 38, 39, 40, 41, 42, 43, 44, 45, 46, 47, 48, 49, 50, 51, 52, 53, 54], [6, 9]), (23, [12, 13, 68, 69, 70, 71, 72, 73], [12, 13])]) Tryz.func5 Tryz.ntmps5 (by kernel_rfl) (by kernel_rfl) rfl (by kernel_rfl) k
def law9_within_j0 (s5 : AV) (h : AHeap) (Q : QT) : Prop :=
  Q s5 h
def law9_within (a0 a1 : AV) (h : AHeap) (Q : QT) : Prop :=
  qBin .rem a0 a1 fun t8 =>
  qBin .lss t8 (I 0) fun t10 =>
  ifB t10 (
  qBin .add t8 a1 fun t13 =>
  law9_within_j0 t13 h Q) (
  law9_within_j0 t8 h Q)
theorem law9_within_ok (a0 a1 : AV) (h : AHeap) (Q : QT) (k : law9_within a0 a1 h Q) : C fn_law9_within [a0, a1] h Q :=
  okF (pl := []) Tryz.func10 Tryz.ntmps10 (by kernel_rfl) (by kernel_rfl) rfl (by kernel_rfl) k
def work_New (h : AHeap) (Q : QT) : Prop :=
  qMakeMap h fun t1 h0 =>
  qMakeMap h0 fun t2 h1 =>
  qBuild [(.lit (.map none)), (.lit (.map none))] [(0, 1, t1), (1, 1, t2)] fun t3 =>
  qBox t3 h1 fun t4 h2 =>
  Q t4 h2
theorem work_New_ok (h : AHeap) (Q : QT) (k : work_New  h Q) : C fn_work_New [] h Q :=
  okF (pl := []) Tryz.func13 Tryz.ntmps13 (by kernel_rfl) (by kernel_rfl) rfl (by kernel_rfl) k
def work_Right (a0 : AV) (h : AHeap) (Q : QT) : Prop :=
  qBox a0 h fun t1 h0 =>
  qFieldAddr 0 t1 fun t3 =>
  qLoad1 t3 h0 fun t4 =>
  qBin .lss t4 (I 1) fun t5 =>
  ifB t5 (Q (B false) h0) (
  qFieldAddr 0 t1 fun t7 =>
  qLoad1 t7 h0 fun t8 =>
  qBin .gtr t8 (I 7) fun t9 =>
  ifB t9 (
  Q (B false) h0) (
  qFieldAddr 0 t1 fun t11 =>
  qLoad1 t11 h0 fun t12 =>
  qBin .eql t12 (I 7) fun t13 =>
  ifB t13 (
  qLoadA 4 t1 h0 fun t14 =>
  qBuild [(I 0), (S ⟨#[]⟩), (S ⟨#[]⟩), (I 0)] [(0, 1, (I 7))] fun t15 =>
  qEqS .eql [(.int .i64), .string, .string, (.int .i64)] t14 t15 fun t16 =>
  Q t16 h0) (
  qFieldAddr 1 t1 fun t17 =>
  qLoad1 t17 h0 fun t18 =>
  C fn_line_Word [t18] h0 fun t19 h1 =>
  qUn .not t19 fun t20 =>
  ifB t20 (Q (B false) h1) (
  qFieldAddr 2 t1 fun t22 =>
  qLoad1 t22 h1 fun t23 =>
  qLenS t23 fun t24 =>
  qBin .gtr t24 (I 600) fun t25 =>
  ifB t25 (Q (B false) h1) (
  qFieldAddr 2 t1 fun t28 =>
  qLoad1 t28 h1 fun t29 =>
  qBin .neq t29 (S ⟨#[]⟩) fun t30 =>
  ifT t30 (qFieldAddr 0 t1 fun t32 =>
  qLoad1 t32 h1 fun t33 =>
  C fn_work_writes [t33] h1 fun t34 h2 =>
  qUn .not t34 fun t35 =>
  ifB t35 (
  Q (B false) h2) (
  qFieldAddr 3 t1 fun t38 =>
  qLoad1 t38 h2 fun t39 =>
  qBin .geq t39 (I (-1099511627776)) fun t40 =>
  ifB t40 (qFieldAddr 3 t1 fun t42 =>
  qLoad1 t42 h2 fun t43 =>
  qBin .leq t43 (I 1099511627776) fun t44 =>
  ifB t44 (qFieldAddr 3 t1 fun t47 =>
  qLoad1 t47 h2 fun t48 =>
  qBin .eql t48 (I 0) fun t49 =>
  ifT t49 (Q (B true) h2) (
  qFieldAddr 0 t1 fun t51 =>
  qLoad1 t51 h2 fun t52 =>
  C fn_work_defines [t52] h2 fun t53 h3 =>
  Q t53 h3) (
  ifB (.tup []) (Q (B true) h2) (Q (.tup []) h2))) (
  Q (B false) h2)) (
  Q (B false) h2))) (
  qFieldAddr 3 t1 fun t38 =>
  qLoad1 t38 h1 fun t39 =>
  qBin .geq t39 (I (-1099511627776)) fun t40 =>
  ifB t40 (qFieldAddr 3 t1 fun t42 =>
  qLoad1 t42 h1 fun t43 =>
  qBin .leq t43 (I 1099511627776) fun t44 =>
  ifB t44 (qFieldAddr 3 t1 fun t47 =>
  qLoad1 t47 h1 fun t48 =>
  qBin .eql t48 (I 0) fun t49 =>
  ifT t49 (Q (B true) h1) (
  qFieldAddr 0 t1 fun t51 =>
  qLoad1 t51 h1 fun t52 =>
  C fn_work_defines [t52] h1 fun t53 h4 =>
  Q t53 h4) (
  ifB (.tup []) (Q (B true) h1) (Q (.tup []) h1))) (
  Q (B false) h1)) (
  Q (B false) h1)) (
  ifB (.tup []) (ifB (.tup []) (
  Q (B false) h1) (
  qFieldAddr 3 t1 fun t38 =>
  qLoad1 t38 h1 fun t39 =>
  qBin .geq t39 (I (-1099511627776)) fun t40 =>
  ifB t40 (qFieldAddr 3 t1 fun t42 =>
  qLoad1 t42 h1 fun t43 =>
  qBin .leq t43 (I 1099511627776) fun t44 =>
  ifB t44 (qFieldAddr 3 t1 fun t47 =>
  qLoad1 t47 h1 fun t48 =>
  qBin .eql t48 (I 0) fun t49 =>
  ifT t49 (Q (B true) h1) (
  qFieldAddr 0 t1 fun t51 =>
  qLoad1 t51 h1 fun t52 =>
  C fn_work_defines [t52] h1 fun t53 h5 =>
  Q t53 h5) (
  ifB (.tup []) (Q (B true) h1) (Q (.tup []) h1))) (
  Q (B false) h1)) (
  Q (B false) h1))) (qFieldAddr 3 t1 fun t38 =>
  qLoad1 t38 h1 fun t39 =>
  qBin .geq t39 (I (-1099511627776)) fun t40 =>
  ifB t40 (qFieldAddr 3 t1 fun t42 =>
  qLoad1 t42 h1 fun t43 =>
  qBin .leq t43 (I 1099511627776) fun t44 =>
  ifB t44 (qFieldAddr 3 t1 fun t47 =>
  qLoad1 t47 h1 fun t48 =>
  qBin .eql t48 (I 0) fun t49 =>
  ifT t49 (Q (B true) h1) (
  qFieldAddr 0 t1 fun t51 =>
  qLoad1 t51 h1 fun t52 =>
  C fn_work_defines [t52] h1 fun t53 h6 =>
  Q t53 h6) (
  ifB (.tup []) (Q (B true) h1) (Q (.tup []) h1))) (
  Q (B false) h1)) (
  Q (B false) h1))))))))
theorem work_Right_ok (a0 : AV) (h : AHeap) (Q : QT) (k : work_Right a0 h Q) : C fn_work_Right [a0] h Q :=
  okF (pl := []) Tryz.func11 Tryz.ntmps11 (by kernel_rfl) (by kernel_rfl) rfl (by kernel_rfl) k
def work_Work_Do (a0 a1 : AV) (h : AHeap) (Q : QT) : Prop :=
  qBox a1 h fun t3 h0 =>
  qNew [(I 0), (S ⟨#[]⟩), (.full 0 []), (.full 0 [])] h0 fun t4 h1 =>
  qLoadA 4 t3 h1 fun t5 =>
  C fn_work_Right [t5] h1 fun t6 h2 =>
  qUn .not t6 fun t7 =>
  ifB t7 (
  C fn_work_no [(I 12)] h2 fun t8 h3 =>
  qStore 4 t4 t8 h3 fun h4 =>
  qLoadA 4 t4 h4 fun r5 =>
  Q r5 h4) (
  qFieldAddr 0 t3 fun t9 =>
  qLoad1 t9 h2 fun t10 =>
  qLoadA 4 t3 h2 fun t13 =>
  C fn_work_deed [t10] h2 fun t11 h6 =>
  (qLoadA 4 t3 h6 fun _t =>
  _t = t13) ∧
  CV t11 [a0, t13] h6 fun t14 h7 =>
  qStore 4 t4 t14 h7 fun h8 =>
  qLoadA 4 t4 h8 fun r9 =>
  Q r9 h8)
theorem work_Work_Do_ok (a0 a1 : AV) (h : AHeap) (Q : QT) (k : work_Work_Do a0 a1 h Q) : C fn_work_Work_Do [a0, a1] h Q :=
  okF (pl := [(1000003, [0, 1, 3, 4, 2, 5, 6], [])]) Tryz.func15 Tryz.ntmps15 (by kernel_rfl) (by kernel_rfl) rfl (by kernel_rfl) k
def work_Work_Frags (a0 : AV) (h : AHeap) (Q : QT) : Prop :=
  qNil a0 fun t4 =>
  qFieldAddr 0 t4 fun t5 =>
  qLoad1 t5 h fun t6 =>
  C fn_work_each_api_Frag_string [t6, (.fn (.func fn_work_Work_frag) [a0] [])] h fun t9 h0 =>
  Q t9 h0
theorem work_Work_Frags_ok (a0 : AV) (h : AHeap) (Q : QT) (k : work_Work_Frags a0 h Q) : C fn_work_Work_Frags [a0] h Q :=
  okF (pl := []) Tryz.func16 Tryz.ntmps16 (by kernel_rfl) (by kernel_rfl) rfl (by kernel_rfl) k
def work_Work_Syms (a0 : AV) (h : AHeap) (Q : QT) : Prop :=
  qNil a0 fun t4 =>
  qFieldAddr 1 t4 fun t5 =>
  qLoad1 t5 h fun t6 =>
  C fn_work_each_api_Sym_int [t6, (.fn (.func fn_work_Work_sym) [a0] [])] h fun t9 h0 =>
  Q t9 h0
theorem work_Work_Syms_ok (a0 : AV) (h : AHeap) (Q : QT) (k : work_Work_Syms a0 h Q) : C fn_work_Work_Syms [a0] h Q :=
  okF (pl := []) Tryz.func17 Tryz.ntmps17 (by kernel_rfl) (by kernel_rfl) rfl (by kernel_rfl) k
def work_Work_define (a0 a1 : AV) (h : AHeap) (Q : QT) : Prop :=
  qBox a1 h fun t3 h0 =>
  qNew [(I 0), (S ⟨#[]⟩), (.full 0 []), (.full 0 [])] h0 fun t4 h1 =>
  qNil a0 fun t9 =>
  qFieldAddr 1 t9 fun t10 =>
  qLoad1 t10 h1 fun t11 =>
  qFieldAddr 1 t3 fun t12 =>
  qLoad1 t12 h1 fun t13 =>
  qLookup .string true (I 0) t11 t13 h1 fun t14 =>
  qExtract 0 t14 fun t15 =>
  qExtract 1 t14 fun t16 =>
  qUn .not t16 fun t18 =>
  ifB t18 (qNil a0 fun t21 =>
  qFieldAddr 1 t21 fun t22 =>
  qLoad1 t22 h1 fun t23 =>
  qLenM t23 h1 fun t24 =>
  qBin .geq t24 (I 8) fun t25 =>
  ifB t25 (
  C fn_work_no [(I 10)] h1 fun t27 h2 =>
  qStore 4 t4 t27 h2 fun h3 =>
  qLoadA 4 t4 h3 fun r4 =>
  Q r4 h3) (
  qNil a0 fun t29 =>
  qFieldAddr 1 t29 fun t30 =>
  qLoad1 t30 h1 fun t31 =>
  qFieldAddr 1 t3 fun t32 =>
  qLoad1 t32 h1 fun t33 =>
  qFieldAddr 3 t3 fun t34 =>
  qLoad1 t34 h1 fun t35 =>
  qMapUpdate .string t31 t33 t35 h1 fun h5 =>
  C fn_work_no [(I 0)] h5 fun t36 h6 =>
  qStore 4 t4 t36 h6 fun h7 =>
  qLoadA 4 t4 h7 fun r8 =>
  Q r8 h7)) (
  qNil a0 fun t29 =>
  qFieldAddr 1 t29 fun t30 =>
  qLoad1 t30 h1 fun t31 =>
  qFieldAddr 1 t3 fun t32 =>
  qLoad1 t32 h1 fun t33 =>
  qFieldAddr 3 t3 fun t34 =>
  qLoad1 t34 h1 fun t35 =>
  qMapUpdate .string t31 t33 t35 h1 fun h9 =>
  C fn_work_no [(I 0)] h9 fun t36 h10 =>
  qStore 4 t4 t36 h10 fun h11 =>
  qLoadA 4 t4 h11 fun r12 =>
  Q r12 h11)
theorem work_Work_define_ok (a0 a1 : AV) (h : AHeap) (Q : QT) (k : work_Work_define a0 a1 h Q) : C fn_work_Work_define [a0, a1] h Q :=
  okF (pl := [(1000001, [0, 1, 2, 3, 4, 5, 6, 7, 8, 9, 10, 11], []), (1000004, [0, 1, 2, 3, 4, 5, 6, 7, 8], [])]) Tryz.func40 Tryz.ntmps40 (by kernel_rfl) (by kernel_rfl) rfl (by kernel_rfl) k
def work_Work_del (a0 a1 : AV) (h : AHeap) (Q : QT) : Prop :=
  qBox a1 h fun t3 h0 =>
  qNew [(I 0), (S ⟨#[]⟩), (.full 0 []), (.full 0 [])] h0 fun t4 h1 =>
  qNil a0 fun t9 =>
  qFieldAddr 0 t9 fun t10 =>
  qLoad1 t10 h1 fun t11 =>
  qFieldAddr 1 t3 fun t12 =>
  qLoad1 t12 h1 fun t13 =>
  qLookup .string true (S ⟨#[]⟩) t11 t13 h1 fun t14 =>
  qExtract 0 t14 fun t15 =>
  qExtract 1 t14 fun t16 =>
  qUn .not t16 fun t18 =>
  ifB t18 (
  C fn_work_no [(I 9)] h1 fun t19 h2 =>
  qStore 4 t4 t19 h2 fun h3 =>
  qLoadA 4 t4 h3 fun r4 =>
  Q r4 h3) (
  qNil a0 fun t21 =>
  qFieldAddr 0 t21 fun t22 =>
  qLoad1 t22 h1 fun t23 =>
  qFieldAddr 1 t3 fun t24 =>
  qLoad1 t24 h1 fun t25 =>
  qDelete .string t23 t25 h1 fun h5 =>
  C fn_work_no [(I 0)] h5 fun t26 h6 =>
  qStore 4 t4 t26 h6 fun h7 =>
  qLoadA 4 t4 h7 fun r8 =>
  Q r8 h7)
theorem work_Work_del_ok (a0 a1 : AV) (h : AHeap) (Q : QT) (k : work_Work_del a0 a1 h Q) : C fn_work_Work_del [a0, a1] h Q :=
  okF (pl := [(1000001, [0, 1, 2, 3, 4, 5, 6, 7, 8, 9, 10, 11], []), (1000004, [0, 1, 2, 3, 4, 5, 6], [])]) Tryz.func37 Tryz.ntmps37 (by kernel_rfl) (by kernel_rfl) rfl (by kernel_rfl) k
def work_Work_frag (a0 a1 a2 : AV) (h : AHeap) (Q : QT) : Prop :=
  qNew [(S ⟨#[]⟩), (S ⟨#[]⟩)] h fun t6 h0 =>
  qBuild [(S ⟨#[]⟩), (S ⟨#[]⟩)] [(0, 1, a1), (1, 1, a2)] fun t9 =>
  qStore 2 t6 t9 h0 fun h1 =>
  qLoadA 2 t6 h1 fun r2 =>
  Q r2 h1
theorem work_Work_frag_ok (a0 a1 a2 : AV) (h : AHeap) (Q : QT) (k : work_Work_frag a0 a1 a2 h Q) : C fn_work_Work_frag [a0, a1, a2] h Q :=
  okF (pl := []) Tryz.func26 Tryz.ntmps26 (by kernel_rfl) (by kernel_rfl) rfl (by kernel_rfl) k
def work_Work_more (a0 a1 : AV) (h : AHeap) (Q : QT) : Prop :=
  qBox a1 h fun t3 h0 =>
  qNew [(I 0), (S ⟨#[]⟩), (.full 0 []), (.full 0 [])] h0 fun t4 h1 =>
  qNil a0 fun t9 =>
  qFieldAddr 0 t9 fun t10 =>
  qLoad1 t10 h1 fun t11 =>
  qFieldAddr 1 t3 fun t12 =>
  qLoad1 t12 h1 fun t13 =>
  qLookup .string true (S ⟨#[]⟩) t11 t13 h1 fun t14 =>
  qExtract 0 t14 fun t15 =>
  qExtract 1 t14 fun t16 =>
  qUn .not t16 fun t19 =>
  ifB t19 (
  C fn_work_no [(I 9)] h1 fun t20 h2 =>
  qStore 4 t4 t20 h2 fun h3 =>
  qLoadA 4 t4 h3 fun r4 =>
  Q r4 h3) (
  qLenS t15 fun t23 =>
  qFieldAddr 2 t3 fun t24 =>
  qLoad1 t24 h1 fun t25 =>
  qLenS t25 fun t26 =>
  qBin .add t23 t26 fun t27 =>
  qBin .gtr t27 (I 600) fun t28 =>
  ifB t28 (
  C fn_work_no [(I 10)] h1 fun t29 h5 =>
  qStore 4 t4 t29 h5 fun h6 =>
  qLoadA 4 t4 h6 fun r7 =>
  Q r7 h6) (
  qNil a0 fun t31 =>
  qFieldAddr 0 t31 fun t32 =>
  qLoad1 t32 h1 fun t33 =>
  qFieldAddr 1 t3 fun t34 =>
  qLoad1 t34 h1 fun t35 =>
  qFieldAddr 2 t3 fun t37 =>
  qLoad1 t37 h1 fun t38 =>
  qBin .add t15 t38 fun t39 =>
  qMapUpdate .string t33 t35 t39 h1 fun h8 =>
  C fn_work_no [(I 0)] h8 fun t40 h9 =>
  qStore 4 t4 t40 h9 fun h10 =>
  qLoadA 4 t4 h10 fun r11 =>
  Q r11 h10))
theorem work_Work_more_ok (a0 a1 : AV) (h : AHeap) (Q : QT) (k : work_Work_more a0 a1 h Q) : C fn_work_Work_more [a0, a1] h Q :=
  okF (pl := [(1000001, [0, 1, 2, 3, 4, 5, 6, 7, 8, 9, 10, 11], []), (1000006, [0, 1, 2, 3, 4, 5, 6, 7, 8, 9, 10], [])]) Tryz.func38 Tryz.ntmps38 (by kernel_rfl) (by kernel_rfl) rfl (by kernel_rfl) k
def work_Work_put (a0 a1 : AV) (h : AHeap) (Q : QT) : Prop :=
  qBox a1 h fun t3 h0 =>
  qNew [(I 0), (S ⟨#[]⟩), (.full 0 []), (.full 0 [])] h0 fun t4 h1 =>
  qNil a0 fun t9 =>
  qFieldAddr 0 t9 fun t10 =>
  qLoad1 t10 h1 fun t11 =>
  qFieldAddr 1 t3 fun t12 =>
  qLoad1 t12 h1 fun t13 =>
  qLookup .string true (S ⟨#[]⟩) t11 t13 h1 fun t14 =>
  qExtract 0 t14 fun t15 =>
  qExtract 1 t14 fun t16 =>
  qUn .not t16 fun t18 =>
  ifB t18 (qNil a0 fun t21 =>
  qFieldAddr 0 t21 fun t22 =>
  qLoad1 t22 h1 fun t23 =>
  qLenM t23 h1 fun t24 =>
  qBin .geq t24 (I 8) fun t25 =>
  ifB t25 (
  C fn_work_no [(I 10)] h1 fun t27 h2 =>
  qStore 4 t4 t27 h2 fun h3 =>
  qLoadA 4 t4 h3 fun r4 =>
  Q r4 h3) (
  qNil a0 fun t29 =>
  qFieldAddr 0 t29 fun t30 =>
  qLoad1 t30 h1 fun t31 =>
  qFieldAddr 1 t3 fun t32 =>
  qLoad1 t32 h1 fun t33 =>
  qFieldAddr 2 t3 fun t34 =>
  qLoad1 t34 h1 fun t35 =>
  qMapUpdate .string t31 t33 t35 h1 fun h5 =>
  C fn_work_no [(I 0)] h5 fun t36 h6 =>
  qStore 4 t4 t36 h6 fun h7 =>
  qLoadA 4 t4 h7 fun r8 =>
  Q r8 h7)) (
  qNil a0 fun t29 =>
  qFieldAddr 0 t29 fun t30 =>
  qLoad1 t30 h1 fun t31 =>
  qFieldAddr 1 t3 fun t32 =>
  qLoad1 t32 h1 fun t33 =>
  qFieldAddr 2 t3 fun t34 =>
  qLoad1 t34 h1 fun t35 =>
  qMapUpdate .string t31 t33 t35 h1 fun h9 =>
  C fn_work_no [(I 0)] h9 fun t36 h10 =>
  qStore 4 t4 t36 h10 fun h11 =>
  qLoadA 4 t4 h11 fun r12 =>
  Q r12 h11)
theorem work_Work_put_ok (a0 a1 : AV) (h : AHeap) (Q : QT) (k : work_Work_put a0 a1 h Q) : C fn_work_Work_put [a0, a1] h Q :=
  okF (pl := [(1000001, [0, 1, 2, 3, 4, 5, 6, 7, 8, 9, 10, 11], []), (1000004, [0, 1, 2, 3, 4, 5, 6, 7, 8], [])]) Tryz.func36 Tryz.ntmps36 (by kernel_rfl) (by kernel_rfl) rfl (by kernel_rfl) k
def work_Work_show (a0 a1 : AV) (h : AHeap) (Q : QT) : Prop :=
  qBox a1 h fun t3 h0 =>
  qNew [(I 0), (S ⟨#[]⟩), (.full 0 []), (.full 0 [])] h0 fun t4 h1 =>
  qNil a0 fun t9 =>
  qFieldAddr 0 t9 fun t10 =>
  qLoad1 t10 h1 fun t11 =>
  qFieldAddr 1 t3 fun t12 =>
  qLoad1 t12 h1 fun t13 =>
  qLookup .string true (S ⟨#[]⟩) t11 t13 h1 fun t14 =>
  qExtract 0 t14 fun t15 =>
  qExtract 1 t14 fun t16 =>
  qUn .not t16 fun t18 =>
  ifB t18 (
  C fn_work_no [(I 9)] h1 fun t19 h2 =>
  qStore 4 t4 t19 h2 fun h3 =>
  qLoadA 4 t4 h3 fun r4 =>
  Q r4 h3) (
  qBuild [(I 0), (S ⟨#[]⟩), (.full 0 []), (.full 0 [])] [(1, 1, t15)] fun t21 =>
  qStore 4 t4 t21 h1 fun h5 =>
  qLoadA 4 t4 h5 fun r6 =>
  Q r6 h5)
theorem work_Work_show_ok (a0 a1 : AV) (h : AHeap) (Q : QT) (k : work_Work_show a0 a1 h Q) : C fn_work_Work_show [a0, a1] h Q :=
  okF (pl := [(1000001, [0, 1, 2, 3, 4, 5, 6, 7, 8, 9, 10, 11], [])]) Tryz.func39 Tryz.ntmps39 (by kernel_rfl) (by kernel_rfl) rfl (by kernel_rfl) k
def work_Work_sym (a0 a1 a2 : AV) (h : AHeap) (Q : QT) : Prop :=
  qNew [(S ⟨#[]⟩), (I 0)] h fun t6 h0 =>
  qBuild [(S ⟨#[]⟩), (I 0)] [(0, 1, a1), (1, 1, a2)] fun t9 =>
  qStore 2 t6 t9 h0 fun h1 =>
  qLoadA 2 t6 h1 fun r2 =>
  Q r2 h1
theorem work_Work_sym_ok (a0 a1 a2 : AV) (h : AHeap) (Q : QT) (k : work_Work_sym a0 a1 a2 h Q) : C fn_work_Work_sym [a0, a1, a2] h Q :=
  okF (pl := []) Tryz.func28 Tryz.ntmps28 (by kernel_rfl) (by kernel_rfl) rfl (by kernel_rfl) k
def work_Work_undef (a0 a1 : AV) (h : AHeap) (Q : QT) : Prop :=
  qBox a1 h fun t3 h0 =>
  qNew [(I 0), (S ⟨#[]⟩), (.full 0 []), (.full 0 [])] h0 fun t4 h1 =>
  qNil a0 fun t9 =>
  qFieldAddr 1 t9 fun t10 =>
  qLoad1 t10 h1 fun t11 =>
  qFieldAddr 1 t3 fun t12 =>
  qLoad1 t12 h1 fun t13 =>
  qLookup .string true (I 0) t11 t13 h1 fun t14 =>
  qExtract 0 t14 fun t15 =>
  qExtract 1 t14 fun t16 =>
  qUn .not t16 fun t18 =>
  ifB t18 (
  C fn_work_no [(I 9)] h1 fun t19 h2 =>
  qStore 4 t4 t19 h2 fun h3 =>
  qLoadA 4 t4 h3 fun r4 =>
  Q r4 h3) (
  qNil a0 fun t21 =>
  qFieldAddr 1 t21 fun t22 =>
  qLoad1 t22 h1 fun t23 =>
  qFieldAddr 1 t3 fun t24 =>
  qLoad1 t24 h1 fun t25 =>
  qDelete .string t23 t25 h1 fun h5 =>
  C fn_work_no [(I 0)] h5 fun t26 h6 =>
  qStore 4 t4 t26 h6 fun h7 =>
  qLoadA 4 t4 h7 fun r8 =>
  Q r8 h7)
theorem work_Work_undef_ok (a0 a1 : AV) (h : AHeap) (Q : QT) (k : work_Work_undef a0 a1 h Q) : C fn_work_Work_undef [a0, a1] h Q :=
  okF (pl := [(1000001, [0, 1, 2, 3, 4, 5, 6, 7, 8, 9, 10, 11], []), (1000004, [0, 1, 2, 3, 4, 5, 6], [])]) Tryz.func41 Tryz.ntmps41 (by kernel_rfl) (by kernel_rfl) rfl (by kernel_rfl) k
def work_deed (a0 : AV) (h : AHeap) (Q : QT) : Prop :=
  qBuildSlice 7 1 [(.fn (.func fn_work_Work_put) [] []), (.fn (.func fn_work_Work_del) [] []), (.fn (.func fn_work_Work_more) [] []), (.fn (.func fn_work_Work_show) [] []), (.fn (.func fn_work_Work_define) [] []), (.fn (.func fn_work_Work_undef) [] []), (.fn (.func fn_work_Work_build) [] [])] fun t3 =>
  qBin .sub a0 (I 1) fun t5 =>
  qIndexAddr 1 t3 t5 fun t6 =>
  qLoad1 t6 h fun t7 =>
  Q t7 h
theorem work_deed_ok (a0 : AV) (h : AHeap) (Q : QT) (k : work_deed a0 h Q) : C fn_work_deed [a0] h Q :=
  okF (pl := []) Tryz.func24 Tryz.ntmps24 (by kernel_rfl) (by kernel_rfl) rfl (by kernel_rfl) k
def work_defines (a0 : AV) (h : AHeap) (Q : QT) : Prop :=
  qBin .eql a0 (I 5) fun t4 =>
  Q t4 h
theorem work_defines_ok (a0 : AV) (h : AHeap) (Q : QT) (k : work_defines a0 h Q) : C fn_work_defines [a0] h Q :=
  okF (pl := []) Tryz.func21 Tryz.ntmps21 (by kernel_rfl) (by kernel_rfl) rfl (by kernel_rfl) k
def work_each_api_Frag_string_l6 (s11 s10 s0 s1 : AV) (Q : QT) (vs2 : List AV) (h : AHeap) (next2 : NT) : Prop :=
  qBin .lss (nthA vs2 1) s11 fun t13 =>
  ifB t13 (
  qIndexAddr 1 s10 (nthA vs2 1) fun t14 =>
  qLoad1 t14 h fun t15 =>
  qLookup .string false (S ⟨#[]⟩) s0 t15 h fun t21 =>
  CV s1 [t15, t21] h fun t22 h3 =>
  qBuildSlice 1 2 [t22] fun t23 =>
  qAppend 2 32 (nthA vs2 0) t23 h3 fun t24 h4 =>
  qBin .add (nthA vs2 1) (I 1) fun t25 =>
  next2 [t24, t25] h4) (
  C fn_slices_Clone__api_Frag_api_Frag [(nthA vs2 0)] h fun t27 h5 =>
  Q t27 h5)
def work_each_api_Frag_string (a0 a1 : AV) (h : AHeap) (Q : QT) : Prop :=
  C fn_maps_Keys_map_stringstring_string_string [a0] h fun t9 h0 =>
  C fn_slices_Sorted_string [t9] h0 fun t10 h1 =>
  qLenL t10 fun t11 =>
  Loop [(.full 0 []), (I 0)] h1 fun vs2 h next2 => work_each_api_Frag_string_l6 t11 t10 a0 a1 Q vs2 h next2
theorem work_each_api_Frag_string_ok (a0 a1 : AV) (h : AHeap) (Q : QT) (k : work_each_api_Frag_string a0 a1 h Q) : C fn_work_each_api_Frag_string [a0, a1] h Q :=
  okF (pl := [(4, [5, 7, 12, 13, 14, 15, 16, 17, 18, 19, 20, 21, 22, 23, 24, 25], [5, 12])]) Tryz.func25 Tryz.ntmps25 (by kernel_rfl) (by kernel_rfl) rfl (by kernel_rfl) k
def work_each_api_Sym_int_l6 (s11 s10 s0 s1 : AV) (Q : QT) (vs2 : List AV) (h : AHeap) (next2 : NT) : Prop :=
  qBin .lss (nthA vs2 1) s11 fun t13 =>
  ifB t13 (
  qIndexAddr 1 s10 (nthA vs2 1) fun t14 =>
  qLoad1 t14 h fun t15 =>
  qLookup .string false (I 0) s0 t15 h fun t21 =>
  CV s1 [t15, t21] h fun t22 h3 =>
  qBuildSlice 1 2 [t22] fun t23 =>
  qAppend 2 24 (nthA vs2 0) t23 h3 fun t24 h4 =>
  qBin .add (nthA vs2 1) (I 1) fun t25 =>
  next2 [t24, t25] h4) (
  C fn_slices_Clone__api_Sym_api_Sym [(nthA vs2 0)] h fun t27 h5 =>
  Q t27 h5)
def work_each_api_Sym_int (a0 a1 : AV) (h : AHeap) (Q : QT) : Prop :=
  C fn_maps_Keys_map_stringint_string_int [a0] h fun t9 h0 =>
  C fn_slices_Sorted_string [t9] h0 fun t10 h1 =>
  qLenL t10 fun t11 =>
  Loop [(.full 0 []), (I 0)] h1 fun vs2 h next2 => work_each_api_Sym_int_l6 t11 t10 a0 a1 Q vs2 h next2
theorem work_each_api_Sym_int_ok (a0 a1 : AV) (h : AHeap) (Q : QT) (k : work_each_api_Sym_int a0 a1 h Q) : C fn_work_each_api_Sym_int [a0, a1] h Q :=
  okF (pl := [(4, [5, 7, 12, 13, 14, 15, 16, 17, 18, 19, 20, 21, 22, 23, 24, 25], [5, 12])]) Tryz.func27 Tryz.ntmps27 (by kernel_rfl) (by kernel_rfl) rfl (by kernel_rfl) k
def work_no (a0 : AV) (h : AHeap) (Q : QT) : Prop :=
  qNew [(I 0), (S ⟨#[]⟩), (.full 0 []), (.full 0 [])] h fun t2 h0 =>
  qBuild [(I 0), (S ⟨#[]⟩), (.full 0 []), (.full 0 [])] [(0, 1, a0)] fun t4 =>
  qStore 4 t2 t4 h0 fun h1 =>
  qLoadA 4 t2 h1 fun r2 =>
  Q r2 h1
theorem work_no_ok (a0 : AV) (h : AHeap) (Q : QT) (k : work_no a0 h Q) : C fn_work_no [a0] h Q :=
  okF (pl := []) Tryz.func23 Tryz.ntmps23 (by kernel_rfl) (by kernel_rfl) rfl (by kernel_rfl) k
def work_writes (a0 : AV) (h : AHeap) (Q : QT) : Prop :=
  qBin .eql a0 (I 1) fun t4 =>
  ifB t4 (Q (B true) h) (
  qBin .eql a0 (I 3) fun t7 =>
  Q t7 h)
theorem work_writes_ok (a0 : AV) (h : AHeap) (Q : QT) (k : work_writes a0 h Q) : C fn_work_writes [a0] h Q :=
  okF (pl := []) Tryz.func20 Tryz.ntmps20 (by kernel_rfl) (by kernel_rfl) rfl (by kernel_rfl) k
end
end Go.Proofs.YtochldeokjifkaaGreatDoor.AL
