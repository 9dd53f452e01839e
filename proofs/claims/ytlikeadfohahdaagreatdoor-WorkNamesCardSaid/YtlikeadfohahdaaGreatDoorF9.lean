import Derived.Test.YtlikeadfohahdaaGreatDoorF5
set_option linter.all false
set_option autoImplicit true
set_option relaxedAutoImplicit true
set_option maxRecDepth 100000
namespace Go.Proofs.YtlikeadfohahdaaGreatDoor.AL
noncomputable section
open Go.Proofs
variable [Tabs]
abbrev fn_law4_Text : Nat := 20
def law9_Make_j11 (s6 s4 : AV) (h : AHeap) (Q : QT) : Prop :=
  qLoadA 4 s6 h fun t72 =>
  qStore 4 s4 t72 h fun h9 =>
  qLoadA 4 s4 h9 fun r10 =>
  Q r10 h9
def law9_Make_b12 (s6 s4 : AV) (h : AHeap) (Q : QT) : Prop :=
  law9_Make_j11 s6 s4 h Q
def law9_Make_j23 (s7 s6 s5 s4 s0 : AV) (h : AHeap) (Q : QT) : Prop :=
  C fn_law9_within [s0, (I 16)] h fun t34 h6 =>
  qBin .lss t34 (I 4) fun t39 =>
  ifB t39 (
  qFieldAddr 0 s6 fun t41 =>
  qStore 1 t41 (I 1) h6 fun h7 =>
  qFieldAddr 2 s6 fun t42 =>
  qStore 1 t42 s7 h7 fun h8 =>
  law9_Make_b12 s6 s4 h8 Q) (
  qBin .lss t34 (I 5) fun t45 =>
  ifB t45 (
  qFieldAddr 0 s6 fun t46 =>
  qStore 1 t46 (I 2) h6 fun h13 =>
  law9_Make_b12 s6 s4 h13 Q) (
  qBin .lss t34 (I 8) fun t49 =>
  ifB t49 (
  qFieldAddr 0 s6 fun t51 =>
  qStore 1 t51 (I 3) h6 fun h14 =>
  qFieldAddr 2 s6 fun t52 =>
  qStore 1 t52 s7 h14 fun h15 =>
  law9_Make_b12 s6 s4 h15 Q) (
  qBin .lss t34 (I 9) fun t55 =>
  ifB t55 (
  qFieldAddr 0 s6 fun t56 =>
  qStore 1 t56 (I 4) h6 fun h16 =>
  law9_Make_b12 s6 s4 h16 Q) (
  qBin .lss t34 (I 12) fun t59 =>
  ifB t59 (
  qBuildSlice 7 1 [(I 0), (I 1), (I 7), (I 300), (I (-1)), (I 1099511627776), (I (-1099511627776))] fun t60 =>
  qBin .quo s5 (I 12) fun t62 =>
  qFieldAddr 0 s6 fun t66 =>
  C fn_law9_within [t62, (I 7)] h6 fun t63 h17 =>
  qIndexAddr 1 t60 t63 fun t64 =>
  qLoad1 t64 h17 fun t65 =>
  qStore 1 t66 (I 5) h17 fun h18 =>
  (qLoad1 t64 h18 fun _t =>
  _t = t65) ∧
  qFieldAddr 3 s6 fun t67 =>
  qStore 1 t67 t65 h18 fun h19 =>
  law9_Make_b12 s6 s4 h19 Q) (
  qBin .lss t34 (I 13) fun t70 =>
  ifB t70 (
  qFieldAddr 0 s6 fun t71 =>
  qStore 1 t71 (I 6) h6 fun h20 =>
  law9_Make_b12 s6 s4 h20 Q) (
  qFieldAddr 0 s6 fun t35 =>
  qStore 1 t35 (I 7) h6 fun h21 =>
  qFieldAddr 1 s6 fun t36 =>
  qStore 1 t36 (S ⟨#[]⟩) h21 fun h22 =>
  law9_Make_b12 s6 s4 h22 Q))))))
def law9_Make (a0 a1 : AV) (h : AHeap) (Q : QT) : Prop :=
  qNew [(I 0), (S ⟨#[]⟩), (S ⟨#[]⟩), (I 0)] h fun t4 h0 =>
  qBin .quo a0 (I 16) fun t11 =>
  C fn_law9_Name [t11] h0 fun t13 h1 =>
  qBuild [(I 0), (S ⟨#[]⟩), (S ⟨#[]⟩), (I 0)] [(1, 1, t13)] fun t14 =>
  qNew [(I 0), (S ⟨#[]⟩), (S ⟨#[]⟩), (I 0)] h1 fun t6 h2 =>
  qStore 4 t6 t14 h2 fun h3 =>
  qLenL a1 fun t16 =>
  qBin .gtr t16 (I 0) fun t17 =>
  ifB t17 (
  qBin .quo t11 (I 12) fun t19 =>
  qLenL a1 fun t21 =>
  C fn_law9_within [t19, t21] h3 fun t22 h4 =>
  qSliceL 6 a1 (some t22) none fun t25 =>
  qBin .quo t11 (I 5) fun t28 =>
  qBin .quo t11 (I 7) fun t30 =>
  qBuildSlice 3 1 [t11, t28, t30] fun t31 =>
  C fn_law4_Text [t25, t31, (I 300)] h4 fun t32 h5 =>
  law9_Make_j23 t32 t6 t11 t4 a0 h5 Q) (
  law9_Make_j23 (S ⟨#[]⟩) t6 t11 t4 a0 h3 Q)
theorem law9_Make_ok (a0 a1 : AV) (h : AHeap) (Q : QT) (k : law9_Make a0 a1 h Q) : C fn_law9_Make [a0, a1] h Q :=
  okF (pl := [(1000018, [0, 1, 2, 6, 3, 4, 5, 7, 8, 9], [])]) Tryz.func9 Tryz.ntmps9 (by kernel_rfl) (by kernel_rfl) rfl (by kernel_rfl) k
def law9_Name (a0 : AV) (h : AHeap) (Q : QT) : Prop :=
  qBuildSlice 12 1 [(S ⟨#[109, 97, 105, 110]⟩), (S ⟨#[97]⟩), (S ⟨#[98, 49]⟩), (S ⟨#[120]⟩), (S ⟨#[108, 105, 98]⟩), (S ⟨#[101, 110, 100]⟩), (S ⟨#[99]⟩), (S ⟨#[100]⟩), (S ⟨#[101]⟩), (S ⟨#[102]⟩), (S ⟨#[98, 97, 115, 101]⟩), (S ⟨#[107]⟩)] fun t3 =>
  C fn_law9_within [a0, (I 12)] h fun t5 h0 =>
  qIndexAddr 1 t3 t5 fun t6 =>
  qLoad1 t6 h0 fun t7 =>
  Q t7 h0
theorem law9_Name_ok (a0 : AV) (h : AHeap) (Q : QT) (k : law9_Name a0 h Q) : C fn_law9_Name [a0] h Q :=
  okF (pl := []) Tryz.func19 Tryz.ntmps19 (by kernel_rfl) (by kernel_rfl) rfl (by kernel_rfl) k
def law9_WorkNames_l10 (s6 s5 s4 : AV) (next2 : NT) (Q : QT) (vs9 : List AV) (h : AHeap) (next9 : NT) : Prop :=
  qLenL s6 fun t56 =>
  qBin .lss (nthA vs9 1) t56 fun t57 =>
  ifB t57 (
  qBin .sub (nthA vs9 1) (I 1) fun t62 =>
  qIndexAddr 2 s6 t62 fun t63 =>
  qFieldAddr 0 t63 fun t64 =>
  qLoad1 t64 h fun t65 =>
  qIndexAddr 2 s6 (nthA vs9 1) fun t68 =>
  qFieldAddr 0 t68 fun t69 =>
  qLoad1 t69 h fun t70 =>
  qBin .geq t65 t70 fun t71 =>
  ifB t71 (
  Q (B false) h) (
  qBin .add (nthA vs9 1) (I 1) fun t59 =>
  next9 [(nthA vs9 0), t59] h)) (
  qLenL s5 fun t73 =>
  qBin .gtr t73 (I 8) fun t74 =>
  ifB t74 (Q (B false) h) (
  qLenL s6 fun t77 =>
  qBin .gtr t77 (I 8) fun t78 =>
  ifB t78 (
  Q (B false) h) (
  qBin .add s4 (I 1) fun t23 =>
  next2 [(nthA vs9 0), t23] h)))
def law9_WorkNames_l11 (s6 s5 s4 : AV) (next2 : NT) (Q : QT) (vs8 : List AV) (h : AHeap) (next8 : NT) : Prop :=
  qLenL s5 fun t38 =>
  qBin .lss (nthA vs8 1) t38 fun t39 =>
  ifB t39 (
  qBin .sub (nthA vs8 1) (I 1) fun t44 =>
  qIndexAddr 2 s5 t44 fun t45 =>
  qFieldAddr 0 t45 fun t46 =>
  qLoad1 t46 h fun t47 =>
  qIndexAddr 2 s5 (nthA vs8 1) fun t50 =>
  qFieldAddr 0 t50 fun t51 =>
  qLoad1 t51 h fun t52 =>
  qBin .geq t47 t52 fun t53 =>
  ifB t53 (
  Q (B false) h) (
  qBin .add (nthA vs8 1) (I 1) fun t41 =>
  next8 [(nthA vs8 0), t41] h)) (
  Loop [(nthA vs8 0), (I 1)] h fun vs9 h next9 => law9_WorkNames_l10 s6 s5 s4 next2 Q vs9 h next9)
def law9_WorkNames_l12 (s3 s0 : AV) (Q : QT) (vs2 : List AV) (h : AHeap) (next2 : NT) : Prop :=
  qLenL s0 fun t16 =>
  qBin .lss (nthA vs2 1) t16 fun t17 =>
  ifB t17 (qBin .lss (nthA vs2 1) (I 40) fun t20 =>
  ifB t20 (
  qIndexAddr 1 s0 (nthA vs2 1) fun t27 =>
  qLoad1 t27 h fun t28 =>
  C fn_law9_within [t28, (I 1073741824)] h fun t29 h3 =>
  C fn_law9_Make [t29, (.full 0 [])] h3 fun t30 h4 =>
  C fn_work_Work_Do [s3, t30] h4 fun t31 h5 =>
  C fn_work_Work_Frags [s3] h5 fun t33 h6 =>
  C fn_work_Work_Syms [s3] h6 fun t35 h7 =>
  Loop [(nthA vs2 0), (I 1)] h7 fun vs8 h next8 => law9_WorkNames_l11 t35 t33 (nthA vs2 1) next2 Q vs8 h next8) (
  Q (B true) h)) (
  Q (B true) h)
def law9_WorkNames (a0 : AV) (h : AHeap) (Q : QT) : Prop :=
  C fn_law9_known [] h fun t9 h0 =>
  qUn .not t9 fun t10 =>
  ifB t10 (
  Q (B false) h0) (
  C fn_work_New [] h0 fun t11 h1 =>
  qBinP .eql t11 (.lit (.pointer none)) fun t13 =>
  ifB t13 (
  Q (B false) h1) (
  Loop [(B false), (I 0)] h1 fun vs2 h next2 => law9_WorkNames_l12 t11 a0 Q vs2 h next2))
theorem law9_WorkNames_ok (a0 : AV) (h : AHeap) (Q : QT) (k : law9_WorkNames a0 h Q) : C fn_law9_WorkNames [a0] h Q :=
  okF (pl := [(8, [2, 4, 5, 6, 7, 8, 14, 15, 16, 17, 18, 19, 20, 21, 22, 23, 24, 25, 26, 27, 28, 29, 30, 31, 32, 33, 34, 35, 36, 37, 38, 39, 40, 41, 42, 43, 44, 45, 46, 47, 48, 49, 50, 51, 52, 53, 54, 55, 56, 57, 58, 59, 60, 61, 62, 63, 64, 65, 66, 67, 68, 69, 70, 71, 72, 73, 74, 75, 76, 77, 78, 79], [2, 4]), (13, [2, 7, 36, 37, 38, 39, 40, 41, 42, 43, 44, 45, 46, 47, 48, 49, 50, 51, 52, 53], [2, 7]), (1000014, [0, 1, 2, 3, 4, 5, 6, 7, 8, 9, 10, 11], []), (18, [2, 8, 54, 55, 56, 57, 58, 59, 60, 61, 62, 63, 64, 65, 66, 67, 68, 69, 70, 71], [2, 8]), (1000019, [0, 1, 2, 3, 4, 5, 6, 7, 8, 9, 10, 11], [])]) Tryz.func3 Tryz.ntmps3 (by kernel_rfl) (by kernel_rfl) rfl (by kernel_rfl) k
def law9_within_j0 (s5 : AV) (h : AHeap) (Q : QT) : Prop :=
  Q s5 h
def law9_within (a0 a1 : AV) (h : AHeap) (Q : QT) : Prop :=
  qBin .rem a0 a1 fun t8 =>
  qBin .lss t8 (I 0) fun t10 =>
  ifB t10 (
  qBin .add t8 a1 fun t13 =>
  law9_within_j0 t13 h Q) (
  law9_within_j0 t8 h Q)
theorem law9_within_ok (a0 a1 : AV) (h : AHeap) (Q : QT) (k : law9_within a0 a1 h Q) : C fn_law9_within [a0, a1] h Q :=
  okF (pl := []) Tryz.func10 Tryz.ntmps10 (by kernel_rfl) (by kernel_rfl) rfl (by kernel_rfl) k
def work_New (h : AHeap) (Q : QT) : Prop :=
  qMakeMap h fun t1 h0 =>
  qMakeMap h0 fun t2 h1 =>
  qBuild [(.lit (.map none)), (.lit (.map none))] [(0, 1, t1), (1, 1, t2)] fun t3 =>
  qBox t3 h1 fun t4 h2 =>
  Q t4 h2
theorem work_New_ok (h : AHeap) (Q : QT) (k : work_New  h Q) : C fn_work_New [] h Q :=
  okF (pl := []) Tryz.func7 Tryz.ntmps7 (by kernel_rfl) (by kernel_rfl) rfl (by kernel_rfl) k
def work_Right (a0 : AV) (h : AHeap) (Q : QT) : Prop :=
  qBox a0 h fun t1 h0 =>
  qFieldAddr 0 t1 fun t3 =>
  qLoad1 t3 h0 fun t4 =>
  qBin .lss t4 (I 1) fun t5 =>
  ifB t5 (Q (B false) h0) (
  qFieldAddr 0 t1 fun t7 =>
  qLoad1 t7 h0 fun t8 =>
  qBin .gtr t8 (I 7) fun t9 =>
  ifB t9 (
  Q (B false) h0) (
  qFieldAddr 0 t1 fun t11 =>
  qLoad1 t11 h0 fun t12 =>
  qBin .eql t12 (I 7) fun t13 =>
  ifB t13 (
  qLoadA 4 t1 h0 fun t14 =>
  qBuild [(I 0), (S ⟨#[]⟩), (S ⟨#[]⟩), (I 0)] [(0, 1, (I 7))] fun t15 =>
  qEqS .eql [(.int .i64), .string, .string, (.int .i64)] t14 t15 fun t16 =>
  Q t16 h0) (
  qFieldAddr 1 t1 fun t17 =>
  qLoad1 t17 h0 fun t18 =>
  C fn_line_Word [t18] h0 fun t19 h1 =>
  qUn .not t19 fun t20 =>
  ifB t20 (Q (B false) h1) (
  qFieldAddr 2 t1 fun t22 =>
  qLoad1 t22 h1 fun t23 =>
  qLenS t23 fun t24 =>
  qBin .gtr t24 (I 600) fun t25 =>
  ifB t25 (Q (B false) h1) (
  qFieldAddr 2 t1 fun t28 =>
  qLoad1 t28 h1 fun t29 =>
  qBin .neq t29 (S ⟨#[]⟩) fun t30 =>
  ifT t30 (qFieldAddr 0 t1 fun t32 =>
  qLoad1 t32 h1 fun t33 =>
  C fn_work_writes [t33] h1 fun t34 h2 =>
  qUn .not t34 fun t35 =>
  ifB t35 (
  Q (B false) h2) (
  qFieldAddr 3 t1 fun t38 =>
  qLoad1 t38 h2 fun t39 =>
  qBin .geq t39 (I (-1099511627776)) fun t40 =>
  ifB t40 (qFieldAddr 3 t1 fun t42 =>
  qLoad1 t42 h2 fun t43 =>
  qBin .leq t43 (I 1099511627776) fun t44 =>
  ifB t44 (qFieldAddr 3 t1 fun t47 =>
  qLoad1 t47 h2 fun t48 =>
  qBin .eql t48 (I 0) fun t49 =>
  ifT t49 (Q (B true) h2) (
  qFieldAddr 0 t1 fun t51 =>
  qLoad1 t51 h2 fun t52 =>
  C fn_work_defines [t52] h2 fun t53 h3 =>
  Q t53 h3) (
  ifB (.tup []) (Q (B true) h2) (Q (.tup []) h2))) (
  Q (B false) h2)) (
  Q (B false) h2))) (
  qFieldAddr 3 t1 fun t38 =>
  qLoad1 t38 h1 fun t39 =>
  qBin .geq t39 (I (-1099511627776)) fun t40 =>
  ifB t40 (qFieldAddr 3 t1 fun t42 =>
  qLoad1 t42 h1 fun t43 =>
  qBin .leq t43 (I 1099511627776) fun t44 =>
  ifB t44 (qFieldAddr 3 t1 fun t47 =>
  qLoad1 t47 h1 fun t48 =>
  qBin .eql t48 (I 0) fun t49 =>
  ifT t49 (Q (B true) h1) (
  qFieldAddr 0 t1 fun t51 =>
  qLoad1 t51 h1 fun t52 =>
  C fn_work_defines [t52] h1 fun t53 h4 =>
  Q t53 h4) (
  ifB (.tup []) (Q (B true) h1) (Q (.tup []) h1))) (
  Q (B false) h1)) (
  Q (B false) h1)) (
  ifB (.tup []) (ifB (.tup []) (
  Q (B false) h1) (
  qFieldAddr 3 t1 fun t38 =>
  qLoad1 t38 h1 fun t39 =>
  qBin .geq t39 (I (-1099511627776)) fun t40 =>
  ifB t40 (qFieldAddr 3 t1 fun t42 =>
  qLoad1 t42 h1 fun t43 =>
  qBin .leq t43 (I 1099511627776) fun t44 =>
  ifB t44 (qFieldAddr 3 t1 fun t47 =>
  qLoad1 t47 h1 fun t48 =>
  qBin .eql t48 (I 0) fun t49 =>
  ifT t49 (Q (B true) h1) (
  qFieldAddr 0 t1 fun t51 =>
  qLoad1 t51 h1 fun t52 =>
  C fn_work_defines [t52] h1 fun t53 h5 =>
  Q t53 h5) (
  ifB (.tup []) (Q (B true) h1) (Q (.tup []) h1))) (
  Q (B false) h1)) (
  Q (B false) h1))) (qFieldAddr 3 t1 fun t38 =>
  qLoad1 t38 h1 fun t39 =>
  qBin .geq t39 (I (-1099511627776)) fun t40 =>
  ifB t40 (qFieldAddr 3 t1 fun t42 =>
  qLoad1 t42 h1 fun t43 =>
  qBin .leq t43 (I 1099511627776) fun t44 =>
  ifB t44 (qFieldAddr 3 t1 fun t47 =>
  qLoad1 t47 h1 fun t48 =>
  qBin .eql t48 (I 0) fun t49 =>
  ifT t49 (Q (B true) h1) (
  qFieldAddr 0 t1 fun t51 =>
  qLoad1 t51 h1 fun t52 =>
  C fn_work_defines [t52] h1 fun t53 h6 =>
  Q t53 h6) (
  ifB (.tup []) (Q (B true) h1) (Q (.tup []) h1))) (
  Q (B false) h1)) (
  Q (B false) h1))))))))
theorem work_Right_ok (a0 : AV) (h : AHeap) (Q : QT) (k : work_Right a0 h Q) : C fn_work_Right [a0] h Q :=
  okF (pl := []) Tryz.func16 Tryz.ntmps16 (by kernel_rfl) (by kernel_rfl) rfl (by kernel_rfl) k
def work_Work_Do (a0 a1 : AV) (h : AHeap) (Q : QT) : Prop :=
  qBox a1 h fun t3 h0 =>
  qNew [(I 0), (S ⟨#[]⟩), (.full 0 []), (.full 0 [])] h0 fun t4 h1 =>
  qLoadA 4 t3 h1 fun t5 =>
  C fn_work_Right [t5] h1 fun t6 h2 =>
  qUn .not t6 fun t7 =>
  ifB t7 (
  C fn_work_no [(I 12)] h2 fun t8 h3 =>
  qStore 4 t4 t8 h3 fun h4 =>
  qLoadA 4 t4 h4 fun r5 =>
  Q r5 h4) (
  qFieldAddr 0 t3 fun t9 =>
  qLoad1 t9 h2 fun t10 =>
  qLoadA 4 t3 h2 fun t13 =>
  C fn_work_deed [t10] h2 fun t11 h6 =>
  (qLoadA 4 t3 h6 fun _t =>
  _t = t13) ∧
  CV t11 [a0, t13] h6 fun t14 h7 =>
  qStore 4 t4 t14 h7 fun h8 =>
  qLoadA 4 t4 h8 fun r9 =>
  Q r9 h8)
theorem work_Work_Do_ok (a0 a1 : AV) (h : AHeap) (Q : QT) (k : work_Work_Do a0 a1 h Q) : C fn_work_Work_Do [a0, a1] h Q :=
  okF (pl := [(1000003, [0, 1, 3, 4, 2, 5, 6], [])]) Tryz.func8 Tryz.ntmps8 (by kernel_rfl) (by kernel_rfl) rfl (by kernel_rfl) k
def work_Work_Frags (a0 : AV) (h : AHeap) (Q : QT) : Prop :=
  qNil a0 fun t4 =>
  qFieldAddr 0 t4 fun t5 =>
  qLoad1 t5 h fun t6 =>
  C fn_work_each_api_Frag_string [t6, (.fn (.func fn_work_Work_frag) [a0] [])] h fun t9 h0 =>
  Q t9 h0
theorem work_Work_Frags_ok (a0 : AV) (h : AHeap) (Q : QT) (k : work_Work_Frags a0 h Q) : C fn_work_Work_Frags [a0] h Q :=
  okF (pl := []) Tryz.func11 Tryz.ntmps11 (by kernel_rfl) (by kernel_rfl) rfl (by kernel_rfl) k
def work_Work_Syms (a0 : AV) (h : AHeap) (Q : QT) : Prop :=
  qNil a0 fun t4 =>
  qFieldAddr 1 t4 fun t5 =>
  qLoad1 t5 h fun t6 =>
  C fn_work_each_api_Sym_int [t6, (.fn (.func fn_work_Work_sym) [a0] [])] h fun t9 h0 =>
  Q t9 h0
theorem work_Work_Syms_ok (a0 : AV) (h : AHeap) (Q : QT) (k : work_Work_Syms a0 h Q) : C fn_work_Work_Syms [a0] h Q :=
  okF (pl := []) Tryz.func12 Tryz.ntmps12 (by kernel_rfl) (by kernel_rfl) rfl (by kernel_rfl) k
def work_Work_build (a0 a1 : AV) (h : AHeap) (Q : QT) : Prop :=
  qBox a1 h fun t3 h0 =>
  qNew [(I 0), (S ⟨#[]⟩), (.full 0 []), (.full 0 [])] h0 fun t4 h1 =>
  C fn_work_Work_Frags [a0] h1 fun t9 h2 =>
  C fn_work_Work_Syms [a0] h2 fun t11 h3 =>
  C fn_asm_Assemble [t9, t11] h3 fun t12 h4 =>
  qExtract 0 t12 fun t13 =>
  qExtract 1 t12 fun t14 =>
  qLenL t14 fun t16 =>
  qBin .gtr t16 (I 0) fun t17 =>
  ifB t17 (
  qBuild [(I 0), (S ⟨#[]⟩), (.full 0 []), (.full 0 [])] [(0, 1, (I 14)), (3, 1, t14)] fun t19 =>
  qStore 4 t4 t19 h4 fun h5 =>
  qLoadA 4 t4 h5 fun r6 =>
  Q r6 h5) (
  qBuild [(I 0), (S ⟨#[]⟩), (.full 0 []), (.full 0 [])] [(2, 1, t13)] fun t21 =>
  qStore 4 t4 t21 h4 fun h7 =>
  qLoadA 4 t4 h7 fun r8 =>
  Q r8 h7)
theorem work_Work_build_ok (a0 a1 : AV) (h : AHeap) (Q : QT) (k : work_Work_build a0 a1 h Q) : C fn_work_Work_build [a0, a1] h Q :=
  okF (pl := []) Tryz.func35 Tryz.ntmps35 (by kernel_rfl) (by kernel_rfl) rfl (by kernel_rfl) k
def work_Work_define (a0 a1 : AV) (h : AHeap) (Q : QT) : Prop :=
  qBox a1 h fun t3 h0 =>
  qNew [(I 0), (S ⟨#[]⟩), (.full 0 []), (.full 0 [])] h0 fun t4 h1 =>
  qNil a0 fun t9 =>
  qFieldAddr 1 t9 fun t10 =>
  qLoad1 t10 h1 fun t11 =>
  qFieldAddr 1 t3 fun t12 =>
  qLoad1 t12 h1 fun t13 =>
  qLookup .string true (I 0) t11 t13 h1 fun t14 =>
  qExtract 0 t14 fun t15 =>
  qExtract 1 t14 fun t16 =>
  qUn .not t16 fun t18 =>
  ifB t18 (qNil a0 fun t21 =>
  qFieldAddr 1 t21 fun t22 =>
  qLoad1 t22 h1 fun t23 =>
  qLenM t23 h1 fun t24 =>
  qBin .geq t24 (I 8) fun t25 =>
  ifB t25 (
  C fn_work_no [(I 10)] h1 fun t27 h2 =>
  qStore 4 t4 t27 h2 fun h3 =>
  qLoadA 4 t4 h3 fun r4 =>
  Q r4 h3) (
  qNil a0 fun t29 =>
  qFieldAddr 1 t29 fun t30 =>
  qLoad1 t30 h1 fun t31 =>
  qFieldAddr 1 t3 fun t32 =>
  qLoad1 t32 h1 fun t33 =>
  qFieldAddr 3 t3 fun t34 =>
  qLoad1 t34 h1 fun t35 =>
  qMapUpdate .string t31 t33 t35 h1 fun h5 =>
  C fn_work_no [(I 0)] h5 fun t36 h6 =>
  qStore 4 t4 t36 h6 fun h7 =>
  qLoadA 4 t4 h7 fun r8 =>
  Q r8 h7)) (
  qNil a0 fun t29 =>
  qFieldAddr 1 t29 fun t30 =>
  qLoad1 t30 h1 fun t31 =>
  qFieldAddr 1 t3 fun t32 =>
  qLoad1 t32 h1 fun t33 =>
  qFieldAddr 3 t3 fun t34 =>
  qLoad1 t34 h1 fun t35 =>
  qMapUpdate .string t31 t33 t35 h1 fun h9 =>
  C fn_work_no [(I 0)] h9 fun t36 h10 =>
  qStore 4 t4 t36 h10 fun h11 =>
  qLoadA 4 t4 h11 fun r12 =>
  Q r12 h11)
theorem work_Work_define_ok (a0 a1 : AV) (h : AHeap) (Q : QT) (k : work_Work_define a0 a1 h Q) : C fn_work_Work_define [a0, a1] h Q :=
  okF (pl := [(1000001, [0, 1, 2, 3, 4, 5, 6, 7, 8, 9, 10, 11], []), (1000004, [0, 1, 2, 3, 4, 5, 6, 7, 8], [])]) Tryz.func33 Tryz.ntmps33 (by kernel_rfl) (by kernel_rfl) rfl (by kernel_rfl) k
def work_Work_del (a0 a1 : AV) (h : AHeap) (Q : QT) : Prop :=
  qBox a1 h fun t3 h0 =>
  qNew [(I 0), (S ⟨#[]⟩), (.full 0 []), (.full 0 [])] h0 fun t4 h1 =>
  qNil a0 fun t9 =>
  qFieldAddr 0 t9 fun t10 =>
  qLoad1 t10 h1 fun t11 =>
  qFieldAddr 1 t3 fun t12 =>
  qLoad1 t12 h1 fun t13 =>
  qLookup .string true (S ⟨#[]⟩) t11 t13 h1 fun t14 =>
  qExtract 0 t14 fun t15 =>
  qExtract 1 t14 fun t16 =>
  qUn .not t16 fun t18 =>
  ifB t18 (
  C fn_work_no [(I 9)] h1 fun t19 h2 =>
  qStore 4 t4 t19 h2 fun h3 =>
  qLoadA 4 t4 h3 fun r4 =>
  Q r4 h3) (
  qNil a0 fun t21 =>
  qFieldAddr 0 t21 fun t22 =>
  qLoad1 t22 h1 fun t23 =>
  qFieldAddr 1 t3 fun t24 =>
  qLoad1 t24 h1 fun t25 =>
  qDelete .string t23 t25 h1 fun h5 =>
  C fn_work_no [(I 0)] h5 fun t26 h6 =>
  qStore 4 t4 t26 h6 fun h7 =>
  qLoadA 4 t4 h7 fun r8 =>
  Q r8 h7)
theorem work_Work_del_ok (a0 a1 : AV) (h : AHeap) (Q : QT) (k : work_Work_del a0 a1 h Q) : C fn_work_Work_del [a0, a1] h Q :=
  okF (pl := [(1000001, [0, 1, 2, 3, 4, 5, 6, 7, 8, 9, 10, 11], []), (1000004, [0, 1, 2, 3, 4, 5, 6], [])]) Tryz.func30 Tryz.ntmps30 (by kernel_rfl) (by kernel_rfl) rfl (by kernel_rfl) k
def work_Work_frag (a0 a1 a2 : AV) (h : AHeap) (Q : QT) : Prop :=
  qNew [(S ⟨#[]⟩), (S ⟨#[]⟩)] h fun t6 h0 =>
  qBuild [(S ⟨#[]⟩), (S ⟨#[]⟩)] [(0, 1, a1), (1, 1, a2)] fun t9 =>
  qStore 2 t6 t9 h0 fun h1 =>
  qLoadA 2 t6 h1 fun r2 =>
  Q r2 h1
theorem work_Work_frag_ok (a0 a1 a2 : AV) (h : AHeap) (Q : QT) (k : work_Work_frag a0 a1 a2 h Q) : C fn_work_Work_frag [a0, a1, a2] h Q :=
  okF (pl := []) Tryz.func22 Tryz.ntmps22 (by kernel_rfl) (by kernel_rfl) rfl (by kernel_rfl) k
def work_Work_more (a0 a1 : AV) (h : AHeap) (Q : QT) : Prop :=
  qBox a1 h fun t3 h0 =>
  qNew [(I 0), (S ⟨#[]⟩), (.full 0 []), (.full 0 [])] h0 fun t4 h1 =>
  qNil a0 fun t9 =>
  qFieldAddr 0 t9 fun t10 =>
  qLoad1 t10 h1 fun t11 =>
  qFieldAddr 1 t3 fun t12 =>
  qLoad1 t12 h1 fun t13 =>
  qLookup .string true (S ⟨#[]⟩) t11 t13 h1 fun t14 =>
  qExtract 0 t14 fun t15 =>
  qExtract 1 t14 fun t16 =>
  qUn .not t16 fun t19 =>
  ifB t19 (
  C fn_work_no [(I 9)] h1 fun t20 h2 =>
  qStore 4 t4 t20 h2 fun h3 =>
  qLoadA 4 t4 h3 fun r4 =>
  Q r4 h3) (
  qLenS t15 fun t23 =>
  qFieldAddr 2 t3 fun t24 =>
  qLoad1 t24 h1 fun t25 =>
  qLenS t25 fun t26 =>
  qBin .add t23 t26 fun t27 =>
  qBin .gtr t27 (I 600) fun t28 =>
  ifB t28 (
  C fn_work_no [(I 10)] h1 fun t29 h5 =>
  qStore 4 t4 t29 h5 fun h6 =>
  qLoadA 4 t4 h6 fun r7 =>
  Q r7 h6) (
  qNil a0 fun t31 =>
  qFieldAddr 0 t31 fun t32 =>
  qLoad1 t32 h1 fun t33 =>
  qFieldAddr 1 t3 fun t34 =>
  qLoad1 t34 h1 fun t35 =>
  qFieldAddr 2 t3 fun t37 =>
  qLoad1 t37 h1 fun t38 =>
  qBin .add t15 t38 fun t39 =>
  qMapUpdate .string t33 t35 t39 h1 fun h8 =>
  C fn_work_no [(I 0)] h8 fun t40 h9 =>
  qStore 4 t4 t40 h9 fun h10 =>
  qLoadA 4 t4 h10 fun r11 =>
  Q r11 h10))
theorem work_Work_more_ok (a0 a1 : AV) (h : AHeap) (Q : QT) (k : work_Work_more a0 a1 h Q) : C fn_work_Work_more [a0, a1] h Q :=
  okF (pl := [(1000001, [0, 1, 2, 3, 4, 5, 6, 7, 8, 9, 10, 11], []), (1000006, [0, 1, 2, 3, 4, 5, 6, 7, 8, 9, 10], [])]) Tryz.func31 Tryz.ntmps31 (by kernel_rfl) (by kernel_rfl) rfl (by kernel_rfl) k
def work_Work_put (a0 a1 : AV) (h : AHeap) (Q : QT) : Prop :=
  qBox a1 h fun t3 h0 =>
  qNew [(I 0), (S ⟨#[]⟩), (.full 0 []), (.full 0 [])] h0 fun t4 h1 =>
  qNil a0 fun t9 =>
  qFieldAddr 0 t9 fun t10 =>
  qLoad1 t10 h1 fun t11 =>
  qFieldAddr 1 t3 fun t12 =>
  qLoad1 t12 h1 fun t13 =>
  qLookup .string true (S ⟨#[]⟩) t11 t13 h1 fun t14 =>
  qExtract 0 t14 fun t15 =>
  qExtract 1 t14 fun t16 =>
  qUn .not t16 fun t18 =>
  ifB t18 (qNil a0 fun t21 =>
  qFieldAddr 0 t21 fun t22 =>
  qLoad1 t22 h1 fun t23 =>
  qLenM t23 h1 fun t24 =>
  qBin .geq t24 (I 8) fun t25 =>
  ifB t25 (
  C fn_work_no [(I 10)] h1 fun t27 h2 =>
  qStore 4 t4 t27 h2 fun h3 =>
  qLoadA 4 t4 h3 fun r4 =>
  Q r4 h3) (
  qNil a0 fun t29 =>
  qFieldAddr 0 t29 fun t30 =>
  qLoad1 t30 h1 fun t31 =>
  qFieldAddr 1 t3 fun t32 =>
  qLoad1 t32 h1 fun t33 =>
  qFieldAddr 2 t3 fun t34 =>
  qLoad1 t34 h1 fun t35 =>
  qMapUpdate .string t31 t33 t35 h1 fun h5 =>
  C fn_work_no [(I 0)] h5 fun t36 h6 =>
  qStore 4 t4 t36 h6 fun h7 =>
  qLoadA 4 t4 h7 fun r8 =>
  Q r8 h7)) (
  qNil a0 fun t29 =>
  qFieldAddr 0 t29 fun t30 =>
  qLoad1 t30 h1 fun t31 =>
  qFieldAddr 1 t3 fun t32 =>
  qLoad1 t32 h1 fun t33 =>
  qFieldAddr 2 t3 fun t34 =>
  qLoad1 t34 h1 fun t35 =>
  qMapUpdate .string t31 t33 t35 h1 fun h9 =>
  C fn_work_no [(I 0)] h9 fun t36 h10 =>
  qStore 4 t4 t36 h10 fun h11 =>
  qLoadA 4 t4 h11 fun r12 =>
  Q r12 h11)
theorem work_Work_put_ok (a0 a1 : AV) (h : AHeap) (Q : QT) (k : work_Work_put a0 a1 h Q) : C fn_work_Work_put [a0, a1] h Q :=
  okF (pl := [(1000001, [0, 1, 2, 3, 4, 5, 6, 7, 8, 9, 10, 11], []), (1000004, [0, 1, 2, 3, 4, 5, 6, 7, 8], [])]) Tryz.func29 Tryz.ntmps29 (by kernel_rfl) (by kernel_rfl) rfl (by kernel_rfl) k
def work_Work_show (a0 a1 : AV) (h : AHeap) (Q : QT) : Prop :=
  qBox a1 h fun t3 h0 =>
  qNew [(I 0), (S ⟨#[]⟩), (.full 0 []), (.full 0 [])] h0 fun t4 h1 =>
  qNil a0 fun t9 =>
  qFieldAddr 0 t9 fun t10 =>
  qLoad1 t10 h1 fun t11 =>
  qFieldAddr 1 t3 fun t12 =>
  qLoad1 t12 h1 fun t13 =>
  qLookup .string true (S ⟨#[]⟩) t11 t13 h1 fun t14 =>
  qExtract 0 t14 fun t15 =>
  qExtract 1 t14 fun t16 =>
  qUn .not t16 fun t18 =>
  ifB t18 (
  C fn_work_no [(I 9)] h1 fun t19 h2 =>
  qStore 4 t4 t19 h2 fun h3 =>
  qLoadA 4 t4 h3 fun r4 =>
  Q r4 h3) (
  qBuild [(I 0), (S ⟨#[]⟩), (.full 0 []), (.full 0 [])] [(1, 1, t15)] fun t21 =>
  qStore 4 t4 t21 h1 fun h5 =>
  qLoadA 4 t4 h5 fun r6 =>
  Q r6 h5)
theorem work_Work_show_ok (a0 a1 : AV) (h : AHeap) (Q : QT) (k : work_Work_show a0 a1 h Q) : C fn_work_Work_show [a0, a1] h Q :=
  okF (pl := [(1000001, [0, 1, 2, 3, 4, 5, 6, 7, 8, 9, 10, 11], [])]) Tryz.func32 Tryz.ntmps32 (by kernel_rfl) (by kernel_rfl) rfl (by kernel_rfl) k
def work_Work_sym (a0 a1 a2 : AV) (h : AHeap) (Q : QT) : Prop :=
  qNew [(S ⟨#[]⟩), (I 0)] h fun t6 h0 =>
  qBuild [(S ⟨#[]⟩), (I 0)] [(0, 1, a1), (1, 1, a2)] fun t9 =>
  qStore 2 t6 t9 h0 fun h1 =>
  qLoadA 2 t6 h1 fun r2 =>
  Q r2 h1
theorem work_Work_sym_ok (a0 a1 a2 : AV) (h : AHeap) (Q : QT) (k : work_Work_sym a0 a1 a2 h Q) : C fn_work_Work_sym [a0, a1, a2] h Q :=
  okF (pl := []) Tryz.func24 Tryz.ntmps24 (by kernel_rfl) (by kernel_rfl) rfl (by kernel_rfl) k
def work_Work_undef (a0 a1 : AV) (h : AHeap) (Q : QT) : Prop :=
  qBox a1 h fun t3 h0 =>
  qNew [(I 0), (S ⟨#[]⟩), (.full 0 []), (.full 0 [])] h0 fun t4 h1 =>
  qNil a0 fun t9 =>
  qFieldAddr 1 t9 fun t10 =>
  qLoad1 t10 h1 fun t11 =>
  qFieldAddr 1 t3 fun t12 =>
  qLoad1 t12 h1 fun t13 =>
  qLookup .string true (I 0) t11 t13 h1 fun t14 =>
  qExtract 0 t14 fun t15 =>
  qExtract 1 t14 fun t16 =>
  qUn .not t16 fun t18 =>
  ifB t18 (
  C fn_work_no [(I 9)] h1 fun t19 h2 =>
  qStore 4 t4 t19 h2 fun h3 =>
  qLoadA 4 t4 h3 fun r4 =>
  Q r4 h3) (
  qNil a0 fun t21 =>
  qFieldAddr 1 t21 fun t22 =>
  qLoad1 t22 h1 fun t23 =>
  qFieldAddr 1 t3 fun t24 =>
  qLoad1 t24 h1 fun t25 =>
  qDelete .string t23 t25 h1 fun h5 =>
  C fn_work_no [(I 0)] h5 fun t26 h6 =>
  qStore 4 t4 t26 h6 fun h7 =>
  qLoadA 4 t4 h7 fun r8 =>
  Q r8 h7)
theorem work_Work_undef_ok (a0 a1 : AV) (h : AHeap) (Q : QT) (k : work_Work_undef a0 a1 h Q) : C fn_work_Work_undef [a0, a1] h Q :=
  okF (pl := [(1000001, [0, 1, 2, 3, 4, 5, 6, 7, 8, 9, 10, 11], []), (1000004, [0, 1, 2, 3, 4, 5, 6], [])]) Tryz.func34 Tryz.ntmps34 (by kernel_rfl) (by kernel_rfl) rfl (by kernel_rfl) k
def work_deed (a0 : AV) (h : AHeap) (Q : QT) : Prop :=
  qBuildSlice 7 1 [(.fn (.func fn_work_Work_put) [] []), (.fn (.func fn_work_Work_del) [] []), (.fn (.func fn_work_Work_more) [] []), (.fn (.func fn_work_Work_show) [] []), (.fn (.func fn_work_Work_define) [] []), (.fn (.func fn_work_Work_undef) [] []), (.fn (.func fn_work_Work_build) [] [])] fun t3 =>
  qBin .sub a0 (I 1) fun t5 =>
  qIndexAddr 1 t3 t5 fun t6 =>
  qLoad1 t6 h fun t7 =>
  Q t7 h
theorem work_deed_ok (a0 : AV) (h : AHeap) (Q : QT) (k : work_deed a0 h Q) : C fn_work_deed [a0] h Q :=
  okF (pl := []) Tryz.func18 Tryz.ntmps18 (by kernel_rfl) (by kernel_rfl) rfl (by kernel_rfl) k
def work_defines (a0 : AV) (h : AHeap) (Q : QT) : Prop :=
  qBin .eql a0 (I 5) fun t4 =>
  Q t4 h
theorem work_defines_ok (a0 : AV) (h : AHeap) (Q : QT) (k : work_defines a0 h Q) : C fn_work_defines [a0] h Q :=
  okF (pl := []) Tryz.func28 Tryz.ntmps28 (by kernel_rfl) (by kernel_rfl) rfl (by kernel_rfl) k
def work_each_api_Frag_string_l6 (s11 s10 s0 s1 : AV) (Q : QT) (vs2 : List AV) (h : AHeap) (next2 : NT) : Prop :=
  qBin .lss (nthA vs2 1) s11 fun t13 =>
  ifB t13 (
  qIndexAddr 1 s10 (nthA vs2 1) fun t14 =>
  qLoad1 t14 h fun t15 =>
  qLookup .string false (S ⟨#[]⟩) s0 t15 h fun t21 =>
  CV s1 [t15, t21] h fun t22 h3 =>
  qBuildSlice 1 2 [t22] fun t23 =>
  qAppend 2 32 (nthA vs2 0) t23 h3 fun t24 h4 =>
  qBin .add (nthA vs2 1) (I 1) fun t25 =>
  next2 [t24, t25] h4) (
  C fn_slices_Clone__api_Frag_api_Frag [(nthA vs2 0)] h fun t27 h5 =>
  Q t27 h5)
def work_each_api_Frag_string (a0 a1 : AV) (h : AHeap) (Q : QT) : Prop :=
  C fn_maps_Keys_map_stringstring_string_string [a0] h fun t9 h0 =>
  C fn_slices_Sorted_string [t9] h0 fun t10 h1 =>
  qLenL t10 fun t11 =>
  Loop [(.full 0 []), (I 0)] h1 fun vs2 h next2 => work_each_api_Frag_string_l6 t11 t10 a0 a1 Q vs2 h next2
theorem work_each_api_Frag_string_ok (a0 a1 : AV) (h : AHeap) (Q : QT) (k : work_each_api_Frag_string a0 a1 h Q) : C fn_work_each_api_Frag_string [a0, a1] h Q :=
  okF (pl := [(4, [5, 7, 12, 13, 14, 15, 16, 17, 18, 19, 20, 21, 22, 23, 24, 25], [5, 12])]) Tryz.func21 Tryz.ntmps21 (by kernel_rfl) (by kernel_rfl) rfl (by kernel_rfl) k
def work_each_api_Sym_int_l6 (s11 s10 s0 s1 : AV) (Q : QT) (vs2 : List AV) (h : AHeap) (next2 : NT) : Prop :=
  qBin .lss (nthA vs2 1) s11 fun t13 =>
  ifB t13 (
  qIndexAddr 1 s10 (nthA vs2 1) fun t14 =>
  qLoad1 t14 h fun t15 =>
  qLookup .string false (I 0) s0 t15 h fun t21 =>
  CV s1 [t15, t21] h fun t22 h3 =>
  qBuildSlice 1 2 [t22] fun t23 =>
  qAppend 2 24 (nthA vs2 0) t23 h3 fun t24 h4 =>
  qBin .add (nthA vs2 1) (I 1) fun t25 =>
  next2 [t24, t25] h4) (
  C fn_slices_Clone__api_Sym_api_Sym [(nthA vs2 0)] h fun t27 h5 =>
  Q t27 h5)
def work_each_api_Sym_int (a0 a1 : AV) (h : AHeap) (Q : QT) : Prop :=
  C fn_maps_Keys_map_stringint_string_int [a0] h fun t9 h0 =>
  C fn_slices_Sorted_string [t9] h0 fun t10 h1 =>
  qLenL t10 fun t11 =>
  Loop [(.full 0 []), (I 0)] h1 fun vs2 h next2 => work_each_api_Sym_int_l6 t11 t10 a0 a1 Q vs2 h next2
theorem work_each_api_Sym_int_ok (a0 a1 : AV) (h : AHeap) (Q : QT) (k : work_each_api_Sym_int a0 a1 h Q) : C fn_work_each_api_Sym_int [a0, a1] h Q :=
  okF (pl := [(4, [5, 7, 12, 13, 14, 15, 16, 17, 18, 19, 20, 21, 22, 23, 24, 25], [5, 12])]) Tryz.func23 Tryz.ntmps23 (by kernel_rfl) (by kernel_rfl) rfl (by kernel_rfl) k
def work_no (a0 : AV) (h : AHeap) (Q : QT) : Prop :=
  qNew [(I 0), (S ⟨#[]⟩), (.full 0 []), (.full 0 [])] h fun t2 h0 =>
  qBuild [(I 0), (S ⟨#[]⟩), (.full 0 []), (.full 0 [])] [(0, 1, a0)] fun t4 =>
  qStore 4 t2 t4 h0 fun h1 =>
  qLoadA 4 t2 h1 fun r2 =>
  Q r2 h1
theorem work_no_ok (a0 : AV) (h : AHeap) (Q : QT) (k : work_no a0 h Q) : C fn_work_no [a0] h Q :=
  okF (pl := []) Tryz.func17 Tryz.ntmps17 (by kernel_rfl) (by kernel_rfl) rfl (by kernel_rfl) k
def work_writes (a0 : AV) (h : AHeap) (Q : QT) : Prop :=
  qBin .eql a0 (I 1) fun t4 =>
  ifB t4 (Q (B true) h) (
  qBin .eql a0 (I 3) fun t7 =>
  Q t7 h)
theorem work_writes_ok (a0 : AV) (h : AHeap) (Q : QT) (k : work_writes a0 h Q) : C fn_work_writes [a0] h Q :=
  okF (pl := []) Tryz.func27 Tryz.ntmps27 (by kernel_rfl) (by kernel_rfl) rfl (by kernel_rfl) k
end
end Go.Proofs.YtlikeadfohahdaaGreatDoor.AL
