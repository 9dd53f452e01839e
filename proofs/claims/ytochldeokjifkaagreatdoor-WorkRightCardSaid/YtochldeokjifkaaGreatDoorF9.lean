import Derived.Test.YtochldeokjifkaaGreatDoorF5
set_option linter.all false
set_option autoImplicit true
set_option relaxedAutoImplicit true
set_option maxRecDepth 100000
namespace Go.Proofs.YtochldeokjifkaaGreatDoor.AL
noncomputable section
open Go.Proofs
variable [Tabs]
abbrev fn_law4_Text : Nat := 18
def law9_Make_j11 (s6 s4 : AV) (h : AHeap) (Q : QT) : Prop :=
  qLoadA 4 s6 h fun t72 =>
  qStore 4 s4 t72 h fun h9 =>
  qLoadA 4 s4 h9 fun r10 =>
  Q r10 h9
def law9_Make_b12 (s6 s4 : AV) (h : AHeap) (Q : QT) : Prop :=
  law9_Make_j11 s6 s4 h Q
def law9_Make_j23 (s7 s6 s5 s4 s0 : AV) (h : AHeap) (Q : QT) : Prop :=
  C fn_law9_within [s0, (I 16)] h fun t34 h6 =>
  qBin .lss t34 (I 4) fun t39 =>
  ifB t39 (
  qFieldAddr 0 s6 fun t41 =>
  qStore 1 t41 (I 1) h6 fun h7 =>
  qFieldAddr 2 s6 fun t42 =>
  qStore 1 t42 s7 h7 fun h8 =>
  law9_Make_b12 s6 s4 h8 Q) (
  qBin .lss t34 (I 5) fun t45 =>
  ifB t45 (
  qFieldAddr 0 s6 fun t46 =>
  qStore 1 t46 (I 2) h6 fun h13 =>
  law9_Make_b12 s6 s4 h13 Q) (
  qBin .lss t34 (I 8) fun t49 =>
  ifB t49 (
  qFieldAddr 0 s6 fun t51 =>
  qStore 1 t51 (I 3) h6 fun h14 =>
  qFieldAddr 2 s6 fun t52 =>
  qStore 1 t52 s7 h14 fun h15 =>
  law9_Make_b12 s6 s4 h15 Q) (
  qBin .lss t34 (I 9) fun t55 =>
  ifB t55 (
  qFieldAddr 0 s6 fun t56 =>
  qStore 1 t56 (I 4) h6 fun h16 =>
  law9_Make_b12 s6 s4 h16 Q) (
  qBin .lss t34 (I 12) fun t59 =>
  ifB t59 (
  qBuildSlice 7 1 [(I 0), (I 1), (I 7), (I 300), (I (-1)), (I 1099511627776), (I (-1099511627776))] fun t60 =>
  qBin .quo s5 (I 12) fun t62 =>
  qFieldAddr 0 s6 fun t66 =>
  C fn_law9_within [t62, (I 7)] h6 fun t63 h17 =>
  qIndexAddr 1 t60 t63 fun t64 =>
  qLoad1 t64 h17 fun t65 =>
  qStore 1 t66 (I 5) h17 fun h18 =>
  (qLoad1 t64 h18 fun _t =>
  _t = t65) ∧
  qFieldAddr 3 s6 fun t67 =>
  qStore 1 t67 t65 h18 fun h19 =>
  law9_Make_b12 s6 s4 h19 Q) (
  qBin .lss t34 (I 13) fun t70 =>
  ifB t70 (
  qFieldAddr 0 s6 fun t71 =>
  qStore 1 t71 (I 6) h6 fun h20 =>
  law9_Make_b12 s6 s4 h20 Q) (
  qFieldAddr 0 s6 fun t35 =>
  qStore 1 t35 (I 7) h6 fun h21 =>
  qFieldAddr 1 s6 fun t36 =>
  qStore 1 t36 (S ⟨#[]⟩) h21 fun h22 =>
  law9_Make_b12 s6 s4 h22 Q))))))
def law9_Make (a0 a1 : AV) (h : AHeap) (Q : QT) : Prop :=
  qNew [(I 0), (S ⟨#[]⟩), (S ⟨#[]⟩), (I 0)] h fun t4 h0 =>
  qBin .quo a0 (I 16) fun t11 =>
  C fn_law9_Name [t11] h0 fun t13 h1 =>
  qBuild [(I 0), (S ⟨#[]⟩), (S ⟨#[]⟩), (I 0)] [(1, 1, t13)] fun t14 =>
  qNew [(I 0), (S ⟨#[]⟩), (S ⟨#[]⟩), (I 0)] h1 fun t6 h2 =>
  qStore 4 t6 t14 h2 fun h3 =>
  qLenL a1 fun t16 =>
  qBin .gtr t16 (I 0) fun t17 =>
  ifB t17 (
  qBin .quo t11 (I 12) fun t19 =>
  qLenL a1 fun t21 =>
  C fn_law9_within [t19, t21] h3 fun t22 h4 =>
  qSliceL 6 a1 (some t22) none fun t25 =>
  qBin .quo t11 (I 5) fun t28 =>
  qBin .quo t11 (I 7) fun t30 =>
  qBuildSlice 3 1 [t11, t28, t30] fun t31 =>
  C fn_law4_Text [t25, t31, (I 300)] h4 fun t32 h5 =>
  law9_Make_j23 t32 t6 t11 t4 a0 h5 Q) (
  law9_Make_j23 (S ⟨#[]⟩) t6 t11 t4 a0 h3 Q)
theorem law9_Make_ok (a0 a1 : AV) (h : AHeap) (Q : QT) (k : law9_Make a0 a1 h Q) : C fn_law9_Make [a0, a1] h Q :=
  okF (pl := [(1000018, [0, 1, 2, 6, 3, 4, 5, 7, 8, 9], [])]) Tryz.func9 Tryz.ntmps9 (by kernel_rfl) (by kernel_rfl) rfl (by kernel_rfl) k
def law9_Name (a0 : AV) (h : AHeap) (Q : QT) : Prop :=
  qBuildSlice 12 1 [(S ⟨#[109, 97, 105, 110]⟩), (S ⟨#[97]⟩), (S ⟨#[98, 49]⟩), (S ⟨#[120]⟩), (S ⟨#[108, 105, 98]⟩), (S ⟨#[101, 110, 100]⟩), (S ⟨#[99]⟩), (S ⟨#[100]⟩), (S ⟨#[101]⟩), (S ⟨#[102]⟩), (S ⟨#[98, 97, 115, 101]⟩), (S ⟨#[107]⟩)] fun t3 =>
  C fn_law9_within [a0, (I 12)] h fun t5 h0 =>
  qIndexAddr 1 t3 t5 fun t6 =>
  qLoad1 t6 h0 fun t7 =>
  Q t7 h0
theorem law9_Name_ok (a0 : AV) (h : AHeap) (Q : QT) (k : law9_Name a0 h Q) : C fn_law9_Name [a0] h Q :=
  okF (pl := []) Tryz.func14 Tryz.ntmps14 (by kernel_rfl) (by kernel_rfl) rfl (by kernel_rfl) k
def law9_WorkRight_j14 (s11 s5 : AV) (h : AHeap) (Q : QT) : Prop :=
  qLoadA 4 s11 h fun t76 =>
  qLoadA 4 s11 h fun t78 =>
  C fn_work_Right [t76] h fun t77 h10 =>
  (qLoadA 4 s11 h10 fun _t =>
  _t = t78) ∧
  C fn_ref9_Right [t78] h10 fun t79 h11 =>
  qBinB .eql t77 t79 fun t80 =>
  ifB t80 (qLoadA 4 s5 h11 fun t82 =>
  qLoadA 4 s5 h11 fun t84 =>
  C fn_work_Right [t82] h11 fun t83 h12 =>
  (qLoadA 4 s5 h12 fun _t =>
  _t = t84) ∧
  C fn_ref9_Right [t84] h12 fun t85 h13 =>
  qBinB .eql t83 t85 fun t86 =>
  Q t86 h13) (
  Q (B false) h11)
def law9_WorkRight_b15 (s11 s5 : AV) (h : AHeap) (Q : QT) : Prop :=
  law9_WorkRight_j14 s11 s5 h Q
def law9_WorkRight_l23 (s11 s5 s3 : AV) (Q : QT) (h : AHeap) (next20 : NT) : Prop :=
  qFieldAddr 2 s11 fun t65 =>
  qLoad1 t65 h fun t66 =>
  qLenS t66 fun t67 =>
  C fn_law9_within [s3, (I 5)] h fun t69 h21 =>
  (qLoad1 t65 h21 fun _t =>
  _t = t66) ∧
  qBin .add (I 598) t69 fun t70 =>
  qBin .lss t67 t70 fun t71 =>
  ifB t71 (
  qFieldAddr 2 s11 fun t72 =>
  qLoad1 t72 h21 fun t73 =>
  qBin .add t73 (S ⟨#[35]⟩) fun t74 =>
  qFieldAddr 2 s11 fun t75 =>
  qStore 1 t75 t74 h21 fun h22 =>
  next20 [] h22) (
  law9_WorkRight_b15 s11 s5 h21 Q)
def law9_WorkRight (a0 a1 a2 a3 a4 : AV) (h : AHeap) (Q : QT) : Prop :=
  qBox a0 h fun t5 h0 =>
  C fn_law9_known [] h0 fun t12 h1 =>
  qUn .not t12 fun t13 =>
  ifB t13 (
  Q (B false) h1) (
  qFieldAddr 2 t5 fun t14 =>
  qLoad1 t14 h1 fun t15 =>
  qLenS t15 fun t16 =>
  qBin .gtr t16 (I 700) fun t17 =>
  ifB t17 (Q (B true) h1) (
  qFieldAddr 1 t5 fun t19 =>
  qLoad1 t19 h1 fun t20 =>
  qLenS t20 fun t21 =>
  qBin .gtr t21 (I 60) fun t22 =>
  ifB t22 (Q (B true) h1) (
  qLenS a4 fun t26 =>
  qBin .gtr t26 (I 60) fun t27 =>
  ifB t27 (
  Q (B true) h1) (
  C fn_law9_within [a1, (I 1073741824)] h1 fun t30 h2 =>
  C fn_law9_Make [t30, (.full 0 [])] h2 fun t31 h3 =>
  qNew [(I 0), (S ⟨#[]⟩), (S ⟨#[]⟩), (I 0)] h3 fun t11 h4 =>
  qStore 4 t11 t31 h4 fun h5 =>
  qLoadA 4 t11 h5 fun t32 =>
  C fn_work_Right [t32] h5 fun t33 h6 =>
  qUn .not t33 fun t34 =>
  ifB t34 (
  Q (B false) h6) (
  C fn_law9_within [a2, (I 5)] h6 fun t36 h7 =>
  qBin .eql t36 (I 0) fun t38 =>
  ifB t38 (
  qBuildSlice 10 1 [(I 0), (I 1), (I 2), (I 3), (I 4), (I 5), (I 6), (I 7), (I 8), a3] fun t40 =>
  C fn_law9_within [a3, (I 10)] h7 fun t42 h8 =>
  qIndexAddr 1 t40 t42 fun t43 =>
  qLoad1 t43 h8 fun t44 =>
  qFieldAddr 0 t11 fun t45 =>
  qStore 1 t45 t44 h8 fun h9 =>
  law9_WorkRight_b15 t11 t5 h9 Q) (
  qBin .eql t36 (I 1) fun t47 =>
  ifB t47 (
  qFieldAddr 1 t11 fun t49 =>
  qStore 1 t49 a4 h7 fun h16 =>
  law9_WorkRight_b15 t11 t5 h16 Q) (
  qBin .eql t36 (I 2) fun t51 =>
  ifB t51 (
  qFieldAddr 2 t11 fun t53 =>
  qStore 1 t53 a4 h7 fun h17 =>
  law9_WorkRight_b15 t11 t5 h17 Q) (
  qBin .eql t36 (I 3) fun t55 =>
  ifB t55 (
  qBuildSlice 7 1 [(I 0), (I 1), a3, (I 1099511627776), (I 1099511627777), (I (-1099511627776)), (I (-1099511627777))] fun t57 =>
  C fn_law9_within [a3, (I 7)] h7 fun t59 h18 =>
  qIndexAddr 1 t57 t59 fun t60 =>
  qLoad1 t60 h18 fun t61 =>
  qFieldAddr 3 t11 fun t62 =>
  qStore 1 t62 t61 h18 fun h19 =>
  law9_WorkRight_b15 t11 t5 h19 Q) (
  qBin .eql t36 (I 4) fun t64 =>
  ifB t64 (
  Loop [] h7 fun _ h next20 => law9_WorkRight_l23 t11 t5 a3 Q h next20) (
  law9_WorkRight_b15 t11 t5 h7 Q))))))))))
theorem law9_WorkRight_ok (a0 a1 a2 a3 a4 : AV) (h : AHeap) (Q : QT) (k : law9_WorkRight a0 a1 a2 a3 a4 h Q) : C fn_law9_WorkRight [a0, a1, a2, a3, a4] h Q :=
  okF (pl := [(1000020, [0, 2, 1, 3, 4, 5, 6, 8, 7, 9, 10, 11, 12], []), (19, [65, 66, 67, 68, 69, 70, 71, 72, 73, 74, 75], []), (1000018, [0, 1, 2, 3, 4, 5, 6], [])]) Tryz.func3 Tryz.ntmps3 (by kernel_rfl) (by kernel_rfl) rfl (by kernel_rfl) k
def law9_within_j0 (s5 : AV) (h : AHeap) (Q : QT) : Prop :=
  Q s5 h
def law9_within (a0 a1 : AV) (h : AHeap) (Q : QT) : Prop :=
  qBin .rem a0 a1 fun t8 =>
  qBin .lss t8 (I 0) fun t10 =>
  ifB t10 (
  qBin .add t8 a1 fun t13 =>
  law9_within_j0 t13 h Q) (
  law9_within_j0 t8 h Q)
theorem law9_within_ok (a0 a1 : AV) (h : AHeap) (Q : QT) (k : law9_within a0 a1 h Q) : C fn_law9_within [a0, a1] h Q :=
  okF (pl := []) Tryz.func10 Tryz.ntmps10 (by kernel_rfl) (by kernel_rfl) rfl (by kernel_rfl) k
def ref3_Word_j1 (s3 s2 s4 : AV) (h : AHeap) (next0 : NT) : Prop :=
  qBin .add s4 (I 1) fun t28 =>
  next0 [s2, s3, t28] h
def ref3_Word_b2 (s3 s2 s4 : AV) (h : AHeap) (next0 : NT) : Prop :=
  ref3_Word_j1 s3 s2 s4 h next0
def ref3_Word_c1 (t61 : AV) (vs0 : List AV) (h : AHeap) (next0 : NT) : Prop :=
  ifB t61 (
  ref3_Word_b2 (B false) (nthA vs0 0) (nthA vs0 2) h next0) (
  ref3_Word_b2 (nthA vs0 1) (nthA vs0 0) (nthA vs0 2) h next0)
def ref3_Word_c2 (vs0 : List AV) (h : AHeap) (next0 : NT) : Prop :=
  qBin .gtr (nthA vs0 2) (I 0) fun t58 =>
  ifB t58 (qUn .not (B false) fun t61 =>
  ref3_Word_c1 t61 vs0 h next0) (
  ref3_Word_b2 (nthA vs0 1) (nthA vs0 0) (nthA vs0 2) h next0)
def ref3_Word_c3 (vs0 : List AV) (t36 : AV) (h : AHeap) (next0 : NT) : Prop :=
  qBin .gtr (nthA vs0 2) (I 0) fun t58 =>
  ifB t58 (qUn .not t36 fun t61 =>
  ref3_Word_c1 t61 vs0 h next0) (
  ref3_Word_b2 (nthA vs0 1) (nthA vs0 0) (nthA vs0 2) h next0)
def ref3_Word_c4 (t44 t31 : AV) (vs0 : List AV) (Q : QT) (h : AHeap) (t36 : AV) (next0 : NT) : Prop :=
  ifB t44 (qBin .neq t31 (.lit (.int .u8 95)) fun t47 =>
  ifB t47 (qBin .eql (nthA vs0 2) (I 0) fun t51 =>
  ifT t51 (Q (B false) h) (
  qUn .not t36 fun t54 =>
  ifB t54 (
  Q (B false) h) (
  ref3_Word_c3 vs0 t36 h next0)) (
  ifB (.tup []) (Q (B false) h) (ifB (.tup []) (
  Q (B false) h) (
  ref3_Word_c3 vs0 t36 h next0)))) (
  ref3_Word_c3 vs0 t36 h next0)) (
  ref3_Word_c3 vs0 t36 h next0)
def ref3_Word_c5 (t44 t31 : AV) (vs0 : List AV) (Q : QT) (h : AHeap) (next0 : NT) : Prop :=
  ifB t44 (qBin .neq t31 (.lit (.int .u8 95)) fun t47 =>
  ifB t47 (qBin .eql (nthA vs0 2) (I 0) fun t51 =>
  ifT t51 (Q (B false) h) (
  qUn .not (B false) fun t54 =>
  ifB t54 (
  Q (B false) h) (
  ref3_Word_c2 vs0 h next0)) (
  ifB (.tup []) (Q (B false) h) (ifB (.tup []) (
  Q (B false) h) (
  ref3_Word_c2 vs0 h next0)))) (
  ref3_Word_c2 vs0 h next0)) (
  ref3_Word_c2 vs0 h next0)
def ref3_Word_l3 (s0 : AV) (Q : QT) (vs0 : List AV) (h : AHeap) (next0 : NT) : Prop :=
  qLenS s0 fun t25 =>
  qBin .lss (nthA vs0 2) t25 fun t26 =>
  ifB t26 (
  qIndexS s0 (nthA vs0 2) fun t31 =>
  qBin .geq t31 (.lit (.int .u8 48)) fun t33 =>
  ifB t33 (qBin .leq t31 (.lit (.int .u8 57)) fun t36 =>
  qBin .geq t31 (.lit (.int .u8 97)) fun t39 =>
  ifB t39 (qBin .leq t31 (.lit (.int .u8 122)) fun t42 =>
  qUn .not t42 fun t44 =>
  ref3_Word_c4 t44 t31 vs0 Q h t36 next0) (
  qUn .not (B false) fun t44 =>
  ref3_Word_c4 t44 t31 vs0 Q h t36 next0)) (
  qBin .geq t31 (.lit (.int .u8 97)) fun t39 =>
  ifB t39 (qBin .leq t31 (.lit (.int .u8 122)) fun t42 =>
  qUn .not t42 fun t44 =>
  ref3_Word_c5 t44 t31 vs0 Q h next0) (
  qUn .not (B false) fun t44 =>
  ref3_Word_c5 t44 t31 vs0 Q h next0))) (
  qUn .not (nthA vs0 1) fun t64 =>
  Q t64 h)
def ref3_Word_j5 (s3 s2 s4 : AV) (h : AHeap) (next4 : NT) : Prop :=
  qBin .add s4 (I 1) fun t28 =>
  next4 [s2, s3, t28] h
def ref3_Word_b6 (s3 s2 s4 : AV) (h : AHeap) (next4 : NT) : Prop :=
  ref3_Word_j5 s3 s2 s4 h next4
def ref3_Word_c6 (t61 : AV) (vs4 : List AV) (h : AHeap) (next4 : NT) : Prop :=
  ifB t61 (
  ref3_Word_b6 (B false) (nthA vs4 0) (nthA vs4 2) h next4) (
  ref3_Word_b6 (nthA vs4 1) (nthA vs4 0) (nthA vs4 2) h next4)
def ref3_Word_c7 (vs4 : List AV) (h : AHeap) (next4 : NT) : Prop :=
  qBin .gtr (nthA vs4 2) (I 0) fun t58 =>
  ifB t58 (qUn .not (B false) fun t61 =>
  ref3_Word_c6 t61 vs4 h next4) (
  ref3_Word_b6 (nthA vs4 1) (nthA vs4 0) (nthA vs4 2) h next4)
def ref3_Word_c8 (vs4 : List AV) (t36 : AV) (h : AHeap) (next4 : NT) : Prop :=
  qBin .gtr (nthA vs4 2) (I 0) fun t58 =>
  ifB t58 (qUn .not t36 fun t61 =>
  ref3_Word_c6 t61 vs4 h next4) (
  ref3_Word_b6 (nthA vs4 1) (nthA vs4 0) (nthA vs4 2) h next4)
def ref3_Word_c9 (t44 t31 : AV) (vs4 : List AV) (Q : QT) (h : AHeap) (t36 : AV) (next4 : NT) : Prop :=
  ifB t44 (qBin .neq t31 (.lit (.int .u8 95)) fun t47 =>
  ifB t47 (qBin .eql (nthA vs4 2) (I 0) fun t51 =>
  ifT t51 (Q (B false) h) (
  qUn .not t36 fun t54 =>
  ifB t54 (
  Q (B false) h) (
  ref3_Word_c8 vs4 t36 h next4)) (
  ifB (.tup []) (Q (B false) h) (ifB (.tup []) (
  Q (B false) h) (
  ref3_Word_c8 vs4 t36 h next4)))) (
  ref3_Word_c8 vs4 t36 h next4)) (
  ref3_Word_c8 vs4 t36 h next4)
def ref3_Word_c10 (t44 t31 : AV) (vs4 : List AV) (Q : QT) (h : AHeap) (next4 : NT) : Prop :=
  ifB t44 (qBin .neq t31 (.lit (.int .u8 95)) fun t47 =>
  ifB t47 (qBin .eql (nthA vs4 2) (I 0) fun t51 =>
  ifT t51 (Q (B false) h) (
  qUn .not (B false) fun t54 =>
  ifB t54 (
  Q (B false) h) (
  ref3_Word_c7 vs4 h next4)) (
  ifB (.tup []) (Q (B false) h) (ifB (.tup []) (
  Q (B false) h) (
  ref3_Word_c7 vs4 h next4)))) (
  ref3_Word_c7 vs4 h next4)) (
  ref3_Word_c7 vs4 h next4)
def ref3_Word_l7 (s0 : AV) (Q : QT) (vs4 : List AV) (h : AHeap) (next4 : NT) : Prop :=
  qLenS s0 fun t25 =>
  qBin .lss (nthA vs4 2) t25 fun t26 =>
  ifB t26 (
  qIndexS s0 (nthA vs4 2) fun t31 =>
  qBin .geq t31 (.lit (.int .u8 48)) fun t33 =>
  ifB t33 (qBin .leq t31 (.lit (.int .u8 57)) fun t36 =>
  qBin .geq t31 (.lit (.int .u8 97)) fun t39 =>
  ifB t39 (qBin .leq t31 (.lit (.int .u8 122)) fun t42 =>
  qUn .not t42 fun t44 =>
  ref3_Word_c9 t44 t31 vs4 Q h t36 next4) (
  qUn .not (B false) fun t44 =>
  ref3_Word_c9 t44 t31 vs4 Q h t36 next4)) (
  qBin .geq t31 (.lit (.int .u8 97)) fun t39 =>
  ifB t39 (qBin .leq t31 (.lit (.int .u8 122)) fun t42 =>
  qUn .not t42 fun t44 =>
  ref3_Word_c10 t44 t31 vs4 Q h next4) (
  qUn .not (B false) fun t44 =>
  ref3_Word_c10 t44 t31 vs4 Q h next4))) (
  qUn .not (nthA vs4 1) fun t64 =>
  Q t64 h)
def ref3_Word (a0 : AV) (h : AHeap) (Q : QT) : Prop :=
  qLenS a0 fun t8 =>
  qBin .lss t8 (I 1) fun t9 =>
  ifB t9 (Q (B false) h) (
  qLenS a0 fun t12 =>
  qBin .gtr t12 (I 12) fun t13 =>
  ifB t13 (
  Q (B false) h) (
  qIndexS a0 (I 0) fun t16 =>
  qBin .eql t16 (.lit (.int .u8 114)) fun t17 =>
  ifB t17 (qLenS a0 fun t20 =>
  qBin .gtr t20 (I 1) fun t21 =>
  Loop [(B false), t21, (I 0)] h fun vs0 h next0 => ref3_Word_l3 a0 Q vs0 h next0) (
  Loop [(B false), (B false), (I 0)] h fun vs4 h next4 => ref3_Word_l7 a0 Q vs4 h next4)))
theorem ref3_Word_ok (a0 : AV) (h : AHeap) (Q : QT) (k : ref3_Word a0 h Q) : C fn_ref3_Word [a0] h Q :=
  okF (pl := [(6, [2, 3, 4, 5, 6, 23, 24, 25, 26, 27, 28, 29, 30, 31, 32, 33, 34, 35, 36, 37, 38, 39, 40, 41, 42, 43, 44, 45, 46, 47, 48, 49, 50, 51, 52, 53, 54, 55, 56, 57, 58, 59, 60, 61, 62], [2, 3, 4])]) Tryz.func35 Tryz.ntmps35 (by kernel_rfl) (by kernel_rfl) rfl (by kernel_rfl) k
def ref4_Word (a0 : AV) (h : AHeap) (Q : QT) : Prop :=
  C fn_ref3_Word [a0] h fun t4 h0 =>
  Q t4 h0
theorem ref4_Word_ok (a0 : AV) (h : AHeap) (Q : QT) (k : ref4_Word a0 h Q) : C fn_ref4_Word [a0] h Q :=
  okF (pl := []) Tryz.func22 Tryz.ntmps22 (by kernel_rfl) (by kernel_rfl) rfl (by kernel_rfl) k
def ref9_Right_c2 (t1 : AV) (h1 : AHeap) (Q : QT) : Prop :=
  qFieldAddr 0 t1 fun t52 =>
  qLoad1 t52 h1 fun t53 =>
  qBin .neq t53 (I 5) fun t54 =>
  ifB t54 (
  qFieldAddr 3 t1 fun t55 =>
  qLoad1 t55 h1 fun t56 =>
  qBin .eql t56 (I 0) fun t57 =>
  Q t57 h1) (
  qFieldAddr 3 t1 fun t58 =>
  qLoad1 t58 h1 fun t59 =>
  qBin .geq t59 (I (-1099511627776)) fun t60 =>
  ifB t60 (qFieldAddr 3 t1 fun t62 =>
  qLoad1 t62 h1 fun t63 =>
  qBin .leq t63 (I 1099511627776) fun t64 =>
  Q t64 h1) (
  Q (B false) h1))
def ref9_Right_c1 (t45 t1 : AV) (h1 : AHeap) (Q : QT) : Prop :=
  ifT t45 (qFieldAddr 2 t1 fun t47 =>
  qLoad1 t47 h1 fun t48 =>
  qBin .neq t48 (S ⟨#[]⟩) fun t49 =>
  ifB t49 (
  Q (B false) h1) (
  ref9_Right_c2 t1 h1 Q)) (
  ref9_Right_c2 t1 h1 Q) (
  ifB (.tup []) (ifB (.tup []) (
  Q (B false) h1) (
  ref9_Right_c2 t1 h1 Q)) (ref9_Right_c2 t1 h1 Q))
def ref9_Right_c3 (t1 : AV) (h1 : AHeap) (Q : QT) : Prop :=
  qFieldAddr 0 t1 fun t31 =>
  qLoad1 t31 h1 fun t32 =>
  qBin .eql t32 (I 1) fun t33 =>
  ifB t33 (qFieldAddr 2 t1 fun t39 =>
  qLoad1 t39 h1 fun t40 =>
  qLenS t40 fun t41 =>
  qBin .gtr t41 (I 600) fun t42 =>
  ifB t42 (Q (B false) h1) (
  qUn .not (B true) fun t45 =>
  ref9_Right_c1 t45 t1 h1 Q)) (
  qFieldAddr 0 t1 fun t35 =>
  qLoad1 t35 h1 fun t36 =>
  qBin .eql t36 (I 3) fun t37 =>
  qFieldAddr 2 t1 fun t39 =>
  qLoad1 t39 h1 fun t40 =>
  qLenS t40 fun t41 =>
  qBin .gtr t41 (I 600) fun t42 =>
  ifB t42 (Q (B false) h1) (
  qUn .not t37 fun t45 =>
  ref9_Right_c1 t45 t1 h1 Q))
def ref9_Right (a0 : AV) (h : AHeap) (Q : QT) : Prop :=
  qBox a0 h fun t1 h0 =>
  qFieldAddr 0 t1 fun t4 =>
  qLoad1 t4 h0 fun t5 =>
  qBin .lss t5 (I 1) fun t6 =>
  ifB t6 (Q (B false) h0) (
  qFieldAddr 0 t1 fun t8 =>
  qLoad1 t8 h0 fun t9 =>
  qBin .gtr t9 (I 7) fun t10 =>
  ifB t10 (Q (B false) h0) (
  qFieldAddr 1 t1 fun t13 =>
  qLoad1 t13 h0 fun t14 =>
  qFieldAddr 0 t1 fun t16 =>
  qLoad1 t16 h0 fun t17 =>
  qBin .neq t17 (I 7) fun t18 =>
  C fn_ref4_Word [t14] h0 fun t15 h1 =>
  (qLoad1 t16 h1 fun _t =>
  _t = t17) ∧
  qBinB .neq t15 t18 fun t19 =>
  ifB t19 (Q (B false) h1) (
  qFieldAddr 0 t1 fun t22 =>
  qLoad1 t22 h1 fun t23 =>
  qBin .eql t23 (I 7) fun t24 =>
  ifT t24 (qFieldAddr 1 t1 fun t26 =>
  qLoad1 t26 h1 fun t27 =>
  qBin .neq t27 (S ⟨#[]⟩) fun t28 =>
  ifB t28 (
  Q (B false) h1) (
  ref9_Right_c3 t1 h1 Q)) (
  ref9_Right_c3 t1 h1 Q) (
  ifB (.tup []) (ifB (.tup []) (
  Q (B false) h1) (
  ref9_Right_c3 t1 h1 Q)) (ref9_Right_c3 t1 h1 Q)))))
theorem ref9_Right_ok (a0 : AV) (h : AHeap) (Q : QT) (k : ref9_Right a0 h Q) : C fn_ref9_Right [a0] h Q :=
  okF (pl := [(1000001, [0, 1, 2, 3, 4, 5, 6, 7, 8, 9, 10, 12, 13, 14, 11, 15, 16, 17, 18, 19, 20, 21, 22, 23, 24, 25, 26], [])]) Tryz.func12 Tryz.ntmps12 (by kernel_rfl) (by kernel_rfl) rfl (by kernel_rfl) k
def work_Right (a0 : AV) (h : AHeap) (Q : QT) : Prop :=
  qBox a0 h fun t1 h0 =>
  qFieldAddr 0 t1 fun t3 =>
  qLoad1 t3 h0 fun t4 =>
  qBin .lss t4 (I 1) fun t5 =>
  ifB t5 (Q (B false) h0) (
  qFieldAddr 0 t1 fun t7 =>
  qLoad1 t7 h0 fun t8 =>
  qBin .gtr t8 (I 7) fun t9 =>
  ifB t9 (
  Q (B false) h0) (
  qFieldAddr 0 t1 fun t11 =>
  qLoad1 t11 h0 fun t12 =>
  qBin .eql t12 (I 7) fun t13 =>
  ifB t13 (
  qLoadA 4 t1 h0 fun t14 =>
  qBuild [(I 0), (S ⟨#[]⟩), (S ⟨#[]⟩), (I 0)] [(0, 1, (I 7))] fun t15 =>
  qEqS .eql [(.int .i64), .string, .string, (.int .i64)] t14 t15 fun t16 =>
  Q t16 h0) (
  qFieldAddr 1 t1 fun t17 =>
  qLoad1 t17 h0 fun t18 =>
  C fn_line_Word [t18] h0 fun t19 h1 =>
  qUn .not t19 fun t20 =>
  ifB t20 (Q (B false) h1) (
  qFieldAddr 2 t1 fun t22 =>
  qLoad1 t22 h1 fun t23 =>
  qLenS t23 fun t24 =>
  qBin .gtr t24 (I 600) fun t25 =>
  ifB t25 (Q (B false) h1) (
  qFieldAddr 2 t1 fun t28 =>
  qLoad1 t28 h1 fun t29 =>
  qBin .neq t29 (S ⟨#[]⟩) fun t30 =>
  ifT t30 (qFieldAddr 0 t1 fun t32 =>
  qLoad1 t32 h1 fun t33 =>
  C fn_work_writes [t33] h1 fun t34 h2 =>
  qUn .not t34 fun t35 =>
  ifB t35 (
  Q (B false) h2) (
  qFieldAddr 3 t1 fun t38 =>
  qLoad1 t38 h2 fun t39 =>
  qBin .geq t39 (I (-1099511627776)) fun t40 =>
  ifB t40 (qFieldAddr 3 t1 fun t42 =>
  qLoad1 t42 h2 fun t43 =>
  qBin .leq t43 (I 1099511627776) fun t44 =>
  ifB t44 (qFieldAddr 3 t1 fun t47 =>
  qLoad1 t47 h2 fun t48 =>
  qBin .eql t48 (I 0) fun t49 =>
  ifT t49 (Q (B true) h2) (
  qFieldAddr 0 t1 fun t51 =>
  qLoad1 t51 h2 fun t52 =>
  C fn_work_defines [t52] h2 fun t53 h3 =>
  Q t53 h3) (
  ifB (.tup []) (Q (B true) h2) (Q (.tup []) h2))) (
  Q (B false) h2)) (
  Q (B false) h2))) (
  qFieldAddr 3 t1 fun t38 =>
  qLoad1 t38 h1 fun t39 =>
  qBin .geq t39 (I (-1099511627776)) fun t40 =>
  ifB t40 (qFieldAddr 3 t1 fun t42 =>
  qLoad1 t42 h1 fun t43 =>
  qBin .leq t43 (I 1099511627776) fun t44 =>
  ifB t44 (qFieldAddr 3 t1 fun t47 =>
  qLoad1 t47 h1 fun t48 =>
  qBin .eql t48 (I 0) fun t49 =>
  ifT t49 (Q (B true) h1) (
  qFieldAddr 0 t1 fun t51 =>
  qLoad1 t51 h1 fun t52 =>
  C fn_work_defines [t52] h1 fun t53 h4 =>
  Q t53 h4) (
  ifB (.tup []) (Q (B true) h1) (Q (.tup []) h1))) (
  Q (B false) h1)) (
  Q (B false) h1)) (
  ifB (.tup []) (ifB (.tup []) (
  Q (B false) h1) (
  qFieldAddr 3 t1 fun t38 =>
  qLoad1 t38 h1 fun t39 =>
  qBin .geq t39 (I (-1099511627776)) fun t40 =>
  ifB t40 (qFieldAddr 3 t1 fun t42 =>
  qLoad1 t42 h1 fun t43 =>
  qBin .leq t43 (I 1099511627776) fun t44 =>
  ifB t44 (qFieldAddr 3 t1 fun t47 =>
  qLoad1 t47 h1 fun t48 =>
  qBin .eql t48 (I 0) fun t49 =>
  ifT t49 (Q (B true) h1) (
  qFieldAddr 0 t1 fun t51 =>
  qLoad1 t51 h1 fun t52 =>
  C fn_work_defines [t52] h1 fun t53 h5 =>
  Q t53 h5) (
  ifB (.tup []) (Q (B true) h1) (Q (.tup []) h1))) (
  Q (B false) h1)) (
  Q (B false) h1))) (qFieldAddr 3 t1 fun t38 =>
  qLoad1 t38 h1 fun t39 =>
  qBin .geq t39 (I (-1099511627776)) fun t40 =>
  ifB t40 (qFieldAddr 3 t1 fun t42 =>
  qLoad1 t42 h1 fun t43 =>
  qBin .leq t43 (I 1099511627776) fun t44 =>
  ifB t44 (qFieldAddr 3 t1 fun t47 =>
  qLoad1 t47 h1 fun t48 =>
  qBin .eql t48 (I 0) fun t49 =>
  ifT t49 (Q (B true) h1) (
  qFieldAddr 0 t1 fun t51 =>
  qLoad1 t51 h1 fun t52 =>
  C fn_work_defines [t52] h1 fun t53 h6 =>
  Q t53 h6) (
  ifB (.tup []) (Q (B true) h1) (Q (.tup []) h1))) (
  Q (B false) h1)) (
  Q (B false) h1))))))))
theorem work_Right_ok (a0 : AV) (h : AHeap) (Q : QT) (k : work_Right a0 h Q) : C fn_work_Right [a0] h Q :=
  okF (pl := []) Tryz.func11 Tryz.ntmps11 (by kernel_rfl) (by kernel_rfl) rfl (by kernel_rfl) k
def work_defines (a0 : AV) (h : AHeap) (Q : QT) : Prop :=
  qBin .eql a0 (I 5) fun t4 =>
  Q t4 h
theorem work_defines_ok (a0 : AV) (h : AHeap) (Q : QT) (k : work_defines a0 h Q) : C fn_work_defines [a0] h Q :=
  okF (pl := []) Tryz.func21 Tryz.ntmps21 (by kernel_rfl) (by kernel_rfl) rfl (by kernel_rfl) k
def work_writes (a0 : AV) (h : AHeap) (Q : QT) : Prop :=
  qBin .eql a0 (I 1) fun t4 =>
  ifB t4 (Q (B true) h) (
  qBin .eql a0 (I 3) fun t7 =>
  Q t7 h)
theorem work_writes_ok (a0 : AV) (h : AHeap) (Q : QT) (k : work_writes a0 h Q) : C fn_work_writes [a0] h Q :=
  okF (pl := []) Tryz.func20 Tryz.ntmps20 (by kernel_rfl) (by kernel_rfl) rfl (by kernel_rfl) k
end
end Go.Proofs.YtochldeokjifkaaGreatDoor.AL
