import Derived.Test.YtamfimhaimaeiaaGreatDoorF5
set_option linter.all false
set_option autoImplicit true
set_option relaxedAutoImplicit true
set_option maxRecDepth 100000
namespace Go.Proofs.YtamfimhaimaeiaaGreatDoor.AL
noncomputable section
open Go.Proofs
variable [Tabs]
def incr_New (h : AHeap) (Q : QT) : Prop :=
  qMakeMap h fun t1 h0 =>
  qBuild [(.lit (.map none)), (.full 0 []), (I 0)] [(0, 1, t1)] fun t2 =>
  qBox t2 h0 fun t3 h1 =>
  Q t3 h1
theorem incr_New_ok (h : AHeap) (Q : QT) (k : incr_New  h Q) : C fn_incr_New [] h Q :=
  okF (pl := []) Tryz.func16 Tryz.ntmps16 (by kernel_rfl) (by kernel_rfl) rfl (by kernel_rfl) k
def law10_TxnBad_j17 (s6 s5 s2 : AV) (h : AHeap) (Q : QT) : Prop :=
  qLoadA 4 s2 h fun t40 =>
  C fn_txn_Begin [s5, s6, t40] h fun t41 h7 =>
  qBinP .eql t41 (.lit (.pointer none)) fun t43 =>
  ifB t43 (
  Q (B false) h7) (
  C fn_txn_Txn_Step [t41] h7 fun t46 h8 =>
  qExtract 0 t46 fun t47 =>
  qExtract 1 t46 fun t48 =>
  qNew [(I 0), (S ⟨#[]⟩), (.full 0 []), (.full 0 []), (I 0), (B false)] h8 fun t8 h9 =>
  qStore 6 t8 t47 h9 fun h10 =>
  C fn_txn_Txn_Step [t41] h10 fun t51 h11 =>
  qExtract 0 t51 fun t52 =>
  qExtract 1 t51 fun t53 =>
  qNew [(I 0), (S ⟨#[]⟩), (.full 0 []), (.full 0 []), (I 0), (B false)] h11 fun t10 h12 =>
  qStore 6 t10 t52 h12 fun h13 =>
  ifB t48 (qUn .not t53 fun t57 =>
  ifB t57 (qFieldAddr 0 t8 fun t60 =>
  qFieldAddr 0 t60 fun t61 =>
  qLoad1 t61 h13 fun t62 =>
  qBin .eql t62 (I 12) fun t63 =>
  ifB t63 (qFieldAddr 4 t8 fun t66 =>
  qLoad1 t66 h13 fun t67 =>
  qBin .eql t67 (I 0) fun t68 =>
  ifB t68 (qFieldAddr 5 t8 fun t71 =>
  qLoad1 t71 h13 fun t72 =>
  qUn .not t72 fun t73 =>
  ifB t73 (C fn_txn_Txn_Tries [t41] h13 fun t77 h14 =>
  qBin .eql t77 (I 0) fun t78 =>
  ifB t78 (C fn_store_Store_Now [s5] h14 fun t82 h15 =>
  qBin .eql t82 (I 0) fun t83 =>
  ifB t83 (C fn_store_Store_Count [s5] h15 fun t87 h16 =>
  qBin .eql t87 (I 0) fun t88 =>
  Q t88 h16) (
  Q (B false) h15)) (
  Q (B false) h14)) (
  Q (B false) h13)) (
  Q (B false) h13)) (
  Q (B false) h13)) (
  Q (B false) h13)) (
  Q (B false) h13))
def law10_TxnBad (a0 a1 : AV) (h : AHeap) (Q : QT) : Prop :=
  qBox a0 h fun t2 h0 =>
  C fn_law10_known [] h0 fun t12 h1 =>
  qUn .not t12 fun t13 =>
  ifB t13 (
  Q (B false) h1) (
  qFieldAddr 2 t2 fun t14 =>
  qLoad1 t14 h1 fun t15 =>
  qLenS t15 fun t16 =>
  qBin .gtr t16 (I 700) fun t17 =>
  ifB t17 (Q (B true) h1) (
  qFieldAddr 1 t2 fun t19 =>
  qLoad1 t19 h1 fun t20 =>
  qLenS t20 fun t21 =>
  qBin .gtr t21 (I 60) fun t22 =>
  ifB t22 (
  Q (B true) h1) (
  C fn_store_New [(I 100)] h1 fun t24 h2 =>
  C fn_incr_New [] h2 fun t25 h3 =>
  qBinP .eql t24 (.lit (.pointer none)) fun t27 =>
  ifB t27 (Q (B false) h3) (
  qBinP .eql t25 (.lit (.pointer none)) fun t30 =>
  ifB t30 (
  Q (B false) h3) (
  qLoadA 4 t2 h3 fun t32 =>
  C fn_ref9_Right [t32] h3 fun t33 h4 =>
  ifB t33 (
  C fn_law10_within [a1, (I 5)] h4 fun t35 h5 =>
  qBin .add (I 9) t35 fun t36 =>
  qFieldAddr 0 t2 fun t37 =>
  qStore 1 t37 t36 h5 fun h6 =>
  law10_TxnBad_j17 t25 t24 t2 h6 Q) (
  law10_TxnBad_j17 t25 t24 t2 h4 Q))))))
theorem law10_TxnBad_ok (a0 a1 : AV) (h : AHeap) (Q : QT) (k : law10_TxnBad a0 a1 h Q) : C fn_law10_TxnBad [a0, a1] h Q :=
  okF (pl := []) Tryz.func6 Tryz.ntmps6 (by kernel_rfl) (by kernel_rfl) rfl (by kernel_rfl) k
def law10_within_j0 (s5 : AV) (h : AHeap) (Q : QT) : Prop :=
  Q s5 h
def law10_within (a0 a1 : AV) (h : AHeap) (Q : QT) : Prop :=
  qBin .rem a0 a1 fun t8 =>
  qBin .lss t8 (I 0) fun t10 =>
  ifB t10 (
  qBin .add t8 a1 fun t13 =>
  law10_within_j0 t13 h Q) (
  law10_within_j0 t8 h Q)
theorem law10_within_ok (a0 a1 : AV) (h : AHeap) (Q : QT) (k : law10_within a0 a1 h Q) : C fn_law10_within [a0, a1] h Q :=
  okF (pl := []) Tryz.func19 Tryz.ntmps19 (by kernel_rfl) (by kernel_rfl) rfl (by kernel_rfl) k
def ref3_Word_j1 (s3 s2 s4 : AV) (h : AHeap) (next0 : NT) : Prop :=
  qBin .add s4 (I 1) fun t28 =>
  next0 [s2, s3, t28] h
def ref3_Word_b2 (s3 s2 s4 : AV) (h : AHeap) (next0 : NT) : Prop :=
  ref3_Word_j1 s3 s2 s4 h next0
def ref3_Word_c1 (t61 : AV) (vs0 : List AV) (h : AHeap) (next0 : NT) : Prop :=
  ifB t61 (
  ref3_Word_b2 (B false) (nthA vs0 0) (nthA vs0 2) h next0) (
  ref3_Word_b2 (nthA vs0 1) (nthA vs0 0) (nthA vs0 2) h next0)
def ref3_Word_c2 (vs0 : List AV) (h : AHeap) (next0 : NT) : Prop :=
  qBin .gtr (nthA vs0 2) (I 0) fun t58 =>
  ifB t58 (qUn .not (B false) fun t61 =>
  ref3_Word_c1 t61 vs0 h next0) (
  ref3_Word_b2 (nthA vs0 1) (nthA vs0 0) (nthA vs0 2) h next0)
def ref3_Word_c3 (vs0 : List AV) (t36 : AV) (h : AHeap) (next0 : NT) : Prop :=
  qBin .gtr (nthA vs0 2) (I 0) fun t58 =>
  ifB t58 (qUn .not t36 fun t61 =>
  ref3_Word_c1 t61 vs0 h next0) (
  ref3_Word_b2 (nthA vs0 1) (nthA vs0 0) (nthA vs0 2) h next0)
def ref3_Word_c4 (t44 t31 : AV) (vs0 : List AV) (Q : QT) (h : AHeap) (t36 : AV) (next0 : NT) : Prop :=
  ifB t44 (qBin .neq t31 (.lit (.int .u8 95)) fun t47 =>
  ifB t47 (qBin .eql (nthA vs0 2) (I 0) fun t51 =>
  ifT t51 (Q (B false) h) (
  qUn .not t36 fun t54 =>
  ifB t54 (
  Q (B false) h) (
  ref3_Word_c3 vs0 t36 h next0)) (
  ifB (.tup []) (Q (B false) h) (ifB (.tup []) (
  Q (B false) h) (
  ref3_Word_c3 vs0 t36 h next0)))) (
  ref3_Word_c3 vs0 t36 h next0)) (
  ref3_Word_c3 vs0 t36 h next0)
def ref3_Word_c5 (t44 t31 : AV) (vs0 : List AV) (Q : QT) (h : AHeap) (next0 : NT) : Prop :=
  ifB t44 (qBin .neq t31 (.lit (.int .u8 95)) fun t47 =>
  ifB t47 (qBin .eql (nthA vs0 2) (I 0) fun t51 =>
  ifT t51 (Q (B false) h) (
  qUn .not (B false) fun t54 =>
  ifB t54 (
  Q (B false) h) (
  ref3_Word_c2 vs0 h next0)) (
  ifB (.tup []) (Q (B false) h) (ifB (.tup []) (
  Q (B false) h) (
  ref3_Word_c2 vs0 h next0)))) (
  ref3_Word_c2 vs0 h next0)) (
  ref3_Word_c2 vs0 h next0)
def ref3_Word_l3 (s0 : AV) (Q : QT) (vs0 : List AV) (h : AHeap) (next0 : NT) : Prop :=
  qLenS s0 fun t25 =>
  qBin .lss (nthA vs0 2) t25 fun t26 =>
  ifB t26 (
  qIndexS s0 (nthA vs0 2) fun t31 =>
  qBin .geq t31 (.lit (.int .u8 48)) fun t33 =>
  ifB t33 (qBin .leq t31 (.lit (.int .u8 57)) fun t36 =>
  qBin .geq t31 (.lit (.int .u8 97)) fun t39 =>
  ifB t39 (qBin .leq t31 (.lit (.int .u8 122)) fun t42 =>
  qUn .not t42 fun t44 =>
  ref3_Word_c4 t44 t31 vs0 Q h t36 next0) (
  qUn .not (B false) fun t44 =>
  ref3_Word_c4 t44 t31 vs0 Q h t36 next0)) (
  qBin .geq t31 (.lit (.int .u8 97)) fun t39 =>
  ifB t39 (qBin .leq t31 (.lit (.int .u8 122)) fun t42 =>
  qUn .not t42 fun t44 =>
  ref3_Word_c5 t44 t31 vs0 Q h next0) (
  qUn .not (B false) fun t44 =>
  ref3_Word_c5 t44 t31 vs0 Q h next0))) (
  qUn .not (nthA vs0 1) fun t64 =>
  Q t64 h)
def ref3_Word_j5 (s3 s2 s4 : AV) (h : AHeap) (next4 : NT) : Prop :=
  qBin .add s4 (I 1) fun t28 =>
  next4 [s2, s3, t28] h
def ref3_Word_b6 (s3 s2 s4 : AV) (h : AHeap) (next4 : NT) : Prop :=
  ref3_Word_j5 s3 s2 s4 h next4
def ref3_Word_c6 (t61 : AV) (vs4 : List AV) (h : AHeap) (next4 : NT) : Prop :=
  ifB t61 (
  ref3_Word_b6 (B false) (nthA vs4 0) (nthA vs4 2) h next4) (
  ref3_Word_b6 (nthA vs4 1) (nthA vs4 0) (nthA vs4 2) h next4)
def ref3_Word_c7 (vs4 : List AV) (h : AHeap) (next4 : NT) : Prop :=
  qBin .gtr (nthA vs4 2) (I 0) fun t58 =>
  ifB t58 (qUn .not (B false) fun t61 =>
  ref3_Word_c6 t61 vs4 h next4) (
  ref3_Word_b6 (nthA vs4 1) (nthA vs4 0) (nthA vs4 2) h next4)
def ref3_Word_c8 (vs4 : List AV) (t36 : AV) (h : AHeap) (next4 : NT) : Prop :=
  qBin .gtr (nthA vs4 2) (I 0) fun t58 =>
  ifB t58 (qUn .not t36 fun t61 =>
  ref3_Word_c6 t61 vs4 h next4) (
  ref3_Word_b6 (nthA vs4 1) (nthA vs4 0) (nthA vs4 2) h next4)
def ref3_Word_c9 (t44 t31 : AV) (vs4 : List AV) (Q : QT) (h : AHeap) (t36 : AV) (next4 : NT) : Prop :=
  ifB t44 (qBin .neq t31 (.lit (.int .u8 95)) fun t47 =>
  ifB t47 (qBin .eql (nthA vs4 2) (I 0) fun t51 =>
  ifT t51 (Q (B false) h) (
  qUn .not t36 fun t54 =>
  ifB t54 (
  Q (B false) h) (
  ref3_Word_c8 vs4 t36 h next4)) (
  ifB (.tup []) (Q (B false) h) (ifB (.tup []) (
  Q (B false) h) (
  ref3_Word_c8 vs4 t36 h next4)))) (
  ref3_Word_c8 vs4 t36 h next4)) (
  ref3_Word_c8 vs4 t36 h next4)
def ref3_Word_c10 (t44 t31 : AV) (vs4 : List AV) (Q : QT) (h : AHeap) (next4 : NT) : Prop :=
  ifB t44 (qBin .neq t31 (.lit (.int .u8 95)) fun t47 =>
  ifB t47 (qBin .eql (nthA vs4 2) (I 0) fun t51 =>
  ifT t51 (Q (B false) h) (
  qUn .not (B false) fun t54 =>
  ifB t54 (
  Q (B false) h) (
  ref3_Word_c7 vs4 h next4)) (
  ifB (.tup []) (Q (B false) h) (ifB (.tup []) (
  Q (B false) h) (
  ref3_Word_c7 vs4 h next4)))) (
  ref3_Word_c7 vs4 h next4)) (
  ref3_Word_c7 vs4 h next4)
def ref3_Word_l7 (s0 : AV) (Q : QT) (vs4 : List AV) (h : AHeap) (next4 : NT) : Prop :=
  qLenS s0 fun t25 =>
  qBin .lss (nthA vs4 2) t25 fun t26 =>
  ifB t26 (
  qIndexS s0 (nthA vs4 2) fun t31 =>
  qBin .geq t31 (.lit (.int .u8 48)) fun t33 =>
  ifB t33 (qBin .leq t31 (.lit (.int .u8 57)) fun t36 =>
  qBin .geq t31 (.lit (.int .u8 97)) fun t39 =>
  ifB t39 (qBin .leq t31 (.lit (.int .u8 122)) fun t42 =>
  qUn .not t42 fun t44 =>
  ref3_Word_c9 t44 t31 vs4 Q h t36 next4) (
  qUn .not (B false) fun t44 =>
  ref3_Word_c9 t44 t31 vs4 Q h t36 next4)) (
  qBin .geq t31 (.lit (.int .u8 97)) fun t39 =>
  ifB t39 (qBin .leq t31 (.lit (.int .u8 122)) fun t42 =>
  qUn .not t42 fun t44 =>
  ref3_Word_c10 t44 t31 vs4 Q h next4) (
  qUn .not (B false) fun t44 =>
  ref3_Word_c10 t44 t31 vs4 Q h next4))) (
  qUn .not (nthA vs4 1) fun t64 =>
  Q t64 h)
def ref3_Word (a0 : AV) (h : AHeap) (Q : QT) : Prop :=
  qLenS a0 fun t8 =>
  qBin .lss t8 (I 1) fun t9 =>
  ifB t9 (Q (B false) h) (
  qLenS a0 fun t12 =>
  qBin .gtr t12 (I 12) fun t13 =>
  ifB t13 (
  Q (B false) h) (
  qIndexS a0 (I 0) fun t16 =>
  qBin .eql t16 (.lit (.int .u8 114)) fun t17 =>
  ifB t17 (qLenS a0 fun t20 =>
  qBin .gtr t20 (I 1) fun t21 =>
  Loop [(B false), t21, (I 0)] h fun vs0 h next0 => ref3_Word_l3 a0 Q vs0 h next0) (
  Loop [(B false), (B false), (I 0)] h fun vs4 h next4 => ref3_Word_l7 a0 Q vs4 h next4)))
theorem ref3_Word_ok (a0 : AV) (h : AHeap) (Q : QT) (k : ref3_Word a0 h Q) : C fn_ref3_Word [a0] h Q :=
  okF (pl := [(6, [2, 3, 4, 5, 6, 23, 24, 25, 26, 27, 28, 29, 30, 31, 32, 33, 34, 35, 36, 37, 38, 39, 40, 41, 42, 43, 44, 45, 46, 47, 48, 49, 50, 51, 52, 53, 54, 55, 56, 57, 58, 59, 60, 61, 62], [2, 3, 4])]) Tryz.func54 Tryz.ntmps54 (by kernel_rfl) (by kernel_rfl) rfl (by kernel_rfl) k
def ref4_Word (a0 : AV) (h : AHeap) (Q : QT) : Prop :=
  C fn_ref3_Word [a0] h fun t4 h0 =>
  Q t4 h0
theorem ref4_Word_ok (a0 : AV) (h : AHeap) (Q : QT) (k : ref4_Word a0 h Q) : C fn_ref4_Word [a0] h Q :=
  okF (pl := []) Tryz.func37 Tryz.ntmps37 (by kernel_rfl) (by kernel_rfl) rfl (by kernel_rfl) k
def ref9_Right_c2 (t1 : AV) (h1 : AHeap) (Q : QT) : Prop :=
  qFieldAddr 0 t1 fun t52 =>
  qLoad1 t52 h1 fun t53 =>
  qBin .neq t53 (I 5) fun t54 =>
  ifB t54 (
  qFieldAddr 3 t1 fun t55 =>
  qLoad1 t55 h1 fun t56 =>
  qBin .eql t56 (I 0) fun t57 =>
  Q t57 h1) (
  qFieldAddr 3 t1 fun t58 =>
  qLoad1 t58 h1 fun t59 =>
  qBin .geq t59 (I (-1099511627776)) fun t60 =>
  ifB t60 (qFieldAddr 3 t1 fun t62 =>
  qLoad1 t62 h1 fun t63 =>
  qBin .leq t63 (I 1099511627776) fun t64 =>
  Q t64 h1) (
  Q (B false) h1))
def ref9_Right_c1 (t45 t1 : AV) (h1 : AHeap) (Q : QT) : Prop :=
  ifT t45 (qFieldAddr 2 t1 fun t47 =>
  qLoad1 t47 h1 fun t48 =>
  qBin .neq t48 (S ⟨#[]⟩) fun t49 =>
  ifB t49 (
  Q (B false) h1) (
  ref9_Right_c2 t1 h1 Q)) (
  ref9_Right_c2 t1 h1 Q) (
  ifB (.tup []) (ifB (.tup []) (
  Q (B false) h1) (
  ref9_Right_c2 t1 h1 Q)) (ref9_Right_c2 t1 h1 Q))
def ref9_Right_c3 (t1 : AV) (h1 : AHeap) (Q : QT) : Prop :=
  qFieldAddr 0 t1 fun t31 =>
  qLoad1 t31 h1 fun t32 =>
  qBin .eql t32 (I 1) fun t33 =>
  ifB t33 (qFieldAddr 2 t1 fun t39 =>
  qLoad1 t39 h1 fun t40 =>
  qLenS t40 fun t41 =>
  qBin .gtr t41 (I 600) fun t42 =>
  ifB t42 (Q (B false) h1) (
  qUn .not (B true) fun t45 =>
  ref9_Right_c1 t45 t1 h1 Q)) (
  qFieldAddr 0 t1 fun t35 =>
  qLoad1 t35 h1 fun t36 =>
  qBin .eql t36 (I 3) fun t37 =>
  qFieldAddr 2 t1 fun t39 =>
  qLoad1 t39 h1 fun t40 =>
  qLenS t40 fun t41 =>
  qBin .gtr t41 (I 600) fun t42 =>
  ifB t42 (Q (B false) h1) (
  qUn .not t37 fun t45 =>
  ref9_Right_c1 t45 t1 h1 Q))
def ref9_Right (a0 : AV) (h : AHeap) (Q : QT) : Prop :=
  qBox a0 h fun t1 h0 =>
  qFieldAddr 0 t1 fun t4 =>
  qLoad1 t4 h0 fun t5 =>
  qBin .lss t5 (I 1) fun t6 =>
  ifB t6 (Q (B false) h0) (
  qFieldAddr 0 t1 fun t8 =>
  qLoad1 t8 h0 fun t9 =>
  qBin .gtr t9 (I 7) fun t10 =>
  ifB t10 (Q (B false) h0) (
  qFieldAddr 1 t1 fun t13 =>
  qLoad1 t13 h0 fun t14 =>
  qFieldAddr 0 t1 fun t16 =>
  qLoad1 t16 h0 fun t17 =>
  qBin .neq t17 (I 7) fun t18 =>
  C fn_ref4_Word [t14] h0 fun t15 h1 =>
  (qLoad1 t16 h1 fun _t =>
  _t = t17) ∧
  qBinB .neq t15 t18 fun t19 =>
  ifB t19 (Q (B false) h1) (
  qFieldAddr 0 t1 fun t22 =>
  qLoad1 t22 h1 fun t23 =>
  qBin .eql t23 (I 7) fun t24 =>
  ifT t24 (qFieldAddr 1 t1 fun t26 =>
  qLoad1 t26 h1 fun t27 =>
  qBin .neq t27 (S ⟨#[]⟩) fun t28 =>
  ifB t28 (
  Q (B false) h1) (
  ref9_Right_c3 t1 h1 Q)) (
  ref9_Right_c3 t1 h1 Q) (
  ifB (.tup []) (ifB (.tup []) (
  Q (B false) h1) (
  ref9_Right_c3 t1 h1 Q)) (ref9_Right_c3 t1 h1 Q)))))
theorem ref9_Right_ok (a0 : AV) (h : AHeap) (Q : QT) (k : ref9_Right a0 h Q) : C fn_ref9_Right [a0] h Q :=
  okF (pl := [(1000001, [0, 1, 2, 3, 4, 5, 6, 7, 8, 9, 10, 12, 13, 14, 11, 15, 16, 17, 18, 19, 20, 21, 22, 23, 24, 25, 26], [])]) Tryz.func24 Tryz.ntmps24 (by kernel_rfl) (by kernel_rfl) rfl (by kernel_rfl) k
def store_New (a0 : AV) (h : AHeap) (Q : QT) : Prop :=
  qMakeMap h fun t3 h0 =>
  qMakeMap h0 fun t5 h1 =>
  qBuild [(.lit (.map none)), (I 0), (I 0), (.lit (.map none))] [(0, 1, t3), (1, 1, a0), (3, 1, t5)] fun t6 =>
  qBox t6 h1 fun t7 h2 =>
  Q t7 h2
theorem store_New_ok (a0 : AV) (h : AHeap) (Q : QT) (k : store_New a0 h Q) : C fn_store_New [a0] h Q :=
  okF (pl := []) Tryz.func15 Tryz.ntmps15 (by kernel_rfl) (by kernel_rfl) rfl (by kernel_rfl) k
def store_Store_Changed (a0 a1 a2 : AV) (h : AHeap) (Q : QT) : Prop :=
  qNil a0 fun t9 =>
  qFieldAddr 3 t9 fun t10 =>
  qLoad1 t10 h fun t11 =>
  qLookup .string false (.full 0 []) t11 a1 h fun t13 =>
  qLenL t13 fun t15 =>
  qBin .gtr t15 (I 0) fun t16 =>
  ifB t16 (qLenL t13 fun t20 =>
  qBin .sub t20 (I 1) fun t21 =>
  qIndexAddr 4 t13 t21 fun t22 =>
  qFieldAddr 3 t22 fun t23 =>
  qLoad1 t23 h fun t24 =>
  qBin .gtr t24 a2 fun t26 =>
  Q t26 h) (
  Q (B false) h)
theorem store_Store_Changed_ok (a0 a1 a2 : AV) (h : AHeap) (Q : QT) (k : store_Store_Changed a0 a1 a2 h Q) : C fn_store_Store_Changed [a0, a1, a2] h Q :=
  okF (pl := []) Tryz.func69 Tryz.ntmps69 (by kernel_rfl) (by kernel_rfl) rfl (by kernel_rfl) k
def store_Store_Count (a0 : AV) (h : AHeap) (Q : QT) : Prop :=
  CV (.fn (.func fn_store_Store_total) [] []) [a0, (.fn (.func fn_store_length) [] [])] h fun t6 h0 =>
  Q t6 h0
theorem store_Store_Count_ok (a0 : AV) (h : AHeap) (Q : QT) (k : store_Store_Count a0 h Q) : C fn_store_Store_Count [a0] h Q :=
  okF (pl := []) Tryz.func25 Tryz.ntmps25 (by kernel_rfl) (by kernel_rfl) rfl (by kernel_rfl) k
def store_Store_Now (a0 : AV) (h : AHeap) (Q : QT) : Prop :=
  qNil a0 fun t4 =>
  qFieldAddr 2 t4 fun t5 =>
  qLoad1 t5 h fun t6 =>
  Q t6 h
theorem store_Store_Now_ok (a0 : AV) (h : AHeap) (Q : QT) (k : store_Store_Now a0 h Q) : C fn_store_Store_Now [a0] h Q :=
  okF (pl := []) Tryz.func23 Tryz.ntmps23 (by kernel_rfl) (by kernel_rfl) rfl (by kernel_rfl) k
def store_Store_total_l4 (s12 s1 : AV) (Q : QT) (vs1 : List AV) (h : AHeap) (next1 : NT) : Prop :=
  qNextM s12 h fun t13 h2 =>
  qExtract 0 t13 fun t14 =>
  ifB t14 (
  qEntry s12 h2 fun t15 =>
  qExtract 1 t15 fun t16 =>
  CV s1 [t16] h2 fun t20 h3 =>
  qBin .add (nthA vs1 0) t20 fun t21 =>
  next1 [t21] h3) (
  Q (nthA vs1 0) h2)
def store_Store_total (a0 a1 : AV) (h : AHeap) (Q : QT) : Prop :=
  qNil a0 fun t9 =>
  qFieldAddr 3 t9 fun t10 =>
  qLoad1 t10 h fun t11 =>
  qRangeM t11 h fun t12 h0 =>
  Loop [(I 0)] h0 fun vs1 h next1 => store_Store_total_l4 t12 a1 Q vs1 h next1
theorem store_Store_total_ok (a0 a1 : AV) (h : AHeap) (Q : QT) (k : store_Store_total a0 a1 h Q) : C fn_store_Store_total [a0, a1] h Q :=
  okF (pl := [(4, [5, 7, 13, 14, 15, 16, 17, 18, 19, 20, 21], [5])]) Tryz.func38 Tryz.ntmps38 (by kernel_rfl) (by kernel_rfl) rfl (by kernel_rfl) k
def store_length (a0 : AV) (h : AHeap) (Q : QT) : Prop :=
  qLenL a0 fun t4 =>
  Q t4 h
theorem store_length_ok (a0 : AV) (h : AHeap) (Q : QT) (k : store_length a0 h Q) : C fn_store_length [a0] h Q :=
  okF (pl := []) Tryz.func39 Tryz.ntmps39 (by kernel_rfl) (by kernel_rfl) rfl (by kernel_rfl) k
def store_pins_least_l3 (s7 : AV) (Q : QT) (vs1 : List AV) (h : AHeap) (next1 : NT) : Prop :=
  qNextM s7 h fun t8 h2 =>
  qExtract 0 t8 fun t9 =>
  ifB t9 (
  qEntry s7 h2 fun t10 =>
  qExtract 0 t10 fun t11 =>
  qMin (nthA vs1 0) t11 fun t14 =>
  next1 [t14] h2) (
  Q (nthA vs1 0) h2)
def store_pins_least (a0 a1 : AV) (h : AHeap) (Q : QT) : Prop :=
  qRangeM a0 h fun t7 h0 =>
  Loop [a1] h0 fun vs1 h next1 => store_pins_least_l3 t7 Q vs1 h next1
theorem store_pins_least_ok (a0 a1 : AV) (h : AHeap) (Q : QT) (k : store_pins_least a0 a1 h Q) : C fn_store_pins_least [a0, a1] h Q :=
  okF (pl := [(3, [1, 5, 8, 9, 10, 11, 12, 13, 14], [1])]) Tryz.func76 Tryz.ntmps76 (by kernel_rfl) (by kernel_rfl) rfl (by kernel_rfl) k
def txn_Begin (a0 a1 a2 : AV) (h : AHeap) (Q : QT) : Prop :=
  qBox a2 h fun t5 h0 =>
  qLoadA 4 t5 h0 fun t9 =>
  qBuild [(.lit (.pointer none)), (.lit (.pointer none)), (I 0), (S ⟨#[]⟩), (S ⟨#[]⟩), (I 0), (I 0), (B false), (B false), (I 0), (.full 0 []), (.lit (.map none))] [(0, 1, a0), (1, 1, a1), (2, 4, t9)] fun t10 =>
  qBox t10 h0 fun t11 h1 =>
  Q t11 h1
theorem txn_Begin_ok (a0 a1 a2 : AV) (h : AHeap) (Q : QT) (k : txn_Begin a0 a1 a2 h Q) : C fn_txn_Begin [a0, a1, a2] h Q :=
  okF (pl := []) Tryz.func18 Tryz.ntmps18 (by kernel_rfl) (by kernel_rfl) rfl (by kernel_rfl) k
def txn_Txn_Step_j14 (s2 s0 : AV) (h : AHeap) (Q : QT) : Prop :=
  qNil s0 fun t33 =>
  qFieldAddr 10 t33 fun t34 =>
  qLoad1 t34 h fun t35 =>
  qLenL t35 fun t36 =>
  qBin .gtr t36 (I 0) fun t37 =>
  ifB t37 (
  CV (.fn (.func fn_txn_Txn_read) [] []) [s0] h fun t40 h8 =>
  qBuild [(I 0), (S ⟨#[]⟩), (.full 0 []), (.full 0 []), (I 0), (B false)] [] fun t41 =>
  qStore 6 s2 t41 h8 fun h9 =>
  qLoadA 6 s2 h9 fun r10 =>
  Q (.tup [r10, (B false)]) h9) (
  C fn_txn_Txn_last [s0] h fun t43 h11 =>
  qExtract 0 t43 fun t44 =>
  qExtract 1 t43 fun t45 =>
  qStore 6 s2 t44 h11 fun h12 =>
  qLoadA 6 s2 h12 fun r13 =>
  Q (.tup [r13, t45]) h12)
def txn_Txn_Step_b15 (s2 s0 : AV) (h : AHeap) (Q : QT) : Prop :=
  txn_Txn_Step_j14 s2 s0 h Q
def txn_Txn_Step (a0 : AV) (h : AHeap) (Q : QT) : Prop :=
  qNew [(I 0), (S ⟨#[]⟩), (.full 0 []), (.full 0 []), (I 0), (B false)] h fun t2 h0 =>
  qNil a0 fun t7 =>
  qFieldAddr 8 t7 fun t8 =>
  qLoad1 t8 h0 fun t9 =>
  ifB t9 (
  qBuild [(I 0), (S ⟨#[]⟩), (.full 0 []), (.full 0 []), (I 0), (B false)] [] fun t10 =>
  qStore 6 t2 t10 h0 fun h1 =>
  qLoadA 6 t2 h1 fun r2 =>
  Q (.tup [r2, (B false)]) h1) (
  qNil a0 fun t13 =>
  qFieldAddr 2 t13 fun t14 =>
  qLoadA 4 t14 h0 fun t15 =>
  C fn_work_Right [t15] h0 fun t16 h3 =>
  qUn .not t16 fun t17 =>
  ifB t17 (
  qBuild [(I 0), (S ⟨#[]⟩), (.full 0 []), (.full 0 [])] [(0, 1, (I 12))] fun t19 =>
  qBuild [(I 0), (S ⟨#[]⟩), (.full 0 []), (.full 0 []), (I 0), (B false)] [(0, 4, t19)] fun t20 =>
  C fn_txn_Txn_told [a0, t20] h3 fun t21 h4 =>
  qExtract 0 t21 fun t22 =>
  qExtract 1 t21 fun t23 =>
  qStore 6 t2 t22 h4 fun h5 =>
  qLoadA 6 t2 h5 fun r6 =>
  Q (.tup [r6, t23]) h5) (
  qNil a0 fun t26 =>
  qFieldAddr 7 t26 fun t27 =>
  qLoad1 t27 h3 fun t28 =>
  qUn .not t28 fun t29 =>
  ifB t29 (
  C fn_txn_Txn_begin [a0] h3 fun t31 h7 =>
  txn_Txn_Step_b15 t2 a0 h7 Q) (
  txn_Txn_Step_b15 t2 a0 h3 Q)))
theorem txn_Txn_Step_ok (a0 : AV) (h : AHeap) (Q : QT) (k : txn_Txn_Step a0 h Q) : C fn_txn_Txn_Step [a0] h Q :=
  okF (pl := []) Tryz.func20 Tryz.ntmps20 (by kernel_rfl) (by kernel_rfl) rfl (by kernel_rfl) k
def txn_Txn_Tries (a0 : AV) (h : AHeap) (Q : QT) : Prop :=
  qNil a0 fun t4 =>
  qFieldAddr 6 t4 fun t5 =>
  qLoad1 t5 h fun t6 =>
  Q t6 h
theorem txn_Txn_Tries_ok (a0 : AV) (h : AHeap) (Q : QT) (k : txn_Txn_Tries a0 h Q) : C fn_txn_Txn_Tries [a0] h Q :=
  okF (pl := []) Tryz.func21 Tryz.ntmps21 (by kernel_rfl) (by kernel_rfl) rfl (by kernel_rfl) k
def txn_Txn_changed_l4 (s8 s0 : AV) (Q : QT) (vs1 : List AV) (h : AHeap) (next1 : NT) : Prop :=
  qNextM s8 h fun t9 h2 =>
  qExtract 0 t9 fun t10 =>
  ifB t10 (
  qEntry s8 h2 fun t11 =>
  qExtract 0 t11 fun t12 =>
  qNil s0 fun t14 =>
  qFieldAddr 0 t14 fun t15 =>
  qLoad1 t15 h2 fun t16 =>
  qNil s0 fun t19 =>
  qFieldAddr 9 t19 fun t20 =>
  qLoad1 t20 h2 fun t21 =>
  C fn_store_Store_Changed [t16, t12, t21] h2 fun t22 h3 =>
  ifB t22 (
  Q (B true) h3) (
  next1 [(nthA vs1 0)] h3)) (
  Q (B false) h2)
def txn_Txn_changed (a0 : AV) (h : AHeap) (Q : QT) : Prop :=
  qNil a0 fun t5 =>
  qFieldAddr 11 t5 fun t6 =>
  qLoad1 t6 h fun t7 =>
  qRangeM t7 h fun t8 h0 =>
  Loop [(B false)] h0 fun vs1 h next1 => txn_Txn_changed_l4 t8 a0 Q vs1 h next1
theorem txn_Txn_changed_ok (a0 : AV) (h : AHeap) (Q : QT) (k : txn_Txn_changed a0 h Q) : C fn_txn_Txn_changed [a0] h Q :=
  okF (pl := [(3, [2, 3, 9, 10, 11, 12, 13, 14, 15, 16, 17, 18, 19, 20, 21, 22], [2]), (1000004, [0, 1, 2, 3, 4, 5, 6, 7, 8, 9], [])]) Tryz.func52 Tryz.ntmps52 (by kernel_rfl) (by kernel_rfl) rfl (by kernel_rfl) k
def txn_Txn_told (a0 a1 : AV) (h : AHeap) (Q : QT) : Prop :=
  qBox a1 h fun t3 h0 =>
  qNew [(I 0), (S ⟨#[]⟩), (.full 0 []), (.full 0 []), (I 0), (B false)] h0 fun t4 h1 =>
  qNil a0 fun t7 =>
  qFieldAddr 8 t7 fun t8 =>
  qStore 1 t8 (B true) h1 fun h2 =>
  qLoadA 6 t3 h2 fun t9 =>
  qStore 6 t4 t9 h2 fun h3 =>
  qLoadA 6 t4 h3 fun r4 =>
  Q (.tup [r4, (B true)]) h3
theorem txn_Txn_told_ok (a0 a1 : AV) (h : AHeap) (Q : QT) (k : txn_Txn_told a0 a1 h Q) : C fn_txn_Txn_told [a0, a1] h Q :=
  okF (pl := []) Tryz.func32 Tryz.ntmps32 (by kernel_rfl) (by kernel_rfl) rfl (by kernel_rfl) k
def work_Right (a0 : AV) (h : AHeap) (Q : QT) : Prop :=
  qBox a0 h fun t1 h0 =>
  qFieldAddr 0 t1 fun t3 =>
  qLoad1 t3 h0 fun t4 =>
  qBin .lss t4 (I 1) fun t5 =>
  ifB t5 (Q (B false) h0) (
  qFieldAddr 0 t1 fun t7 =>
  qLoad1 t7 h0 fun t8 =>
  qBin .gtr t8 (I 7) fun t9 =>
  ifB t9 (
  Q (B false) h0) (
  qFieldAddr 0 t1 fun t11 =>
  qLoad1 t11 h0 fun t12 =>
  qBin .eql t12 (I 7) fun t13 =>
  ifB t13 (
  qLoadA 4 t1 h0 fun t14 =>
  qBuild [(I 0), (S ⟨#[]⟩), (S ⟨#[]⟩), (I 0)] [(0, 1, (I 7))] fun t15 =>
  qEqS .eql [(.int .i64), .string, .string, (.int .i64)] t14 t15 fun t16 =>
  Q t16 h0) (
  qFieldAddr 1 t1 fun t17 =>
  qLoad1 t17 h0 fun t18 =>
  C fn_line_Word [t18] h0 fun t19 h1 =>
  qUn .not t19 fun t20 =>
  ifB t20 (Q (B false) h1) (
  qFieldAddr 2 t1 fun t22 =>
  qLoad1 t22 h1 fun t23 =>
  qLenS t23 fun t24 =>
  qBin .gtr t24 (I 600) fun t25 =>
  ifB t25 (Q (B false) h1) (
  qFieldAddr 2 t1 fun t28 =>
  qLoad1 t28 h1 fun t29 =>
  qBin .neq t29 (S ⟨#[]⟩) fun t30 =>
  ifT t30 (qFieldAddr 0 t1 fun t32 =>
  qLoad1 t32 h1 fun t33 =>
  C fn_work_writes [t33] h1 fun t34 h2 =>
  qUn .not t34 fun t35 =>
  ifB t35 (
  Q (B false) h2) (
  qFieldAddr 3 t1 fun t38 =>
  qLoad1 t38 h2 fun t39 =>
  qBin .geq t39 (I (-1099511627776)) fun t40 =>
  ifB t40 (qFieldAddr 3 t1 fun t42 =>
  qLoad1 t42 h2 fun t43 =>
  qBin .leq t43 (I 1099511627776) fun t44 =>
  ifB t44 (qFieldAddr 3 t1 fun t47 =>
  qLoad1 t47 h2 fun t48 =>
  qBin .eql t48 (I 0) fun t49 =>
  ifT t49 (Q (B true) h2) (
  qFieldAddr 0 t1 fun t51 =>
  qLoad1 t51 h2 fun t52 =>
  C fn_work_defines [t52] h2 fun t53 h3 =>
  Q t53 h3) (
  ifB (.tup []) (Q (B true) h2) (Q (.tup []) h2))) (
  Q (B false) h2)) (
  Q (B false) h2))) (
  qFieldAddr 3 t1 fun t38 =>
  qLoad1 t38 h1 fun t39 =>
  qBin .geq t39 (I (-1099511627776)) fun t40 =>
  ifB t40 (qFieldAddr 3 t1 fun t42 =>
  qLoad1 t42 h1 fun t43 =>
  qBin .leq t43 (I 1099511627776) fun t44 =>
  ifB t44 (qFieldAddr 3 t1 fun t47 =>
  qLoad1 t47 h1 fun t48 =>
  qBin .eql t48 (I 0) fun t49 =>
  ifT t49 (Q (B true) h1) (
  qFieldAddr 0 t1 fun t51 =>
  qLoad1 t51 h1 fun t52 =>
  C fn_work_defines [t52] h1 fun t53 h4 =>
  Q t53 h4) (
  ifB (.tup []) (Q (B true) h1) (Q (.tup []) h1))) (
  Q (B false) h1)) (
  Q (B false) h1)) (
  ifB (.tup []) (ifB (.tup []) (
  Q (B false) h1) (
  qFieldAddr 3 t1 fun t38 =>
  qLoad1 t38 h1 fun t39 =>
  qBin .geq t39 (I (-1099511627776)) fun t40 =>
  ifB t40 (qFieldAddr 3 t1 fun t42 =>
  qLoad1 t42 h1 fun t43 =>
  qBin .leq t43 (I 1099511627776) fun t44 =>
  ifB t44 (qFieldAddr 3 t1 fun t47 =>
  qLoad1 t47 h1 fun t48 =>
  qBin .eql t48 (I 0) fun t49 =>
  ifT t49 (Q (B true) h1) (
  qFieldAddr 0 t1 fun t51 =>
  qLoad1 t51 h1 fun t52 =>
  C fn_work_defines [t52] h1 fun t53 h5 =>
  Q t53 h5) (
  ifB (.tup []) (Q (B true) h1) (Q (.tup []) h1))) (
  Q (B false) h1)) (
  Q (B false) h1))) (qFieldAddr 3 t1 fun t38 =>
  qLoad1 t38 h1 fun t39 =>
  qBin .geq t39 (I (-1099511627776)) fun t40 =>
  ifB t40 (qFieldAddr 3 t1 fun t42 =>
  qLoad1 t42 h1 fun t43 =>
  qBin .leq t43 (I 1099511627776) fun t44 =>
  ifB t44 (qFieldAddr 3 t1 fun t47 =>
  qLoad1 t47 h1 fun t48 =>
  qBin .eql t48 (I 0) fun t49 =>
  ifT t49 (Q (B true) h1) (
  qFieldAddr 0 t1 fun t51 =>
  qLoad1 t51 h1 fun t52 =>
  C fn_work_defines [t52] h1 fun t53 h6 =>
  Q t53 h6) (
  ifB (.tup []) (Q (B true) h1) (Q (.tup []) h1))) (
  Q (B false) h1)) (
  Q (B false) h1))))))))
theorem work_Right_ok (a0 : AV) (h : AHeap) (Q : QT) (k : work_Right a0 h Q) : C fn_work_Right [a0] h Q :=
  okF (pl := []) Tryz.func31 Tryz.ntmps31 (by kernel_rfl) (by kernel_rfl) rfl (by kernel_rfl) k
def work_defines (a0 : AV) (h : AHeap) (Q : QT) : Prop :=
  qBin .eql a0 (I 5) fun t4 =>
  Q t4 h
theorem work_defines_ok (a0 : AV) (h : AHeap) (Q : QT) (k : work_defines a0 h Q) : C fn_work_defines [a0] h Q :=
  okF (pl := []) Tryz.func44 Tryz.ntmps44 (by kernel_rfl) (by kernel_rfl) rfl (by kernel_rfl) k
def work_writes (a0 : AV) (h : AHeap) (Q : QT) : Prop :=
  qBin .eql a0 (I 1) fun t4 =>
  ifB t4 (Q (B true) h) (
  qBin .eql a0 (I 3) fun t7 =>
  Q t7 h)
theorem work_writes_ok (a0 : AV) (h : AHeap) (Q : QT) (k : work_writes a0 h Q) : C fn_work_writes [a0] h Q :=
  okF (pl := []) Tryz.func43 Tryz.ntmps43 (by kernel_rfl) (by kernel_rfl) rfl (by kernel_rfl) k
end
end Go.Proofs.YtamfimhaimaeiaaGreatDoor.AL
