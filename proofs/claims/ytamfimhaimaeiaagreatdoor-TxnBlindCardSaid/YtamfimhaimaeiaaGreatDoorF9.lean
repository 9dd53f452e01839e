import Derived.Test.YtamfimhaimaeiaaGreatDoorF5
set_option linter.all false
set_option autoImplicit true
set_option relaxedAutoImplicit true
set_option maxRecDepth 100000
namespace Go.Proofs.YtamfimhaimaeiaaGreatDoor.AL
noncomputable section
open Go.Proofs
variable [Tabs]
abbrev fn_strconv_Itoa : Nat := 67
abbrev fn_txn_Txn_build : Nat := 50
def incr_New (h : AHeap) (Q : QT) : Prop :=
  qMakeMap h fun t1 h0 =>
  qBuild [(.lit (.map none)), (.full 0 []), (I 0)] [(0, 1, t1)] fun t2 =>
  qBox t2 h0 fun t3 h1 =>
  Q t3 h1
theorem incr_New_ok (h : AHeap) (Q : QT) (k : incr_New  h Q) : C fn_incr_New [] h Q :=
  okF (pl := []) Tryz.func16 Tryz.ntmps16 (by kernel_rfl) (by kernel_rfl) rfl (by kernel_rfl) k
def law10_TxnBlind_j15 (s15 s6 s12 s13 s14 s10 : AV) (h : AHeap) (next9 : NT) (Q : QT) : Prop :=
  qIndexAddrA 2 1 s10 s15 fun t89 =>
  qLoad1 t89 h fun t90 =>
  C fn_txn_Txn_Step [t90] h fun t91 h11 =>
  qExtract 0 t91 fun t92 =>
  qExtract 1 t91 fun t93 =>
  qNew [(I 0), (S ⟨#[]⟩), (.full 0 []), (.full 0 []), (I 0), (B false)] h11 fun t16 h12 =>
  qStore 6 t16 t92 h12 fun h13 =>
  ifB t93 (
  qBin .add s13 (I 1) fun t96 =>
  qFieldAddr 0 t16 fun t98 =>
  qFieldAddr 0 t98 fun t99 =>
  qLoad1 t99 h13 fun t100 =>
  qBin .neq t100 (I 0) fun t101 =>
  ifB t101 (Q (B false) h13) (
  qFieldAddr 5 t16 fun t103 =>
  qLoad1 t103 h13 fun t104 =>
  qUn .not t104 fun t105 =>
  ifB t105 (Q (B false) h13) (
  qIndexAddrA 2 1 s10 s15 fun t109 =>
  qLoad1 t109 h13 fun t110 =>
  C fn_txn_Txn_Tries [t110] h13 fun t111 h14 =>
  qBin .neq t111 (I 1) fun t112 =>
  ifB t112 (
  Q (B false) h14) (
  qBin .add s14 (I 1) fun t71 =>
  next9 [s6, s15, t96, t71] h14)))) (
  qBin .add s14 (I 1) fun t71 =>
  next9 [s6, s12, s13, t71] h13)
def law10_TxnBlind_c1 (t118 : AV) (vs9 : List AV) (s9 : AV) (h17 : AHeap) (Q : QT) : Prop :=
  qExtract 0 t118 fun t119 =>
  qExtract 1 t118 fun t120 =>
  qBin .eql (nthA vs9 2) (I 2) fun t122 =>
  ifB t122 (ifB t120 (qIndexAddr 1 s9 (nthA vs9 1) fun t130 =>
  qLoad1 t130 h17 fun t131 =>
  qBin .eql t119 t131 fun t132 =>
  Q t132 h17) (
  Q (B false) h17)) (
  Q (B false) h17)
def law10_TxnBlind_l20 (s10 s9 s7 s0 : AV) (Q : QT) (vs9 : List AV) (h : AHeap) (next9 : NT) : Prop :=
  qBin .lss (nthA vs9 3) (I 20) fun t65 =>
  ifB t65 (qBin .lss (nthA vs9 2) (I 2) fun t68 =>
  ifB t68 (
  qBin .rem (nthA vs9 3) (I 2) fun t73 =>
  qLenL s0 fun t76 =>
  qBin .lss (nthA vs9 3) t76 fun t77 =>
  ifB t77 (qBin .lss (nthA vs9 3) (I 8) fun t80 =>
  ifB t80 (
  qIndexAddr 1 s0 (nthA vs9 3) fun t84 =>
  qLoad1 t84 h fun t85 =>
  C fn_law10_within [t85, (I 2)] h fun t86 h10 =>
  law10_TxnBlind_j15 t86 (nthA vs9 0) (nthA vs9 1) (nthA vs9 2) (nthA vs9 3) s10 h10 next9 Q) (
  law10_TxnBlind_j15 t73 (nthA vs9 0) (nthA vs9 1) (nthA vs9 2) (nthA vs9 3) s10 h next9 Q)) (
  law10_TxnBlind_j15 t73 (nthA vs9 0) (nthA vs9 1) (nthA vs9 2) (nthA vs9 3) s10 h next9 Q)) (
  C fn_store_Store_Now [s7] h fun t117 h16 =>
  C fn_store_Store_Read [s7, (S ⟨#[102, 109]⟩), t117] h16 fun t118 h17 =>
  law10_TxnBlind_c1 t118 vs9 s9 h17 Q)) (
  C fn_store_Store_Now [s7] h fun t117 h18 =>
  C fn_store_Store_Read [s7, (S ⟨#[102, 109]⟩), t117] h18 fun t118 h19 =>
  law10_TxnBlind_c1 t118 vs9 s9 h19 Q)
def law10_TxnBlind_l21 (s10 s9 s8 s7 s0 : AV) (Q : QT) (vs6 : List AV) (h : AHeap) (next6 : NT) : Prop :=
  qBin .lss (nthA vs6 1) (I 2) fun t47 =>
  ifB t47 (
  qIndexAddr 1 s9 (nthA vs6 1) fun t55 =>
  qLoad1 t55 h fun t56 =>
  qBuild [(I 0), (S ⟨#[]⟩), (S ⟨#[]⟩), (I 0)] [(0, 1, (I 1)), (1, 1, (S ⟨#[109]⟩)), (2, 1, t56)] fun t57 =>
  C fn_txn_Begin [s7, s8, t57] h fun t58 h7 =>
  qIndexAddrA 2 1 s10 (nthA vs6 1) fun t59 =>
  qStore 1 t59 t58 h7 fun h8 =>
  qIndexAddrA 2 1 s10 (nthA vs6 1) fun t61 =>
  qLoad1 t61 h8 fun t62 =>
  qBinP .eql t62 (.lit (.pointer none)) fun t63 =>
  ifB t63 (
  Q (B false) h8) (
  qBin .add (nthA vs6 1) (I 1) fun t49 =>
  next6 [(nthA vs6 0), t49] h8)) (
  Loop [(nthA vs6 0), (I 0), (I 0), (I 0)] h fun vs9 h next9 => law10_TxnBlind_l20 s10 s9 s7 s0 Q vs9 h next9)
def law10_TxnBlind (a0 a1 a2 : AV) (h : AHeap) (Q : QT) : Prop :=
  C fn_law10_known [] h fun t20 h0 =>
  qUn .not t20 fun t21 =>
  ifB t21 (
  Q (B false) h0) (
  qLenS a1 fun t23 =>
  qBin .gtr t23 (I 300) fun t24 =>
  ifB t24 (Q (B true) h0) (
  qLenS a2 fun t27 =>
  qBin .gtr t27 (I 300) fun t28 =>
  ifB t28 (
  Q (B true) h0) (
  C fn_store_New [(I 1000)] h0 fun t30 h1 =>
  C fn_incr_New [] h1 fun t31 h2 =>
  qBinP .eql t30 (.lit (.pointer none)) fun t33 =>
  ifB t33 (Q (B false) h2) (
  qBinP .eql t31 (.lit (.pointer none)) fun t36 =>
  ifB t36 (
  Q (B false) h2) (
  qBuild [(I 0), (S ⟨#[]⟩), (S ⟨#[]⟩), (I 0)] [(0, 1, (I 1)), (1, 1, (S ⟨#[109]⟩)), (2, 1, (S ⟨#[111, 108, 100]⟩))] fun t40 =>
  C fn_txn_Begin [t30, t31, t40] h2 fun t41 h3 =>
  C fn_law10_finish [t41] h3 fun t42 h4 =>
  qBuildSlice 2 1 [a1, a2] fun t45 =>
  qNew [(.lit (.pointer none)), (.lit (.pointer none))] h4 fun t10 h5 =>
  Loop [(B false), (I 0)] h5 fun vs6 h next6 => law10_TxnBlind_l21 t10 t45 t31 t30 a0 Q vs6 h next6)))))
theorem law10_TxnBlind_ok (a0 a1 a2 : AV) (h : AHeap) (Q : QT) (k : law10_TxnBlind a0 a1 a2 h Q) : C fn_law10_TxnBlind [a0, a1, a2] h Q :=
  okF (pl := [(13, [6, 11, 46, 47, 48, 49, 50, 51, 52, 53, 54, 55, 56, 57, 58, 59, 60, 61, 62, 63], [6, 11]), (20, [6, 12, 13, 14, 15, 16, 17, 64, 65, 66, 67, 68, 69, 70, 71, 72, 73, 74, 75, 76, 77, 78, 79, 80, 81, 82, 83, 84, 85, 86, 87, 88, 89, 90, 91, 92, 93, 94, 95, 96, 97, 98, 99, 100, 101, 102, 103, 104, 105, 106, 107, 108, 109, 110, 111, 112, 113], [6, 12, 13, 14])]) Tryz.func4 Tryz.ntmps4 (by kernel_rfl) (by kernel_rfl) rfl (by kernel_rfl) k
def law10_finish_l4 (s0 : AV) (Q : QT) (vs0 : List AV) (h : AHeap) (next0 : NT) : Prop :=
  qBin .lss (nthA vs0 1) (I 60) fun t9 =>
  ifB t9 (
  C fn_txn_Txn_Step [s0] h fun t14 h1 =>
  qExtract 0 t14 fun t15 =>
  qExtract 1 t14 fun t16 =>
  qNew [(I 0), (S ⟨#[]⟩), (.full 0 []), (.full 0 []), (I 0), (B false)] h1 fun t4 h2 =>
  qStore 6 t4 t15 h2 fun h3 =>
  ifB t16 (
  Q (nthA vs0 1) h3) (
  qBin .add (nthA vs0 1) (I 1) fun t11 =>
  next0 [(nthA vs0 0), t11] h3)) (
  Q (I 0) h)
def law10_finish (a0 : AV) (h : AHeap) (Q : QT) : Prop :=
  qBinP .eql a0 (.lit (.pointer none)) fun t7 =>
  ifB t7 (
  Q (I 0) h) (
  Loop [(I 0), (I 1)] h fun vs0 h next0 => law10_finish_l4 a0 Q vs0 h next0)
theorem law10_finish_ok (a0 : AV) (h : AHeap) (Q : QT) (k : law10_finish a0 h Q) : C fn_law10_finish [a0] h Q :=
  okF (pl := [(5, [2, 3, 4, 5, 8, 9, 10, 11, 12, 13, 14, 15, 16, 17, 18], [2, 3])]) Tryz.func17 Tryz.ntmps17 (by kernel_rfl) (by kernel_rfl) rfl (by kernel_rfl) k
def law10_within_j0 (s5 : AV) (h : AHeap) (Q : QT) : Prop :=
  Q s5 h
def law10_within (a0 a1 : AV) (h : AHeap) (Q : QT) : Prop :=
  qBin .rem a0 a1 fun t8 =>
  qBin .lss t8 (I 0) fun t10 =>
  ifB t10 (
  qBin .add t8 a1 fun t13 =>
  law10_within_j0 t13 h Q) (
  law10_within_j0 t8 h Q)
theorem law10_within_ok (a0 a1 : AV) (h : AHeap) (Q : QT) (k : law10_within a0 a1 h Q) : C fn_law10_within [a0, a1] h Q :=
  okF (pl := []) Tryz.func19 Tryz.ntmps19 (by kernel_rfl) (by kernel_rfl) rfl (by kernel_rfl) k
def store_New (a0 : AV) (h : AHeap) (Q : QT) : Prop :=
  qMakeMap h fun t3 h0 =>
  qMakeMap h0 fun t5 h1 =>
  qBuild [(.lit (.map none)), (I 0), (I 0), (.lit (.map none))] [(0, 1, t3), (1, 1, a0), (3, 1, t5)] fun t6 =>
  qBox t6 h1 fun t7 h2 =>
  Q t7 h2
theorem store_New_ok (a0 : AV) (h : AHeap) (Q : QT) (k : store_New a0 h Q) : C fn_store_New [a0] h Q :=
  okF (pl := []) Tryz.func15 Tryz.ntmps15 (by kernel_rfl) (by kernel_rfl) rfl (by kernel_rfl) k
def store_Store_Changed (a0 a1 a2 : AV) (h : AHeap) (Q : QT) : Prop :=
  qNil a0 fun t9 =>
  qFieldAddr 3 t9 fun t10 =>
  qLoad1 t10 h fun t11 =>
  qLookup .string false (.full 0 []) t11 a1 h fun t13 =>
  qLenL t13 fun t15 =>
  qBin .gtr t15 (I 0) fun t16 =>
  ifB t16 (qLenL t13 fun t20 =>
  qBin .sub t20 (I 1) fun t21 =>
  qIndexAddr 4 t13 t21 fun t22 =>
  qFieldAddr 3 t22 fun t23 =>
  qLoad1 t23 h fun t24 =>
  qBin .gtr t24 a2 fun t26 =>
  Q t26 h) (
  Q (B false) h)
theorem store_Store_Changed_ok (a0 a1 a2 : AV) (h : AHeap) (Q : QT) (k : store_Store_Changed a0 a1 a2 h Q) : C fn_store_Store_Changed [a0, a1, a2] h Q :=
  okF (pl := []) Tryz.func69 Tryz.ntmps69 (by kernel_rfl) (by kernel_rfl) rfl (by kernel_rfl) k
def store_Store_Clean_j8 (s4 s24 : AV) (h : AHeap) (next3 : NT) : Prop :=
  qBin .add s24 (I 1) fun t66 =>
  next3 [s4, t66] h
def store_Store_Clean_b9 (s4 s24 : AV) (h : AHeap) (next3 : NT) : Prop :=
  store_Store_Clean_j8 s4 s24 h next3
def store_Store_Clean_l10 (s23 s22 s3 s0 : AV) (Q : QT) (vs3 : List AV) (h : AHeap) (next3 : NT) : Prop :=
  qBin .lss (nthA vs3 1) s23 fun t25 =>
  ifB t25 (
  qIndexAddr 1 s22 (nthA vs3 1) fun t26 =>
  qLoad1 t26 h fun t27 =>
  qNil s0 fun t29 =>
  qFieldAddr 3 t29 fun t30 =>
  qLoad1 t30 h fun t31 =>
  qLookup .string false (.full 0 []) t31 t27 h fun t33 =>
  C fn_store_gone [t33, s3] h fun t35 h4 =>
  qBin .add (nthA vs3 0) t35 fun t38 =>
  qNil s0 fun t40 =>
  qFieldAddr 3 t40 fun t41 =>
  qLoad1 t41 h4 fun t42 =>
  qNil s0 fun t45 =>
  qFieldAddr 3 t45 fun t46 =>
  qLoad1 t46 h4 fun t47 =>
  qLookup .string false (.full 0 []) t47 t27 h4 fun t49 =>
  qSliceL 4 t49 (some t35) none fun t51 =>
  C fn_slices_Clone__store_version_store_version [t51] h4 fun t52 h5 =>
  (qLoad1 t41 h5 fun _t =>
  _t = t42) ∧
  qMapUpdate .string t42 t27 t52 h5 fun h6 =>
  qNil s0 fun t54 =>
  qFieldAddr 3 t54 fun t55 =>
  qLoad1 t55 h6 fun t56 =>
  qLookup .string false (.full 0 []) t56 t27 h6 fun t58 =>
  qLenL t58 fun t59 =>
  qBin .eql t59 (I 0) fun t60 =>
  ifB t60 (
  qNil s0 fun t62 =>
  qFieldAddr 3 t62 fun t63 =>
  qLoad1 t63 h6 fun t64 =>
  qDelete .string t64 t27 h6 fun h7 =>
  store_Store_Clean_b9 t38 (nthA vs3 1) h7 next3) (
  store_Store_Clean_b9 t38 (nthA vs3 1) h6 next3)) (
  Q (nthA vs3 0) h)
def store_Store_Clean (a0 : AV) (h : AHeap) (Q : QT) : Prop :=
  qNil a0 fun t9 =>
  qFieldAddr 0 t9 fun t10 =>
  qLoad1 t10 h fun t11 =>
  qNil a0 fun t13 =>
  qFieldAddr 2 t13 fun t14 =>
  qLoad1 t14 h fun t15 =>
  C fn_store_pins_least [t11, t15] h fun t16 h0 =>
  qNil a0 fun t18 =>
  qFieldAddr 3 t18 fun t19 =>
  qLoad1 t19 h0 fun t20 =>
  C fn_maps_Keys_map_string_store_version_string__store_version [t20] h0 fun t21 h1 =>
  C fn_slices_Sorted_string [t21] h1 fun t22 h2 =>
  qLenL t22 fun t23 =>
  Loop [(I 0), (I 0)] h2 fun vs3 h next3 => store_Store_Clean_l10 t23 t22 t16 a0 Q vs3 h next3
theorem store_Store_Clean_ok (a0 : AV) (h : AHeap) (Q : QT) (k : store_Store_Clean a0 h Q) : C fn_store_Store_Clean [a0] h Q :=
  okF (pl := [(1000001, [0, 1, 2, 3, 4, 5, 6, 7, 8, 9, 10], []), (4, [4, 6, 7, 24, 25, 26, 27, 28, 29, 30, 31, 32, 33, 34, 35, 36, 37, 38, 39, 40, 41, 42, 43, 44, 45, 46, 47, 48, 49, 50, 51, 52, 53, 54, 55, 56, 57, 58, 59, 60, 61, 62, 63, 64, 65, 66], [4, 24]), (1000007, [0, 1, 2, 3, 4, 5, 6, 7, 8, 9, 10, 11, 12, 13, 14], [])]) Tryz.func63 Tryz.ntmps63 (by kernel_rfl) (by kernel_rfl) rfl (by kernel_rfl) k
def store_Store_Commit_l8 (s26 s25 s0 : AV) (Q : QT) (vs2 : List AV) (h : AHeap) (next2 : NT) : Prop :=
  qBin .lss (nthA vs2 0) s26 fun t28 =>
  ifB t28 (
  qIndexAddr 3 s25 (nthA vs2 0) fun t29 =>
  qLoadA 3 t29 h fun t30 =>
  qNew [(S ⟨#[]⟩), (S ⟨#[]⟩), (B false)] h fun t7 h3 =>
  qStore 3 t7 t30 h3 fun h4 =>
  qNil s0 fun t32 =>
  qFieldAddr 3 t32 fun t33 =>
  qLoad1 t33 h4 fun t34 =>
  qFieldAddr 0 t7 fun t35 =>
  qLoad1 t35 h4 fun t36 =>
  qNil s0 fun t38 =>
  qFieldAddr 3 t38 fun t39 =>
  qLoad1 t39 h4 fun t40 =>
  qFieldAddr 0 t7 fun t41 =>
  qLoad1 t41 h4 fun t42 =>
  qLookup .string false (.full 0 []) t40 t42 h4 fun t43 =>
  qLoadA 3 t7 h4 fun t45 =>
  qNil s0 fun t47 =>
  qFieldAddr 2 t47 fun t48 =>
  qLoad1 t48 h4 fun t49 =>
  qBuild [(S ⟨#[]⟩), (S ⟨#[]⟩), (B false), (I 0)] [(0, 3, t45), (3, 1, t49)] fun t50 =>
  qBuildSlice 1 4 [t50] fun t51 =>
  C fn_slices_Clone__store_version_store_version [t43] h4 fun t44 h5 =>
  (qLoad1 t48 h5 fun _t =>
  _t = t49) ∧
  (qLoadA 3 t7 h5 fun _t =>
  _t = t45) ∧
  (qLoad1 t35 h5 fun _t =>
  _t = t36) ∧
  (qLoad1 t33 h5 fun _t =>
  _t = t34) ∧
  qAppend 4 48 t44 t51 h5 fun t52 h6 =>
  (qLoad1 t35 h6 fun _t =>
  _t = t36) ∧
  (qLoad1 t33 h6 fun _t =>
  _t = t34) ∧
  qMapUpdate .string t34 t36 t52 h6 fun h7 =>
  qBin .add (nthA vs2 0) (I 1) fun t53 =>
  next2 [t53] h7) (
  qNil s0 fun t55 =>
  qFieldAddr 2 t55 fun t56 =>
  qLoad1 t56 h fun t57 =>
  Q (.tup [t57, (I 0)]) h)
def store_Store_Commit (a0 a1 : AV) (h : AHeap) (Q : QT) : Prop :=
  qLenL a1 fun t11 =>
  qNil a0 fun t14 =>
  qFieldAddr 1 t14 fun t15 =>
  qLoad1 t15 h fun t16 =>
  C fn_store_Store_Count [a0] h fun t9 h0 =>
  (qLoad1 t15 h0 fun _t =>
  _t = t16) ∧
  qBin .add t9 t11 fun t12 =>
  qBin .gtr t12 t16 fun t17 =>
  ifB t17 (
  Q (.tup [(I 0), (I 13)]) h0) (
  qNil a0 fun t19 =>
  qFieldAddr 2 t19 fun t20 =>
  qLoad1 t20 h0 fun t21 =>
  qBin .add t21 (I 1) fun t22 =>
  qNil a0 fun t23 =>
  qFieldAddr 2 t23 fun t24 =>
  qStore 1 t24 t22 h0 fun h1 =>
  qLenL a1 fun t26 =>
  Loop [(I 0)] h1 fun vs2 h next2 => store_Store_Commit_l8 t26 a1 a0 Q vs2 h next2)
theorem store_Store_Commit_ok (a0 a1 : AV) (h : AHeap) (Q : QT) (k : store_Store_Commit a0 a1 h Q) : C fn_store_Store_Commit [a0, a1] h Q :=
  okF (pl := [(1000001, [0, 2, 3, 5, 6, 7, 8, 1, 4, 9], []), (6, [7, 27, 28, 29, 30, 31, 32, 33, 34, 35, 36, 37, 38, 39, 40, 41, 42, 43, 44, 45, 46, 47, 48, 49, 50, 51, 52, 53], [27]), (1000007, [0, 1, 2, 3, 4, 5, 6, 7, 8, 9, 10, 11, 12, 14, 15, 16, 17, 18, 19, 20, 13, 21, 22], [])]) Tryz.func53 Tryz.ntmps53 (by kernel_rfl) (by kernel_rfl) rfl (by kernel_rfl) k
def store_Store_Count (a0 : AV) (h : AHeap) (Q : QT) : Prop :=
  CV (.fn (.func fn_store_Store_total) [] []) [a0, (.fn (.func fn_store_length) [] [])] h fun t6 h0 =>
  Q t6 h0
theorem store_Store_Count_ok (a0 : AV) (h : AHeap) (Q : QT) (k : store_Store_Count a0 h Q) : C fn_store_Store_Count [a0] h Q :=
  okF (pl := []) Tryz.func25 Tryz.ntmps25 (by kernel_rfl) (by kernel_rfl) rfl (by kernel_rfl) k
def store_Store_Now (a0 : AV) (h : AHeap) (Q : QT) : Prop :=
  qNil a0 fun t4 =>
  qFieldAddr 2 t4 fun t5 =>
  qLoad1 t5 h fun t6 =>
  Q t6 h
theorem store_Store_Now_ok (a0 : AV) (h : AHeap) (Q : QT) (k : store_Store_Now a0 h Q) : C fn_store_Store_Now [a0] h Q :=
  okF (pl := []) Tryz.func23 Tryz.ntmps23 (by kernel_rfl) (by kernel_rfl) rfl (by kernel_rfl) k
def store_Store_Pin (a0 : AV) (h : AHeap) (Q : QT) : Prop :=
  qNil a0 fun t4 =>
  qFieldAddr 0 t4 fun t5 =>
  qLoad1 t5 h fun t6 =>
  qNil a0 fun t8 =>
  qFieldAddr 2 t8 fun t9 =>
  qLoad1 t9 h fun t10 =>
  qLookup (.int .i64) false (I 0) t6 t10 h fun t11 =>
  qBin .add t11 (I 1) fun t12 =>
  qMapUpdate (.int .i64) t6 t10 t12 h fun h0 =>
  qNil a0 fun t14 =>
  qFieldAddr 2 t14 fun t15 =>
  qLoad1 t15 h0 fun t16 =>
  Q t16 h0
theorem store_Store_Pin_ok (a0 : AV) (h : AHeap) (Q : QT) (k : store_Store_Pin a0 h Q) : C fn_store_Store_Pin [a0] h Q :=
  okF (pl := [(1000001, [0, 1, 2, 3, 4, 5, 6, 7, 8, 9, 10], [])]) Tryz.func45 Tryz.ntmps45 (by kernel_rfl) (by kernel_rfl) rfl (by kernel_rfl) k
def store_Store_Read (a0 a1 a2 : AV) (h : AHeap) (Q : QT) : Prop :=
  C fn_store_Store_newest [a0, a1, a2] h fun t12 h0 =>
  qBin .lss t12 (I 0) fun t14 =>
  ifB t14 (Q (.tup [(S ⟨#[]⟩), (B false)]) h0) (
  qNil a0 fun t17 =>
  qFieldAddr 3 t17 fun t18 =>
  qLoad1 t18 h0 fun t19 =>
  qLookup .string false (.full 0 []) t19 a1 h0 fun t21 =>
  qIndexAddr 4 t21 t12 fun t23 =>
  qFieldAddr 0 t23 fun t24 =>
  qFieldAddr 2 t24 fun t25 =>
  qLoad1 t25 h0 fun t26 =>
  ifB t26 (
  Q (.tup [(S ⟨#[]⟩), (B false)]) h0) (
  qNil a0 fun t29 =>
  qFieldAddr 3 t29 fun t30 =>
  qLoad1 t30 h0 fun t31 =>
  qLookup .string false (.full 0 []) t31 a1 h0 fun t33 =>
  qIndexAddr 4 t33 t12 fun t35 =>
  qFieldAddr 0 t35 fun t36 =>
  qFieldAddr 1 t36 fun t37 =>
  qLoad1 t37 h0 fun t38 =>
  Q (.tup [t38, (B true)]) h0))
theorem store_Store_Read_ok (a0 a1 a2 : AV) (h : AHeap) (Q : QT) (k : store_Store_Read a0 a1 a2 h Q) : C fn_store_Store_Read [a0, a1, a2] h Q :=
  okF (pl := []) Tryz.func22 Tryz.ntmps22 (by kernel_rfl) (by kernel_rfl) rfl (by kernel_rfl) k
def store_Store_Unpin (a0 a1 : AV) (h : AHeap) (Q : QT) : Prop :=
  qNil a0 fun t5 =>
  qFieldAddr 0 t5 fun t6 =>
  qLoad1 t6 h fun t7 =>
  qLookup (.int .i64) false (I 0) t7 a1 h fun t9 =>
  qBin .sub t9 (I 1) fun t10 =>
  qMapUpdate (.int .i64) t7 a1 t10 h fun h0 =>
  qNil a0 fun t12 =>
  qFieldAddr 0 t12 fun t13 =>
  qLoad1 t13 h0 fun t14 =>
  qLookup (.int .i64) false (I 0) t14 a1 h0 fun t16 =>
  qBin .leq t16 (I 0) fun t17 =>
  ifB t17 (
  qNil a0 fun t19 =>
  qFieldAddr 0 t19 fun t20 =>
  qLoad1 t20 h0 fun t21 =>
  qDelete (.int .i64) t21 a1 h0 fun h1 =>
  Q (.tup []) h1) (
  Q (.tup []) h0)
theorem store_Store_Unpin_ok (a0 a1 : AV) (h : AHeap) (Q : QT) (k : store_Store_Unpin a0 a1 h Q) : C fn_store_Store_Unpin [a0, a1] h Q :=
  okF (pl := []) Tryz.func40 Tryz.ntmps40 (by kernel_rfl) (by kernel_rfl) rfl (by kernel_rfl) k
def store_Store_newest_l1 (s7 s2 : AV) (Q : QT) (vs0 : List AV) (h : AHeap) (next0 : NT) : Prop :=
  qBin .geq (nthA vs0 0) (I 0) fun t19 =>
  ifB t19 (qIndexAddr 4 s7 (nthA vs0 0) fun t23 =>
  qFieldAddr 3 t23 fun t24 =>
  qLoad1 t24 h fun t25 =>
  qBin .gtr t25 s2 fun t27 =>
  ifB t27 (
  qBin .sub (nthA vs0 0) (I 1) fun t30 =>
  next0 [t30] h) (
  Q (nthA vs0 0) h)) (
  Q (nthA vs0 0) h)
def store_Store_newest (a0 a1 a2 : AV) (h : AHeap) (Q : QT) : Prop :=
  qNil a0 fun t10 =>
  qFieldAddr 3 t10 fun t11 =>
  qLoad1 t11 h fun t12 =>
  qLookup .string false (.full 0 []) t12 a1 h fun t14 =>
  qLenL t14 fun t16 =>
  qBin .sub t16 (I 1) fun t17 =>
  Loop [t17] h fun vs0 h next0 => store_Store_newest_l1 t14 a2 Q vs0 h next0
theorem store_Store_newest_ok (a0 a1 a2 : AV) (h : AHeap) (Q : QT) (k : store_Store_newest a0 a1 a2 h Q) : C fn_store_Store_newest [a0, a1, a2] h Q :=
  okF (pl := [(4, [8, 18, 19, 20, 21, 22, 23, 24, 25, 26, 27, 28, 29, 30], [8])]) Tryz.func36 Tryz.ntmps36 (by kernel_rfl) (by kernel_rfl) rfl (by kernel_rfl) k
def store_Store_total_l4 (s12 s1 : AV) (Q : QT) (vs1 : List AV) (h : AHeap) (next1 : NT) : Prop :=
  qNextM s12 h fun t13 h2 =>
  qExtract 0 t13 fun t14 =>
  ifB t14 (
  qEntry s12 h2 fun t15 =>
  qExtract 1 t15 fun t16 =>
  CV s1 [t16] h2 fun t20 h3 =>
  qBin .add (nthA vs1 0) t20 fun t21 =>
  next1 [t21] h3) (
  Q (nthA vs1 0) h2)
def store_Store_total (a0 a1 : AV) (h : AHeap) (Q : QT) : Prop :=
  qNil a0 fun t9 =>
  qFieldAddr 3 t9 fun t10 =>
  qLoad1 t10 h fun t11 =>
  qRangeM t11 h fun t12 h0 =>
  Loop [(I 0)] h0 fun vs1 h next1 => store_Store_total_l4 t12 a1 Q vs1 h next1
theorem store_Store_total_ok (a0 a1 : AV) (h : AHeap) (Q : QT) (k : store_Store_total a0 a1 h Q) : C fn_store_Store_total [a0, a1] h Q :=
  okF (pl := [(4, [5, 7, 13, 14, 15, 16, 17, 18, 19, 20, 21], [5])]) Tryz.func38 Tryz.ntmps38 (by kernel_rfl) (by kernel_rfl) rfl (by kernel_rfl) k
def store_gone_j1 (s5 : AV) (h : AHeap) (Q : QT) : Prop :=
  Q s5 h
def store_gone_j2 (s5 : AV) (h : AHeap) (Q : QT) : Prop :=
  Q s5 h
def store_gone_l3 (s0 s1 : AV) (Q : QT) (vs0 : List AV) (h : AHeap) (next0 : NT) : Prop :=
  qLenL s0 fun t8 =>
  qBin .lss (nthA vs0 0) t8 fun t9 =>
  ifB t9 (qIndexAddr 4 s0 (nthA vs0 0) fun t13 =>
  qFieldAddr 3 t13 fun t14 =>
  qLoad1 t14 h fun t15 =>
  qBin .leq t15 s1 fun t17 =>
  ifB t17 (
  qBin .add (nthA vs0 0) (I 1) fun t20 =>
  next0 [t20] h) (
  qBin .gtr (nthA vs0 0) (I 0) fun t22 =>
  ifB t22 (qBin .sub (nthA vs0 0) (I 1) fun t26 =>
  qIndexAddr 4 s0 t26 fun t27 =>
  qFieldAddr 0 t27 fun t28 =>
  qFieldAddr 2 t28 fun t29 =>
  qLoad1 t29 h fun t30 =>
  qUn .not t30 fun t31 =>
  ifB t31 (
  qBin .sub (nthA vs0 0) (I 1) fun t34 =>
  store_gone_j1 t34 h Q) (
  store_gone_j1 (nthA vs0 0) h Q)) (
  store_gone_j1 (nthA vs0 0) h Q))) (
  qBin .gtr (nthA vs0 0) (I 0) fun t22 =>
  ifB t22 (qBin .sub (nthA vs0 0) (I 1) fun t26 =>
  qIndexAddr 4 s0 t26 fun t27 =>
  qFieldAddr 0 t27 fun t28 =>
  qFieldAddr 2 t28 fun t29 =>
  qLoad1 t29 h fun t30 =>
  qUn .not t30 fun t31 =>
  ifB t31 (
  qBin .sub (nthA vs0 0) (I 1) fun t34 =>
  store_gone_j2 t34 h Q) (
  store_gone_j2 (nthA vs0 0) h Q)) (
  store_gone_j2 (nthA vs0 0) h Q))
def store_gone (a0 a1 : AV) (h : AHeap) (Q : QT) : Prop :=
  Loop [(I 0)] h fun vs0 h next0 => store_gone_l3 a0 a1 Q vs0 h next0
theorem store_gone_ok (a0 a1 : AV) (h : AHeap) (Q : QT) (k : store_gone a0 a1 h Q) : C fn_store_gone [a0, a1] h Q :=
  okF (pl := [(3, [5, 6, 7, 8, 9, 10, 11, 12, 13, 14, 15, 16, 17, 18, 19, 20], [5])]) Tryz.func79 Tryz.ntmps79 (by kernel_rfl) (by kernel_rfl) rfl (by kernel_rfl) k
def store_length (a0 : AV) (h : AHeap) (Q : QT) : Prop :=
  qLenL a0 fun t4 =>
  Q t4 h
theorem store_length_ok (a0 : AV) (h : AHeap) (Q : QT) (k : store_length a0 h Q) : C fn_store_length [a0] h Q :=
  okF (pl := []) Tryz.func39 Tryz.ntmps39 (by kernel_rfl) (by kernel_rfl) rfl (by kernel_rfl) k
def store_pins_least_l3 (s7 : AV) (Q : QT) (vs1 : List AV) (h : AHeap) (next1 : NT) : Prop :=
  qNextM s7 h fun t8 h2 =>
  qExtract 0 t8 fun t9 =>
  ifB t9 (
  qEntry s7 h2 fun t10 =>
  qExtract 0 t10 fun t11 =>
  qMin (nthA vs1 0) t11 fun t14 =>
  next1 [t14] h2) (
  Q (nthA vs1 0) h2)
def store_pins_least (a0 a1 : AV) (h : AHeap) (Q : QT) : Prop :=
  qRangeM a0 h fun t7 h0 =>
  Loop [a1] h0 fun vs1 h next1 => store_pins_least_l3 t7 Q vs1 h next1
theorem store_pins_least_ok (a0 a1 : AV) (h : AHeap) (Q : QT) (k : store_pins_least a0 a1 h Q) : C fn_store_pins_least [a0, a1] h Q :=
  okF (pl := [(3, [1, 5, 8, 9, 10, 11, 12, 13, 14], [1])]) Tryz.func76 Tryz.ntmps76 (by kernel_rfl) (by kernel_rfl) rfl (by kernel_rfl) k
def txn_Begin (a0 a1 a2 : AV) (h : AHeap) (Q : QT) : Prop :=
  qBox a2 h fun t5 h0 =>
  qLoadA 4 t5 h0 fun t9 =>
  qBuild [(.lit (.pointer none)), (.lit (.pointer none)), (I 0), (S ⟨#[]⟩), (S ⟨#[]⟩), (I 0), (I 0), (B false), (B false), (I 0), (.full 0 []), (.lit (.map none))] [(0, 1, a0), (1, 1, a1), (2, 4, t9)] fun t10 =>
  qBox t10 h0 fun t11 h1 =>
  Q t11 h1
theorem txn_Begin_ok (a0 a1 a2 : AV) (h : AHeap) (Q : QT) (k : txn_Begin a0 a1 a2 h Q) : C fn_txn_Begin [a0, a1, a2] h Q :=
  okF (pl := []) Tryz.func18 Tryz.ntmps18 (by kernel_rfl) (by kernel_rfl) rfl (by kernel_rfl) k
def txn_Join_l1 (s7 s6 : AV) (Q : QT) (vs0 : List AV) (h : AHeap) (next0 : NT) : Prop :=
  qBin .lss (nthA vs0 1) s7 fun t9 =>
  ifB t9 (
  qIndexAddr 1 s6 (nthA vs0 1) fun t10 =>
  qLoad1 t10 h fun t11 =>
  qBin .add t11 (S ⟨#[10]⟩) fun t14 =>
  qBin .add (nthA vs0 0) t14 fun t15 =>
  qBin .add (nthA vs0 1) (I 1) fun t16 =>
  next0 [t15, t16] h) (
  Q (nthA vs0 0) h)
def txn_Join (a0 : AV) (h : AHeap) (Q : QT) : Prop :=
  qLenL a0 fun t7 =>
  Loop [(S ⟨#[]⟩), (I 0)] h fun vs0 h next0 => txn_Join_l1 t7 a0 Q vs0 h next0
theorem txn_Join_ok (a0 : AV) (h : AHeap) (Q : QT) (k : txn_Join a0 h Q) : C fn_txn_Join [a0] h Q :=
  okF (pl := [(4, [3, 5, 8, 9, 10, 11, 12, 13, 14, 15, 16], [3, 8])]) Tryz.func10 Tryz.ntmps10 (by kernel_rfl) (by kernel_rfl) rfl (by kernel_rfl) k
def txn_Parts (a0 : AV) (h : AHeap) (Q : QT) : Prop :=
  C fn_strings_Split [a0, (S ⟨#[10]⟩)] h fun t5 h0 =>
  qLenL t5 fun t8 =>
  qBin .sub t8 (I 1) fun t9 =>
  qSliceL 1 t5 none (some t9) fun t10 =>
  C fn_slices_Clone__string_string [t10] h0 fun t11 h1 =>
  Q t11 h1
theorem txn_Parts_ok (a0 : AV) (h : AHeap) (Q : QT) (k : txn_Parts a0 h Q) : C fn_txn_Parts [a0] h Q :=
  okF (pl := []) Tryz.func13 Tryz.ntmps13 (by kernel_rfl) (by kernel_rfl) rfl (by kernel_rfl) k
def txn_Txn_Step_j14 (s2 s0 : AV) (h : AHeap) (Q : QT) : Prop :=
  qNil s0 fun t33 =>
  qFieldAddr 10 t33 fun t34 =>
  qLoad1 t34 h fun t35 =>
  qLenL t35 fun t36 =>
  qBin .gtr t36 (I 0) fun t37 =>
  ifB t37 (
  CV (.fn (.func fn_txn_Txn_read) [] []) [s0] h fun t40 h8 =>
  qBuild [(I 0), (S ⟨#[]⟩), (.full 0 []), (.full 0 []), (I 0), (B false)] [] fun t41 =>
  qStore 6 s2 t41 h8 fun h9 =>
  qLoadA 6 s2 h9 fun r10 =>
  Q (.tup [r10, (B false)]) h9) (
  C fn_txn_Txn_last [s0] h fun t43 h11 =>
  qExtract 0 t43 fun t44 =>
  qExtract 1 t43 fun t45 =>
  qStore 6 s2 t44 h11 fun h12 =>
  qLoadA 6 s2 h12 fun r13 =>
  Q (.tup [r13, t45]) h12)
def txn_Txn_Step_b15 (s2 s0 : AV) (h : AHeap) (Q : QT) : Prop :=
  txn_Txn_Step_j14 s2 s0 h Q
def txn_Txn_Step (a0 : AV) (h : AHeap) (Q : QT) : Prop :=
  qNew [(I 0), (S ⟨#[]⟩), (.full 0 []), (.full 0 []), (I 0), (B false)] h fun t2 h0 =>
  qNil a0 fun t7 =>
  qFieldAddr 8 t7 fun t8 =>
  qLoad1 t8 h0 fun t9 =>
  ifB t9 (
  qBuild [(I 0), (S ⟨#[]⟩), (.full 0 []), (.full 0 []), (I 0), (B false)] [] fun t10 =>
  qStore 6 t2 t10 h0 fun h1 =>
  qLoadA 6 t2 h1 fun r2 =>
  Q (.tup [r2, (B false)]) h1) (
  qNil a0 fun t13 =>
  qFieldAddr 2 t13 fun t14 =>
  qLoadA 4 t14 h0 fun t15 =>
  C fn_work_Right [t15] h0 fun t16 h3 =>
  qUn .not t16 fun t17 =>
  ifB t17 (
  qBuild [(I 0), (S ⟨#[]⟩), (.full 0 []), (.full 0 [])] [(0, 1, (I 12))] fun t19 =>
  qBuild [(I 0), (S ⟨#[]⟩), (.full 0 []), (.full 0 []), (I 0), (B false)] [(0, 4, t19)] fun t20 =>
  C fn_txn_Txn_told [a0, t20] h3 fun t21 h4 =>
  qExtract 0 t21 fun t22 =>
  qExtract 1 t21 fun t23 =>
  qStore 6 t2 t22 h4 fun h5 =>
  qLoadA 6 t2 h5 fun r6 =>
  Q (.tup [r6, t23]) h5) (
  qNil a0 fun t26 =>
  qFieldAddr 7 t26 fun t27 =>
  qLoad1 t27 h3 fun t28 =>
  qUn .not t28 fun t29 =>
  ifB t29 (
  C fn_txn_Txn_begin [a0] h3 fun t31 h7 =>
  txn_Txn_Step_b15 t2 a0 h7 Q) (
  txn_Txn_Step_b15 t2 a0 h3 Q)))
theorem txn_Txn_Step_ok (a0 : AV) (h : AHeap) (Q : QT) (k : txn_Txn_Step a0 h Q) : C fn_txn_Txn_Step [a0] h Q :=
  okF (pl := []) Tryz.func20 Tryz.ntmps20 (by kernel_rfl) (by kernel_rfl) rfl (by kernel_rfl) k
def txn_Txn_Tries (a0 : AV) (h : AHeap) (Q : QT) : Prop :=
  qNil a0 fun t4 =>
  qFieldAddr 6 t4 fun t5 =>
  qLoad1 t5 h fun t6 =>
  Q t6 h
theorem txn_Txn_Tries_ok (a0 : AV) (h : AHeap) (Q : QT) (k : txn_Txn_Tries a0 h Q) : C fn_txn_Txn_Tries [a0] h Q :=
  okF (pl := []) Tryz.func21 Tryz.ntmps21 (by kernel_rfl) (by kernel_rfl) rfl (by kernel_rfl) k
def txn_Txn_begin (a0 : AV) (h : AHeap) (Q : QT) : Prop :=
  qNil a0 fun t3 =>
  qFieldAddr 6 t3 fun t4 =>
  qLoad1 t4 h fun t5 =>
  qBin .add t5 (I 1) fun t6 =>
  qNil a0 fun t7 =>
  qFieldAddr 6 t7 fun t8 =>
  qStore 1 t8 t6 h fun h0 =>
  qNil a0 fun t12 =>
  qFieldAddr 0 t12 fun t13 =>
  qLoad1 t13 h0 fun t14 =>
  C fn_store_Store_Pin [t14] h0 fun t15 h1 =>
  qNil a0 fun t16 =>
  qFieldAddr 7 t16 fun t17 =>
  qStore 1 t17 (B true) h1 fun h2 =>
  qNil a0 fun t18 =>
  qFieldAddr 9 t18 fun t19 =>
  qStore 1 t19 t15 h2 fun h3 =>
  C fn_txn_Txn_first [a0] h3 fun t23 h4 =>
  qMakeMap h4 fun t24 h5 =>
  qNil a0 fun t25 =>
  qFieldAddr 10 t25 fun t26 =>
  qStore 1 t26 t23 h5 fun h6 =>
  qNil a0 fun t27 =>
  qFieldAddr 11 t27 fun t28 =>
  qStore 1 t28 t24 h6 fun h7 =>
  Q (.tup []) h7
theorem txn_Txn_begin_ok (a0 : AV) (h : AHeap) (Q : QT) (k : txn_Txn_begin a0 h Q) : C fn_txn_Txn_begin [a0] h Q :=
  okF (pl := []) Tryz.func33 Tryz.ntmps33 (by kernel_rfl) (by kernel_rfl) rfl (by kernel_rfl) k
def txn_Txn_changed_l4 (s8 s0 : AV) (Q : QT) (vs1 : List AV) (h : AHeap) (next1 : NT) : Prop :=
  qNextM s8 h fun t9 h2 =>
  qExtract 0 t9 fun t10 =>
  ifB t10 (
  qEntry s8 h2 fun t11 =>
  qExtract 0 t11 fun t12 =>
  qNil s0 fun t14 =>
  qFieldAddr 0 t14 fun t15 =>
  qLoad1 t15 h2 fun t16 =>
  qNil s0 fun t19 =>
  qFieldAddr 9 t19 fun t20 =>
  qLoad1 t20 h2 fun t21 =>
  C fn_store_Store_Changed [t16, t12, t21] h2 fun t22 h3 =>
  ifB t22 (
  Q (B true) h3) (
  next1 [(nthA vs1 0)] h3)) (
  Q (B false) h2)
def txn_Txn_changed (a0 : AV) (h : AHeap) (Q : QT) : Prop :=
  qNil a0 fun t5 =>
  qFieldAddr 11 t5 fun t6 =>
  qLoad1 t6 h fun t7 =>
  qRangeM t7 h fun t8 h0 =>
  Loop [(B false)] h0 fun vs1 h next1 => txn_Txn_changed_l4 t8 a0 Q vs1 h next1
theorem txn_Txn_changed_ok (a0 : AV) (h : AHeap) (Q : QT) (k : txn_Txn_changed a0 h Q) : C fn_txn_Txn_changed [a0] h Q :=
  okF (pl := [(3, [2, 3, 9, 10, 11, 12, 13, 14, 15, 16, 17, 18, 19, 20, 21, 22], [2]), (1000004, [0, 1, 2, 3, 4, 5, 6, 7, 8, 9], [])]) Tryz.func52 Tryz.ntmps52 (by kernel_rfl) (by kernel_rfl) rfl (by kernel_rfl) k
def txn_Txn_end (a0 : AV) (h : AHeap) (Q : QT) : Prop :=
  qNil a0 fun t3 =>
  qFieldAddr 7 t3 fun t4 =>
  qStore 1 t4 (B false) h fun h0 =>
  qNil a0 fun t6 =>
  qFieldAddr 0 t6 fun t7 =>
  qLoad1 t7 h0 fun t8 =>
  qNil a0 fun t10 =>
  qFieldAddr 9 t10 fun t11 =>
  qLoad1 t11 h0 fun t12 =>
  C fn_store_Store_Unpin [t8, t12] h0 fun t13 h1 =>
  qNil a0 fun t15 =>
  qFieldAddr 0 t15 fun t16 =>
  qLoad1 t16 h1 fun t17 =>
  C fn_store_Store_Clean [t17] h1 fun t18 h2 =>
  Q (.tup []) h2
def txn_Txn_end_plan : Plan := [(1000001, [0, 1, 2, 3, 4, 5, 6, 7, 8], [])]
theorem txn_Txn_end_eq (a0 : AV) (h : AHeap) (Q : QT) : denF Pg txn_Txn_end_plan Tryz.f48 (bodyOf Tryz.f48) [a0] h Q = txn_Txn_end a0 h Q := by kernel_rfl
theorem txn_Txn_end_okD (a0 : AV) (h : AHeap) (Q : QT) (k : txn_Txn_end a0 h Q) : CD fn_txn_Txn_end [a0] h Q :=
  acallD_of_den Tryz.func48 (c := bodyOf Tryz.f48) (by kernel_rfl) (by have := Tryz.ntmps48; simp only [List.length_cons, List.length_nil]; omega) (by rw [txn_Txn_end_eq]; exact k)
def txn_Txn_first_j0 (s17 s7 : AV) (h : AHeap) (Q : QT) : Prop :=
  ifB s17 (
  qBuildSlice 1 1 [(S ⟨#[101]⟩)] fun t20 =>
  Q t20 h) (
  qBin .eql s7 (I 7) fun t22 =>
  ifB t22 (
  qBuildSlice 2 1 [(S ⟨#[100]⟩), (S ⟨#[101]⟩)] fun t23 =>
  Q t23 h) (
  qBuildSlice 1 1 [(S ⟨#[100]⟩)] fun t24 =>
  Q t24 h))
def txn_Txn_first (a0 : AV) (h : AHeap) (Q : QT) : Prop :=
  qNil a0 fun t4 =>
  qFieldAddr 2 t4 fun t5 =>
  qFieldAddr 0 t5 fun t6 =>
  qLoad1 t6 h fun t7 =>
  qBin .eql t7 (I 4) fun t9 =>
  ifB t9 (
  qNil a0 fun t11 =>
  qFieldAddr 2 t11 fun t12 =>
  qFieldAddr 1 t12 fun t13 =>
  qLoad1 t13 h fun t14 =>
  qBin .add (S ⟨#[102]⟩) t14 fun t15 =>
  qBuildSlice 1 1 [t15] fun t16 =>
  Q t16 h) (
  qBin .eql t7 (I 5) fun t18 =>
  ifB t18 (
  txn_Txn_first_j0 t18 t7 h Q) (
  qBin .eql t7 (I 6) fun t19 =>
  txn_Txn_first_j0 t19 t7 h Q))
theorem txn_Txn_first_ok (a0 : AV) (h : AHeap) (Q : QT) (k : txn_Txn_first a0 h Q) : C fn_txn_Txn_first [a0] h Q :=
  okF (pl := []) Tryz.func46 Tryz.ntmps46 (by kernel_rfl) (by kernel_rfl) rfl (by kernel_rfl) k
def txn_Txn_gone (a0 a1 a2 : AV) (h : AHeap) (Q : QT) : Prop :=
  C fn_txn_Txn_names [a0, a1] h fun t11 h0 =>
  qNil a0 fun t14 =>
  qFieldAddr 2 t14 fun t15 =>
  qFieldAddr 1 t15 fun t16 =>
  qLoad1 t16 h0 fun t17 =>
  C fn_slices_Contains__string_string [t11, t17] h0 fun t18 h1 =>
  qUn .not t18 fun t19 =>
  ifB t19 (
  Q (.tup [(.full 0 []), (I 9)]) h1) (
  qNil a0 fun t22 =>
  qFieldAddr 2 t22 fun t23 =>
  qFieldAddr 1 t23 fun t24 =>
  qLoad1 t24 h1 fun t25 =>
  qBin .add a2 t25 fun t26 =>
  qBuild [(S ⟨#[]⟩), (S ⟨#[]⟩), (B false)] [(0, 1, t26), (2, 1, (B true))] fun t27 =>
  qNil a0 fun t31 =>
  qFieldAddr 2 t31 fun t32 =>
  qFieldAddr 1 t32 fun t33 =>
  qLoad1 t33 h1 fun t34 =>
  C fn_txn_without [t11, t34] h1 fun t35 h2 =>
  (qLoad1 t24 h2 fun _t =>
  _t = t25) ∧
  C fn_txn_list [a1, t35] h2 fun t36 h3 =>
  (qLoad1 t24 h3 fun _t =>
  _t = t25) ∧
  qBuildSlice 2 3 [t27, t36] fun t37 =>
  Q (.tup [t37, (I 0)]) h3)
theorem txn_Txn_gone_ok (a0 a1 a2 : AV) (h : AHeap) (Q : QT) (k : txn_Txn_gone a0 a1 a2 h Q) : C fn_txn_Txn_gone [a0, a1, a2] h Q :=
  okF (pl := [(1000004, [0, 1, 2, 3, 4, 5, 6, 7, 8, 9, 10, 11, 12, 13, 14, 15, 16, 17, 18, 19], [])]) Tryz.func68 Tryz.ntmps68 (by kernel_rfl) (by kernel_rfl) rfl (by kernel_rfl) k
def txn_Txn_last_j28 (s4 s2 s0 : AV) (h : AHeap) (a0 : AV) (Q : QT) : Prop :=
  qIsNilF .neq s4 fun t23 =>
  ifB t23 (
  qNil s0 fun t28 =>
  qFieldAddr 9 t28 fun t29 =>
  qLoad1 t29 h fun t30 =>
  CV s4 [] h fun t26 h1 =>
  (qLoad1 t29 h1 fun _t =>
  _t = t30) ∧
  qBuild [(I 0), (S ⟨#[]⟩), (.full 0 []), (.full 0 []), (I 0), (B false)] [(0, 4, t26), (4, 1, t30)] fun t31 =>
  C fn_txn_Txn_told [s0, t31] h1 fun t32 h2 =>
  qExtract 0 t32 fun t33 =>
  qExtract 1 t32 fun t34 =>
  qStore 6 s2 t33 h2 fun h3 =>
  CD fn_txn_Txn_end [a0] h3 fun _ h4 =>
  qLoadA 6 s2 h4 fun r5 =>
  Q (.tup [r5, t34]) h4) (
  C fn_txn_Txn_writes [s0] h fun t37 h6 =>
  qExtract 0 t37 fun t38 =>
  qExtract 1 t37 fun t39 =>
  qBin .neq t39 (I 0) fun t41 =>
  ifB t41 (
  qBuild [(I 0), (S ⟨#[]⟩), (.full 0 []), (.full 0 [])] [(0, 1, t39)] fun t44 =>
  qNil s0 fun t46 =>
  qFieldAddr 9 t46 fun t47 =>
  qLoad1 t47 h6 fun t48 =>
  qBuild [(I 0), (S ⟨#[]⟩), (.full 0 []), (.full 0 []), (I 0), (B false)] [(0, 4, t44), (4, 1, t48)] fun t49 =>
  C fn_txn_Txn_told [s0, t49] h6 fun t50 h7 =>
  qExtract 0 t50 fun t51 =>
  qExtract 1 t50 fun t52 =>
  qStore 6 s2 t51 h7 fun h8 =>
  CD fn_txn_Txn_end [a0] h8 fun _ h9 =>
  qLoadA 6 s2 h9 fun r10 =>
  Q (.tup [r10, t52]) h9) (
  C fn_txn_Txn_changed [s0] h6 fun t54 h11 =>
  ifB t54 (
  qNil s0 fun t56 =>
  qFieldAddr 6 t56 fun t57 =>
  qLoad1 t57 h11 fun t58 =>
  qBin .lss t58 (I 3) fun t59 =>
  ifB t59 (
  qBuild [(I 0), (S ⟨#[]⟩), (.full 0 []), (.full 0 []), (I 0), (B false)] [] fun t60 =>
  qStore 6 s2 t60 h11 fun h12 =>
  CD fn_txn_Txn_end [a0] h12 fun _ h13 =>
  qLoadA 6 s2 h13 fun r14 =>
  Q (.tup [r14, (B false)]) h13) (
  qBuild [(I 0), (S ⟨#[]⟩), (.full 0 []), (.full 0 [])] [(0, 1, (I 11))] fun t62 =>
  qBuild [(I 0), (S ⟨#[]⟩), (.full 0 []), (.full 0 []), (I 0), (B false)] [(0, 4, t62)] fun t63 =>
  C fn_txn_Txn_told [s0, t63] h11 fun t64 h15 =>
  qExtract 0 t64 fun t65 =>
  qExtract 1 t64 fun t66 =>
  qStore 6 s2 t65 h15 fun h16 =>
  CD fn_txn_Txn_end [a0] h16 fun _ h17 =>
  qLoadA 6 s2 h17 fun r18 =>
  Q (.tup [r18, t66]) h17)) (
  qNil s0 fun t69 =>
  qFieldAddr 0 t69 fun t70 =>
  qLoad1 t70 h11 fun t71 =>
  C fn_store_Store_Commit [t71, t38] h11 fun t73 h19 =>
  qExtract 0 t73 fun t74 =>
  qExtract 1 t73 fun t75 =>
  qBin .neq t75 (I 0) fun t77 =>
  ifB t77 (
  qBuild [(I 0), (S ⟨#[]⟩), (.full 0 []), (.full 0 [])] [(0, 1, t75)] fun t80 =>
  qBuild [(I 0), (S ⟨#[]⟩), (.full 0 []), (.full 0 []), (I 0), (B false)] [(0, 4, t80)] fun t81 =>
  C fn_txn_Txn_told [s0, t81] h19 fun t82 h20 =>
  qExtract 0 t82 fun t83 =>
  qExtract 1 t82 fun t84 =>
  qStore 6 s2 t83 h20 fun h21 =>
  CD fn_txn_Txn_end [a0] h21 fun _ h22 =>
  qLoadA 6 s2 h22 fun r23 =>
  Q (.tup [r23, t84]) h22) (
  qBuild [(I 0), (S ⟨#[]⟩), (.full 0 []), (.full 0 []), (I 0), (B false)] [(4, 1, t74), (5, 1, (B true))] fun t87 =>
  C fn_txn_Txn_told [s0, t87] h19 fun t88 h24 =>
  qExtract 0 t88 fun t89 =>
  qExtract 1 t88 fun t90 =>
  qStore 6 s2 t89 h24 fun h25 =>
  CD fn_txn_Txn_end [a0] h25 fun _ h26 =>
  qLoadA 6 s2 h26 fun r27 =>
  Q (.tup [r27, t90]) h26))))
def txn_Txn_last_b29 (s4 s2 s0 : AV) (h : AHeap) (a0 : AV) (Q : QT) : Prop :=
  txn_Txn_last_j28 s4 s2 s0 h a0 Q
def txn_Txn_last (a0 : AV) (h : AHeap) (Q : QT) : Prop :=
  qNew [(I 0), (S ⟨#[]⟩), (.full 0 []), (.full 0 []), (I 0), (B false)] h fun t2 h0 =>
  qNil a0 fun t10 =>
  qFieldAddr 2 t10 fun t11 =>
  qFieldAddr 0 t11 fun t12 =>
  qLoad1 t12 h0 fun t13 =>
  qBin .eql t13 (I 4) fun t15 =>
  ifB t15 (
  txn_Txn_last_b29 (.fn (.func fn_txn_Txn_show) [a0] []) t2 a0 h0 a0 Q) (
  qBin .eql t13 (I 7) fun t19 =>
  ifB t19 (
  txn_Txn_last_b29 (.fn (.func fn_txn_Txn_build) [a0] []) t2 a0 h0 a0 Q) (
  txn_Txn_last_b29 (.lit .nilFunc) t2 a0 h0 a0 Q))
def txn_Txn_last_plan : Plan := [(1000009, [0, 1, 3, 4, 5, 6, 2, 7, 8, 9, 10, 11, 12], [])]
theorem txn_Txn_last_eq (a0 : AV) (h : AHeap) (Q : QT) : denDf Pg txn_Txn_last_plan Tryz.f35 (bodyOf Tryz.f35) [a0] h Q = txn_Txn_last a0 h Q := by kernel_rfl
theorem txn_Txn_last_ok (a0 : AV) (h : AHeap) (Q : QT) (k : txn_Txn_last a0 h Q) : C fn_txn_Txn_last [a0] h Q :=
  acall_of_denDf Tryz.func35 (c := bodyOf Tryz.f35) (by kernel_rfl) (by kernel_rfl) (by have := Tryz.ntmps35; simp only [List.length_cons, List.length_nil]; omega) (by rw [txn_Txn_last_eq]; exact k)
def txn_Txn_more_l8 (s65 s64 : AV) (Q : QT) (vs6 : List AV) (h : AHeap) (next6 : NT) : Prop :=
  qBin .lss (nthA vs6 1) s65 fun t67 =>
  ifB t67 (
  qIndexAddr 1 s64 (nthA vs6 1) fun t68 =>
  qLoad1 t68 h fun t69 =>
  qBin .add (S ⟨#[115]⟩) t69 fun t72 =>
  qBuildSlice 1 1 [t72] fun t73 =>
  qAppend 1 16 (nthA vs6 0) t73 h fun t74 h7 =>
  qBin .add (nthA vs6 1) (I 1) fun t75 =>
  next6 [t74, t75] h7) (
  Q (nthA vs6 0) h)
def txn_Txn_more_l9 (s52 s51 s0 : AV) (Q : QT) (vs3 : List AV) (h : AHeap) (next3 : NT) : Prop :=
  qBin .lss (nthA vs3 1) s52 fun t54 =>
  ifB t54 (
  qIndexAddr 1 s51 (nthA vs3 1) fun t55 =>
  qLoad1 t55 h fun t56 =>
  qBin .add (S ⟨#[102]⟩) t56 fun t59 =>
  qBuildSlice 1 1 [t59] fun t60 =>
  qAppend 1 16 (nthA vs3 0) t60 h fun t61 h4 =>
  qBin .add (nthA vs3 1) (I 1) fun t62 =>
  next3 [t61, t62] h4) (
  C fn_txn_Txn_names [s0, (S ⟨#[101]⟩)] h fun t64 h5 =>
  qLenL t64 fun t65 =>
  Loop [(nthA vs3 0), (I 0)] h5 fun vs6 h next6 => txn_Txn_more_l8 t65 t64 Q vs6 h next6)
def txn_Txn_more_l16 (s65 s64 : AV) (Q : QT) (vs14 : List AV) (h : AHeap) (next14 : NT) : Prop :=
  qBin .lss (nthA vs14 1) s65 fun t67 =>
  ifB t67 (
  qIndexAddr 1 s64 (nthA vs14 1) fun t68 =>
  qLoad1 t68 h fun t69 =>
  qBin .add (S ⟨#[115]⟩) t69 fun t72 =>
  qBuildSlice 1 1 [t72] fun t73 =>
  qAppend 1 16 (nthA vs14 0) t73 h fun t74 h15 =>
  qBin .add (nthA vs14 1) (I 1) fun t75 =>
  next14 [t74, t75] h15) (
  Q (nthA vs14 0) h)
def txn_Txn_more_l17 (s52 s51 s0 : AV) (Q : QT) (vs11 : List AV) (h : AHeap) (next11 : NT) : Prop :=
  qBin .lss (nthA vs11 1) s52 fun t54 =>
  ifB t54 (
  qIndexAddr 1 s51 (nthA vs11 1) fun t55 =>
  qLoad1 t55 h fun t56 =>
  qBin .add (S ⟨#[102]⟩) t56 fun t59 =>
  qBuildSlice 1 1 [t59] fun t60 =>
  qAppend 1 16 (nthA vs11 0) t60 h fun t61 h12 =>
  qBin .add (nthA vs11 1) (I 1) fun t62 =>
  next11 [t61, t62] h12) (
  C fn_txn_Txn_names [s0, (S ⟨#[101]⟩)] h fun t64 h13 =>
  qLenL t64 fun t65 =>
  Loop [(nthA vs11 0), (I 0)] h13 fun vs14 h next14 => txn_Txn_more_l16 t65 t64 Q vs14 h next14)
def txn_Txn_more_l24 (s65 s64 : AV) (Q : QT) (vs22 : List AV) (h : AHeap) (next22 : NT) : Prop :=
  qBin .lss (nthA vs22 1) s65 fun t67 =>
  ifB t67 (
  qIndexAddr 1 s64 (nthA vs22 1) fun t68 =>
  qLoad1 t68 h fun t69 =>
  qBin .add (S ⟨#[115]⟩) t69 fun t72 =>
  qBuildSlice 1 1 [t72] fun t73 =>
  qAppend 1 16 (nthA vs22 0) t73 h fun t74 h23 =>
  qBin .add (nthA vs22 1) (I 1) fun t75 =>
  next22 [t74, t75] h23) (
  Q (nthA vs22 0) h)
def txn_Txn_more_l25 (s52 s51 s0 : AV) (Q : QT) (vs19 : List AV) (h : AHeap) (next19 : NT) : Prop :=
  qBin .lss (nthA vs19 1) s52 fun t54 =>
  ifB t54 (
  qIndexAddr 1 s51 (nthA vs19 1) fun t55 =>
  qLoad1 t55 h fun t56 =>
  qBin .add (S ⟨#[102]⟩) t56 fun t59 =>
  qBuildSlice 1 1 [t59] fun t60 =>
  qAppend 1 16 (nthA vs19 0) t60 h fun t61 h20 =>
  qBin .add (nthA vs19 1) (I 1) fun t62 =>
  next19 [t61, t62] h20) (
  C fn_txn_Txn_names [s0, (S ⟨#[101]⟩)] h fun t64 h21 =>
  qLenL t64 fun t65 =>
  Loop [(nthA vs19 0), (I 0)] h21 fun vs22 h next22 => txn_Txn_more_l24 t65 t64 Q vs22 h next22)
def txn_Txn_more (a0 a1 : AV) (h : AHeap) (Q : QT) : Prop :=
  qNil a0 fun t12 =>
  qFieldAddr 2 t12 fun t13 =>
  qFieldAddr 0 t13 fun t14 =>
  qLoad1 t14 h fun t15 =>
  qBin .eql t15 (I 3) fun t16 =>
  ifB t16 (qBin .eql a1 (S ⟨#[100]⟩) fun t19 =>
  ifB t19 (qNil a0 fun t26 =>
  qFieldAddr 2 t26 fun t27 =>
  qFieldAddr 1 t27 fun t28 =>
  qLoad1 t28 h fun t29 =>
  C fn_txn_Txn_names [a0, a1] h fun t24 h0 =>
  (qLoad1 t28 h0 fun _t =>
  _t = t29) ∧
  C fn_slices_Contains__string_string [t24, t29] h0 fun t30 h1 =>
  ifB t30 (
  qNil a0 fun t33 =>
  qFieldAddr 2 t33 fun t34 =>
  qFieldAddr 1 t34 fun t35 =>
  qLoad1 t35 h1 fun t36 =>
  qBin .add (S ⟨#[102]⟩) t36 fun t37 =>
  qBuildSlice 1 1 [t37] fun t38 =>
  Q t38 h1) (
  qNil a0 fun t41 =>
  qFieldAddr 2 t41 fun t42 =>
  qFieldAddr 0 t42 fun t43 =>
  qLoad1 t43 h1 fun t44 =>
  qBin .neq t44 (I 7) fun t45 =>
  ifB t45 (Q (.full 0 []) h1) (
  qBin .neq a1 (S ⟨#[101]⟩) fun t48 =>
  ifB t48 (
  Q (.full 0 []) h1) (
  C fn_txn_Txn_names [a0, (S ⟨#[100]⟩)] h1 fun t51 h2 =>
  qLenL t51 fun t52 =>
  Loop [(.full 0 []), (I 0)] h2 fun vs3 h next3 => txn_Txn_more_l9 t52 t51 a0 Q vs3 h next3)))) (
  qNil a0 fun t41 =>
  qFieldAddr 2 t41 fun t42 =>
  qFieldAddr 0 t42 fun t43 =>
  qLoad1 t43 h fun t44 =>
  qBin .neq t44 (I 7) fun t45 =>
  ifB t45 (Q (.full 0 []) h) (
  qBin .neq a1 (S ⟨#[101]⟩) fun t48 =>
  ifB t48 (
  Q (.full 0 []) h) (
  C fn_txn_Txn_names [a0, (S ⟨#[100]⟩)] h fun t51 h10 =>
  qLenL t51 fun t52 =>
  Loop [(.full 0 []), (I 0)] h10 fun vs11 h next11 => txn_Txn_more_l17 t52 t51 a0 Q vs11 h next11)))) (
  qNil a0 fun t41 =>
  qFieldAddr 2 t41 fun t42 =>
  qFieldAddr 0 t42 fun t43 =>
  qLoad1 t43 h fun t44 =>
  qBin .neq t44 (I 7) fun t45 =>
  ifB t45 (Q (.full 0 []) h) (
  qBin .neq a1 (S ⟨#[101]⟩) fun t48 =>
  ifB t48 (
  Q (.full 0 []) h) (
  C fn_txn_Txn_names [a0, (S ⟨#[100]⟩)] h fun t51 h18 =>
  qLenL t51 fun t52 =>
  Loop [(.full 0 []), (I 0)] h18 fun vs19 h next19 => txn_Txn_more_l25 t52 t51 a0 Q vs19 h next19)))
theorem txn_Txn_more_ok (a0 a1 : AV) (h : AHeap) (Q : QT) (k : txn_Txn_more a0 a1 h Q) : C fn_txn_Txn_more [a0, a1] h Q :=
  okF (pl := [(1000001, [0, 1, 2, 3, 4, 5, 6, 7, 8, 9, 10, 11, 12, 14, 15, 16, 17, 18, 13, 19, 20, 21], []), (8, [5, 7, 53, 54, 55, 56, 57, 58, 59, 60, 61, 62], [5, 53]), (13, [5, 9, 66, 67, 68, 69, 70, 71, 72, 73, 74, 75], [5, 66])]) Tryz.func47 Tryz.ntmps47 (by kernel_rfl) (by kernel_rfl) rfl (by kernel_rfl) k
def txn_Txn_names (a0 a1 : AV) (h : AHeap) (Q : QT) : Prop :=
  qNil a0 fun t6 =>
  qFieldAddr 11 t6 fun t7 =>
  qLoad1 t7 h fun t8 =>
  qLookup .string false (.agg [(S ⟨#[]⟩), (B false)]) t8 a1 h fun t10 =>
  qPart1 0 t10 fun t11 =>
  C fn_txn_Parts [t11] h fun t12 h0 =>
  Q t12 h0
theorem txn_Txn_names_ok (a0 a1 : AV) (h : AHeap) (Q : QT) (k : txn_Txn_names a0 a1 h Q) : C fn_txn_Txn_names [a0, a1] h Q :=
  okF (pl := []) Tryz.func62 Tryz.ntmps62 (by kernel_rfl) (by kernel_rfl) rfl (by kernel_rfl) k
def txn_Txn_read (a0 : AV) (h : AHeap) (Q : QT) : Prop :=
  qNil a0 fun t6 =>
  qFieldAddr 10 t6 fun t7 =>
  qLoad1 t7 h fun t8 =>
  qIndexAddr 1 t8 (I 0) fun t9 =>
  qLoad1 t9 h fun t10 =>
  qNil a0 fun t13 =>
  qFieldAddr 0 t13 fun t14 =>
  qLoad1 t14 h fun t15 =>
  qNil a0 fun t18 =>
  qFieldAddr 9 t18 fun t19 =>
  qLoad1 t19 h fun t20 =>
  C fn_store_Store_Read [t15, t10, t20] h fun t21 h0 =>
  qExtract 0 t21 fun t22 =>
  qExtract 1 t21 fun t23 =>
  qNil a0 fun t25 =>
  qFieldAddr 11 t25 fun t26 =>
  qLoad1 t26 h0 fun t27 =>
  qBuild [(S ⟨#[]⟩), (B false)] [(0, 1, t22), (1, 1, t23)] fun t31 =>
  qMapUpdate .string t27 t10 t31 h0 fun h1 =>
  qNil a0 fun t34 =>
  qFieldAddr 10 t34 fun t35 =>
  qLoad1 t35 h1 fun t36 =>
  qSliceL 1 t36 (some (I 1)) none fun t37 =>
  C fn_slices_Clone__string_string [t37] h1 fun t38 h2 =>
  C fn_txn_Txn_more [a0, t10] h2 fun t41 h3 =>
  qAppend 1 16 t38 t41 h3 fun t42 h4 =>
  qNil a0 fun t43 =>
  qFieldAddr 10 t43 fun t44 =>
  qStore 1 t44 t42 h4 fun h5 =>
  Q (.tup []) h5
theorem txn_Txn_read_ok (a0 : AV) (h : AHeap) (Q : QT) (k : txn_Txn_read a0 h Q) : C fn_txn_Txn_read [a0] h Q :=
  okF (pl := [(1000001, [0, 1, 2, 3, 4, 5, 6, 7, 8, 9, 10, 11, 12, 13, 14], [])]) Tryz.func34 Tryz.ntmps34 (by kernel_rfl) (by kernel_rfl) rfl (by kernel_rfl) k
def txn_Txn_set (a0 a1 a2 a3 a4 : AV) (h : AHeap) (Q : QT) : Prop :=
  qNil a0 fun t16 =>
  qFieldAddr 2 t16 fun t17 =>
  qFieldAddr 1 t17 fun t18 =>
  qLoad1 t18 h fun t19 =>
  qBin .add a2 t19 fun t20 =>
  qBuild [(S ⟨#[]⟩), (S ⟨#[]⟩), (B false)] [(0, 1, t20), (1, 1, a3)] fun t22 =>
  qBuildSlice 1 3 [t22] fun t23 =>
  C fn_txn_Txn_names [a0, a1] h fun t26 h0 =>
  qNil a0 fun t30 =>
  qFieldAddr 2 t30 fun t31 =>
  qFieldAddr 1 t31 fun t32 =>
  qLoad1 t32 h0 fun t33 =>
  C fn_slices_Contains__string_string [t26, t33] h0 fun t34 h1 =>
  ifB t34 (
  Q (.tup [t23, (I 0)]) h1) (
  qLenL t26 fun t38 =>
  qBin .geq t38 a4 fun t40 =>
  ifB t40 (
  Q (.tup [(.full 0 []), (I 10)]) h1) (
  qNil a0 fun t45 =>
  qFieldAddr 2 t45 fun t46 =>
  qFieldAddr 1 t46 fun t47 =>
  qLoad1 t47 h1 fun t48 =>
  C fn_txn_with [t26, t48] h1 fun t49 h2 =>
  C fn_txn_list [a1, t49] h2 fun t50 h3 =>
  qBuildSlice 1 3 [t50] fun t51 =>
  qAppend 3 40 t23 t51 h3 fun t52 h4 =>
  Q (.tup [t52, (I 0)]) h4))
theorem txn_Txn_set_ok (a0 a1 a2 a3 a4 : AV) (h : AHeap) (Q : QT) (k : txn_Txn_set a0 a1 a2 a3 a4 h Q) : C fn_txn_Txn_set [a0, a1, a2, a3, a4] h Q :=
  okF (pl := []) Tryz.func66 Tryz.ntmps66 (by kernel_rfl) (by kernel_rfl) rfl (by kernel_rfl) k
def txn_Txn_show (a0 : AV) (h : AHeap) (Q : QT) : Prop :=
  qNew [(I 0), (S ⟨#[]⟩), (.full 0 []), (.full 0 [])] h fun t2 h0 =>
  qNil a0 fun t5 =>
  qFieldAddr 11 t5 fun t6 =>
  qLoad1 t6 h0 fun t7 =>
  qNil a0 fun t9 =>
  qFieldAddr 2 t9 fun t10 =>
  qFieldAddr 1 t10 fun t11 =>
  qLoad1 t11 h0 fun t12 =>
  qBin .add (S ⟨#[102]⟩) t12 fun t13 =>
  qLookup .string false (.agg [(S ⟨#[]⟩), (B false)]) t7 t13 h0 fun t14 =>
  qNew [(S ⟨#[]⟩), (B false)] h0 fun t3 h1 =>
  (qLookup .string false (.agg [(S ⟨#[]⟩), (B false)]) t7 t13 h1 fun _t =>
  _t = t14) ∧
  (qLoad1 t11 h1 fun _t =>
  _t = t12) ∧
  (qLoad1 t6 h1 fun _t =>
  _t = t7) ∧
  qStore 2 t3 t14 h1 fun h2 =>
  qFieldAddr 1 t3 fun t15 =>
  qLoad1 t15 h2 fun t16 =>
  qUn .not t16 fun t17 =>
  ifB t17 (
  qBuild [(I 0), (S ⟨#[]⟩), (.full 0 []), (.full 0 [])] [(0, 1, (I 9))] fun t18 =>
  qStore 4 t2 t18 h2 fun h3 =>
  qLoadA 4 t2 h3 fun r4 =>
  Q r4 h3) (
  qFieldAddr 0 t3 fun t19 =>
  qLoad1 t19 h2 fun t20 =>
  qBuild [(I 0), (S ⟨#[]⟩), (.full 0 []), (.full 0 [])] [(1, 1, t20)] fun t21 =>
  qStore 4 t2 t21 h2 fun h5 =>
  qLoadA 4 t2 h5 fun r6 =>
  Q r6 h5)
theorem txn_Txn_show_ok (a0 : AV) (h : AHeap) (Q : QT) (k : txn_Txn_show a0 h Q) : C fn_txn_Txn_show [a0] h Q :=
  okF (pl := [(1000001, [0, 1, 2, 3, 4, 5, 6, 7, 8, 9, 10, 11, 12], [])]) Tryz.func49 Tryz.ntmps49 (by kernel_rfl) (by kernel_rfl) rfl (by kernel_rfl) k
def txn_Txn_told (a0 a1 : AV) (h : AHeap) (Q : QT) : Prop :=
  qBox a1 h fun t3 h0 =>
  qNew [(I 0), (S ⟨#[]⟩), (.full 0 []), (.full 0 []), (I 0), (B false)] h0 fun t4 h1 =>
  qNil a0 fun t7 =>
  qFieldAddr 8 t7 fun t8 =>
  qStore 1 t8 (B true) h1 fun h2 =>
  qLoadA 6 t3 h2 fun t9 =>
  qStore 6 t4 t9 h2 fun h3 =>
  qLoadA 6 t4 h3 fun r4 =>
  Q (.tup [r4, (B true)]) h3
theorem txn_Txn_told_ok (a0 a1 : AV) (h : AHeap) (Q : QT) (k : txn_Txn_told a0 a1 h Q) : C fn_txn_Txn_told [a0, a1] h Q :=
  okF (pl := []) Tryz.func32 Tryz.ntmps32 (by kernel_rfl) (by kernel_rfl) rfl (by kernel_rfl) k
def txn_Txn_writes (a0 : AV) (h : AHeap) (Q : QT) : Prop :=
  qNil a0 fun t6 =>
  qFieldAddr 2 t6 fun t7 =>
  qFieldAddr 0 t7 fun t8 =>
  qLoad1 t8 h fun t9 =>
  qBin .eql t9 (I 1) fun t11 =>
  ifB t11 (
  qNil a0 fun t14 =>
  qFieldAddr 2 t14 fun t15 =>
  qFieldAddr 2 t15 fun t16 =>
  qLoad1 t16 h fun t17 =>
  C fn_txn_Txn_set [a0, (S ⟨#[100]⟩), (S ⟨#[102]⟩), t17, (I 8)] h fun t18 h0 =>
  qExtract 0 t18 fun t19 =>
  qExtract 1 t18 fun t20 =>
  Q (.tup [t19, t20]) h0) (
  qBin .eql t9 (I 5) fun t22 =>
  ifB t22 (
  qNil a0 fun t25 =>
  qFieldAddr 2 t25 fun t26 =>
  qFieldAddr 3 t26 fun t27 =>
  qLoad1 t27 h fun t28 =>
  C fn_strconv_Itoa [t28] h fun t29 h1 =>
  C fn_txn_Txn_set [a0, (S ⟨#[101]⟩), (S ⟨#[115]⟩), t29, (I 8)] h1 fun t30 h2 =>
  qExtract 0 t30 fun t31 =>
  qExtract 1 t30 fun t32 =>
  Q (.tup [t31, t32]) h2) (
  qBin .eql t9 (I 2) fun t34 =>
  ifB t34 (
  C fn_txn_Txn_gone [a0, (S ⟨#[100]⟩), (S ⟨#[102]⟩)] h fun t36 h3 =>
  qExtract 0 t36 fun t37 =>
  qExtract 1 t36 fun t38 =>
  Q (.tup [t37, t38]) h3) (
  qBin .eql t9 (I 6) fun t40 =>
  ifB t40 (
  C fn_txn_Txn_gone [a0, (S ⟨#[101]⟩), (S ⟨#[115]⟩)] h fun t42 h4 =>
  qExtract 0 t42 fun t43 =>
  qExtract 1 t42 fun t44 =>
  Q (.tup [t43, t44]) h4) (
  qNil a0 fun t48 =>
  qFieldAddr 2 t48 fun t49 =>
  qFieldAddr 1 t49 fun t50 =>
  qLoad1 t50 h fun t51 =>
  C fn_txn_Txn_names [a0, (S ⟨#[100]⟩)] h fun t46 h5 =>
  (qLoad1 t50 h5 fun _t =>
  _t = t51) ∧
  C fn_slices_Contains__string_string [t46, t51] h5 fun t52 h6 =>
  qUn .not t52 fun t53 =>
  ifB t53 (
  Q (.tup [(.full 0 []), (I 9)]) h6) (
  qNil a0 fun t55 =>
  qFieldAddr 11 t55 fun t56 =>
  qLoad1 t56 h6 fun t57 =>
  qNil a0 fun t59 =>
  qFieldAddr 2 t59 fun t60 =>
  qFieldAddr 1 t60 fun t61 =>
  qLoad1 t61 h6 fun t62 =>
  qBin .add (S ⟨#[102]⟩) t62 fun t63 =>
  qLookup .string false (.agg [(S ⟨#[]⟩), (B false)]) t57 t63 h6 fun t64 =>
  qPart1 0 t64 fun t65 =>
  qNil a0 fun t67 =>
  qFieldAddr 2 t67 fun t68 =>
  qFieldAddr 2 t68 fun t69 =>
  qLoad1 t69 h6 fun t70 =>
  qBin .add t65 t70 fun t71 =>
  qLenS t71 fun t73 =>
  qBin .gtr t73 (I 600) fun t74 =>
  ifB t74 (
  Q (.tup [(.full 0 []), (I 10)]) h6) (
  C fn_txn_Txn_set [a0, (S ⟨#[100]⟩), (S ⟨#[102]⟩), t71, (I 8)] h6 fun t77 h7 =>
  qExtract 0 t77 fun t78 =>
  qExtract 1 t77 fun t79 =>
  Q (.tup [t78, t79]) h7))))))
theorem txn_Txn_writes_ok (a0 : AV) (h : AHeap) (Q : QT) (k : txn_Txn_writes a0 h Q) : C fn_txn_Txn_writes [a0] h Q :=
  okF (pl := [(1000010, [0, 2, 3, 4, 5, 6, 1, 7, 8], []), (1000012, [0, 1, 2, 3, 4, 5, 6, 7, 8, 9, 10, 11, 12, 13, 14, 15, 16, 17, 18], [])]) Tryz.func51 Tryz.ntmps51 (by kernel_rfl) (by kernel_rfl) rfl (by kernel_rfl) k
def txn_list (a0 a1 : AV) (h : AHeap) (Q : QT) : Prop :=
  qNew [(S ⟨#[]⟩), (S ⟨#[]⟩), (B false)] h fun t4 h0 =>
  C fn_txn_Join [a1] h0 fun t7 h1 =>
  qBuild [(S ⟨#[]⟩), (S ⟨#[]⟩), (B false)] [(0, 1, a0), (1, 1, t7)] fun t8 =>
  qStore 3 t4 t8 h1 fun h2 =>
  qLoadA 3 t4 h2 fun r3 =>
  Q r3 h2
theorem txn_list_ok (a0 a1 : AV) (h : AHeap) (Q : QT) (k : txn_list a0 a1 h Q) : C fn_txn_list [a0, a1] h Q :=
  okF (pl := []) Tryz.func84 Tryz.ntmps84 (by kernel_rfl) (by kernel_rfl) rfl (by kernel_rfl) k
def txn_with (a0 a1 : AV) (h : AHeap) (Q : QT) : Prop :=
  C fn_slices_Clone__string_string [a0] h fun t6 h0 =>
  qBuildSlice 1 1 [a1] fun t8 =>
  qAppend 1 16 t6 t8 h0 fun t9 h1 =>
  C fn_slices_Sort__string_string [t9] h1 fun t11 h2 =>
  C fn_slices_Compact__string_string [t9] h2 fun t13 h3 =>
  Q t13 h3
theorem txn_with_ok (a0 a1 : AV) (h : AHeap) (Q : QT) (k : txn_with a0 a1 h Q) : C fn_txn_with [a0, a1] h Q :=
  okF (pl := []) Tryz.func85 Tryz.ntmps85 (by kernel_rfl) (by kernel_rfl) rfl (by kernel_rfl) k
def txn_without (a0 a1 : AV) (h : AHeap) (Q : QT) : Prop :=
  qBox a1 h fun t3 h0 =>
  C fn_slices_Clone__string_string [a0] h0 fun t6 h1 =>
  C fn_slices_DeleteFunc__string_string [t6, (.fn (.func fn_txn_without_1) [] [t3])] h1 fun t8 h2 =>
  Q t8 h2
theorem txn_without_ok (a0 a1 : AV) (h : AHeap) (Q : QT) (k : txn_without a0 a1 h Q) : C fn_txn_without [a0, a1] h Q :=
  okF (pl := []) Tryz.func87 Tryz.ntmps87 (by kernel_rfl) (by kernel_rfl) rfl (by kernel_rfl) k
def txn_without_1 (a0 a1 : AV) (h : AHeap) (Q : QT) : Prop :=
  qLoad1 a1 h fun t5 =>
  qBin .eql a0 t5 fun t6 =>
  Q t6 h
theorem txn_without_1_ok (a0 a1 : AV) (h : AHeap) (Q : QT) (k : txn_without_1 a0 a1 h Q) : C fn_txn_without_1 [a0, a1] h Q :=
  okF (pl := []) Tryz.func109 Tryz.ntmps109 (by kernel_rfl) (by kernel_rfl) rfl (by kernel_rfl) k
def work_Right (a0 : AV) (h : AHeap) (Q : QT) : Prop :=
  qBox a0 h fun t1 h0 =>
  qFieldAddr 0 t1 fun t3 =>
  qLoad1 t3 h0 fun t4 =>
  qBin .lss t4 (I 1) fun t5 =>
  ifB t5 (Q (B false) h0) (
  qFieldAddr 0 t1 fun t7 =>
  qLoad1 t7 h0 fun t8 =>
  qBin .gtr t8 (I 7) fun t9 =>
  ifB t9 (
  Q (B false) h0) (
  qFieldAddr 0 t1 fun t11 =>
  qLoad1 t11 h0 fun t12 =>
  qBin .eql t12 (I 7) fun t13 =>
  ifB t13 (
  qLoadA 4 t1 h0 fun t14 =>
  qBuild [(I 0), (S ⟨#[]⟩), (S ⟨#[]⟩), (I 0)] [(0, 1, (I 7))] fun t15 =>
  qEqS .eql [(.int .i64), .string, .string, (.int .i64)] t14 t15 fun t16 =>
  Q t16 h0) (
  qFieldAddr 1 t1 fun t17 =>
  qLoad1 t17 h0 fun t18 =>
  C fn_line_Word [t18] h0 fun t19 h1 =>
  qUn .not t19 fun t20 =>
  ifB t20 (Q (B false) h1) (
  qFieldAddr 2 t1 fun t22 =>
  qLoad1 t22 h1 fun t23 =>
  qLenS t23 fun t24 =>
  qBin .gtr t24 (I 600) fun t25 =>
  ifB t25 (Q (B false) h1) (
  qFieldAddr 2 t1 fun t28 =>
  qLoad1 t28 h1 fun t29 =>
  qBin .neq t29 (S ⟨#[]⟩) fun t30 =>
  ifT t30 (qFieldAddr 0 t1 fun t32 =>
  qLoad1 t32 h1 fun t33 =>
  C fn_work_writes [t33] h1 fun t34 h2 =>
  qUn .not t34 fun t35 =>
  ifB t35 (
  Q (B false) h2) (
  qFieldAddr 3 t1 fun t38 =>
  qLoad1 t38 h2 fun t39 =>
  qBin .geq t39 (I (-1099511627776)) fun t40 =>
  ifB t40 (qFieldAddr 3 t1 fun t42 =>
  qLoad1 t42 h2 fun t43 =>
  qBin .leq t43 (I 1099511627776) fun t44 =>
  ifB t44 (qFieldAddr 3 t1 fun t47 =>
  qLoad1 t47 h2 fun t48 =>
  qBin .eql t48 (I 0) fun t49 =>
  ifT t49 (Q (B true) h2) (
  qFieldAddr 0 t1 fun t51 =>
  qLoad1 t51 h2 fun t52 =>
  C fn_work_defines [t52] h2 fun t53 h3 =>
  Q t53 h3) (
  ifB (.tup []) (Q (B true) h2) (Q (.tup []) h2))) (
  Q (B false) h2)) (
  Q (B false) h2))) (
  qFieldAddr 3 t1 fun t38 =>
  qLoad1 t38 h1 fun t39 =>
  qBin .geq t39 (I (-1099511627776)) fun t40 =>
  ifB t40 (qFieldAddr 3 t1 fun t42 =>
  qLoad1 t42 h1 fun t43 =>
  qBin .leq t43 (I 1099511627776) fun t44 =>
  ifB t44 (qFieldAddr 3 t1 fun t47 =>
  qLoad1 t47 h1 fun t48 =>
  qBin .eql t48 (I 0) fun t49 =>
  ifT t49 (Q (B true) h1) (
  qFieldAddr 0 t1 fun t51 =>
  qLoad1 t51 h1 fun t52 =>
  C fn_work_defines [t52] h1 fun t53 h4 =>
  Q t53 h4) (
  ifB (.tup []) (Q (B true) h1) (Q (.tup []) h1))) (
  Q (B false) h1)) (
  Q (B false) h1)) (
  ifB (.tup []) (ifB (.tup []) (
  Q (B false) h1) (
  qFieldAddr 3 t1 fun t38 =>
  qLoad1 t38 h1 fun t39 =>
  qBin .geq t39 (I (-1099511627776)) fun t40 =>
  ifB t40 (qFieldAddr 3 t1 fun t42 =>
  qLoad1 t42 h1 fun t43 =>
  qBin .leq t43 (I 1099511627776) fun t44 =>
  ifB t44 (qFieldAddr 3 t1 fun t47 =>
  qLoad1 t47 h1 fun t48 =>
  qBin .eql t48 (I 0) fun t49 =>
  ifT t49 (Q (B true) h1) (
  qFieldAddr 0 t1 fun t51 =>
  qLoad1 t51 h1 fun t52 =>
  C fn_work_defines [t52] h1 fun t53 h5 =>
  Q t53 h5) (
  ifB (.tup []) (Q (B true) h1) (Q (.tup []) h1))) (
  Q (B false) h1)) (
  Q (B false) h1))) (qFieldAddr 3 t1 fun t38 =>
  qLoad1 t38 h1 fun t39 =>
  qBin .geq t39 (I (-1099511627776)) fun t40 =>
  ifB t40 (qFieldAddr 3 t1 fun t42 =>
  qLoad1 t42 h1 fun t43 =>
  qBin .leq t43 (I 1099511627776) fun t44 =>
  ifB t44 (qFieldAddr 3 t1 fun t47 =>
  qLoad1 t47 h1 fun t48 =>
  qBin .eql t48 (I 0) fun t49 =>
  ifT t49 (Q (B true) h1) (
  qFieldAddr 0 t1 fun t51 =>
  qLoad1 t51 h1 fun t52 =>
  C fn_work_defines [t52] h1 fun t53 h6 =>
  Q t53 h6) (
  ifB (.tup []) (Q (B true) h1) (Q (.tup []) h1))) (
  Q (B false) h1)) (
  Q (B false) h1))))))))
theorem work_Right_ok (a0 : AV) (h : AHeap) (Q : QT) (k : work_Right a0 h Q) : C fn_work_Right [a0] h Q :=
  okF (pl := []) Tryz.func31 Tryz.ntmps31 (by kernel_rfl) (by kernel_rfl) rfl (by kernel_rfl) k
def work_defines (a0 : AV) (h : AHeap) (Q : QT) : Prop :=
  qBin .eql a0 (I 5) fun t4 =>
  Q t4 h
theorem work_defines_ok (a0 : AV) (h : AHeap) (Q : QT) (k : work_defines a0 h Q) : C fn_work_defines [a0] h Q :=
  okF (pl := []) Tryz.func44 Tryz.ntmps44 (by kernel_rfl) (by kernel_rfl) rfl (by kernel_rfl) k
def work_writes (a0 : AV) (h : AHeap) (Q : QT) : Prop :=
  qBin .eql a0 (I 1) fun t4 =>
  ifB t4 (Q (B true) h) (
  qBin .eql a0 (I 3) fun t7 =>
  Q t7 h)
theorem work_writes_ok (a0 : AV) (h : AHeap) (Q : QT) (k : work_writes a0 h Q) : C fn_work_writes [a0] h Q :=
  okF (pl := []) Tryz.func43 Tryz.ntmps43 (by kernel_rfl) (by kernel_rfl) rfl (by kernel_rfl) k
end
end Go.Proofs.YtamfimhaimaeiaaGreatDoor.AL
