import Derived.Test.YthigmipcadhnkaaGreatDoorF5
set_option linter.all false
set_option autoImplicit true
set_option relaxedAutoImplicit true
set_option maxRecDepth 100000
namespace Go.Proofs.YthigmipcadhnkaaGreatDoor.AL
noncomputable section
open Go.Proofs
variable [Tabs]
def law5_AsmData_l7 (s11 s9 s6 : AV) (Q : QT) (vs6 : List AV) (h : AHeap) (next6 : NT) : Prop :=
  qBin .lss (nthA vs6 1) s6 fun t97 =>
  ifB t97 (
  qIndexAddr 1 s11 (nthA vs6 1) fun t102 =>
  qLoad1 t102 h fun t103 =>
  qBin .sub s6 (I 1) fun t106 =>
  qBin .sub t106 (nthA vs6 1) fun t108 =>
  qBin .mul (I 8) t108 fun t109 =>
  qConvII .u64 t109 fun t110 =>
  qBin .shr s9 t110 fun t111 =>
  qConvII .u8 t111 fun t112 =>
  qBin .neq t103 t112 fun t113 =>
  ifB t113 (
  Q (B false) h) (
  qBin .add (nthA vs6 1) (I 1) fun t99 =>
  next6 [(nthA vs6 0), t99] h)) (
  Q (B true) h)
def law5_AsmData (a0 a1 : AV) (h : AHeap) (Q : QT) : Prop :=
  C fn_law5_known [] h fun t14 h0 =>
  qUn .not t14 fun t15 =>
  ifB t15 (
  Q (B false) h0) (
  C fn_law5_within [a1, (I 3)] h0 fun t17 h1 =>
  qBuildSlice 3 1 [(I 1), (I 2), (I 4)] fun t18 =>
  qIndexAddr 1 t18 t17 fun t20 =>
  qLoad1 t20 h1 fun t21 =>
  qBuildSlice 3 1 [(I (-128)), (I (-32768)), (I (-2147483648))] fun t22 =>
  qIndexAddr 1 t22 t17 fun t24 =>
  qLoad1 t24 h1 fun t25 =>
  qBuildSlice 3 1 [(I 255), (I 65535), (I 4294967295)] fun t26 =>
  qIndexAddr 1 t26 t17 fun t28 =>
  qLoad1 t28 h1 fun t29 =>
  C fn_law5_within [a0, (I 17179869184)] h1 fun t31 h2 =>
  qBin .sub t31 (I 8589934592) fun t32 =>
  C fn_law5_within [a0, (I 600)] h2 fun t34 h3 =>
  qBin .sub t34 (I 300) fun t35 =>
  qBin .sub t25 (I 1) fun t39 =>
  qBin .add t29 (I 1) fun t41 =>
  qBuildSlice 6 1 [t32, t35, t25, t29, t39, t41] fun t42 =>
  qBin .quo a0 (I 7) fun t44 =>
  C fn_law5_within [t44, (I 6)] h3 fun t45 h4 =>
  qIndexAddr 1 t42 t45 fun t46 =>
  qLoad1 t46 h4 fun t47 =>
  qBuildSlice 3 1 [(S ⟨#[46, 98, 121, 116, 101, 32]⟩), (S ⟨#[46, 104, 97, 108, 102, 32]⟩), (S ⟨#[46, 108, 111, 110, 103, 32]⟩)] fun t48 =>
  qIndexAddr 1 t48 t17 fun t50 =>
  qLoad1 t50 h4 fun t51 =>
  qBin .add t51 (S ⟨#[120]⟩) fun t52 =>
  qBuild [(S ⟨#[]⟩), (S ⟨#[]⟩)] [(0, 1, (S ⟨#[97]⟩)), (1, 1, t52)] fun t55 =>
  qBuildSlice 1 2 [t55] fun t56 =>
  qBuild [(S ⟨#[]⟩), (I 0)] [(0, 1, (S ⟨#[120]⟩)), (1, 1, t47)] fun t58 =>
  qBuildSlice 1 2 [t58] fun t59 =>
  C fn_asm_Assemble [t56, t59] h4 fun t60 h5 =>
  qExtract 0 t60 fun t61 =>
  qExtract 1 t60 fun t62 =>
  qBin .lss t47 t25 fun t65 =>
  ifB t65 (qLenL t61 fun t72 =>
  qBin .eql t72 (I 0) fun t73 =>
  ifB t73 (qLenL t62 fun t76 =>
  qBin .eql t76 (I 1) fun t77 =>
  ifB t77 (qIndexAddr 3 t62 (I 0) fun t81 =>
  qFieldAddr 2 t81 fun t82 =>
  qLoad1 t82 h5 fun t83 =>
  qBin .eql t83 (I 6) fun t84 =>
  Q t84 h5) (
  Q (B false) h5)) (
  Q (B false) h5)) (
  qBin .gtr t47 t29 fun t69 =>
  ifB t69 (
  qLenL t61 fun t72 =>
  qBin .eql t72 (I 0) fun t73 =>
  ifB t73 (qLenL t62 fun t76 =>
  qBin .eql t76 (I 1) fun t77 =>
  ifB t77 (qIndexAddr 3 t62 (I 0) fun t81 =>
  qFieldAddr 2 t81 fun t82 =>
  qLoad1 t82 h5 fun t83 =>
  qBin .eql t83 (I 6) fun t84 =>
  Q t84 h5) (
  Q (B false) h5)) (
  Q (B false) h5)) (
  qLenL t62 fun t87 =>
  qBin .neq t87 (I 0) fun t88 =>
  ifB t88 (Q (B false) h5) (
  qLenL t61 fun t91 =>
  qBin .neq t91 t21 fun t93 =>
  ifB t93 (
  Q (B false) h5) (
  Loop [(B false), (I 0)] h5 fun vs6 h next6 => law5_AsmData_l7 t61 t47 t21 Q vs6 h next6)))))
theorem law5_AsmData_ok (a0 a1 : AV) (h : AHeap) (Q : QT) (k : law5_AsmData a0 a1 h Q) : C fn_law5_AsmData [a0, a1] h Q :=
  okF (pl := [(1000005, [0, 1, 2, 3, 4, 5, 6, 7, 8, 9], []), (15, [4, 13, 95, 96, 97, 98, 99, 100, 101, 102, 103, 104, 105, 106, 107, 108, 109, 110, 111, 112, 113], [4, 13])]) Tryz.func4 Tryz.ntmps4 (by kernel_rfl) (by kernel_rfl) rfl (by kernel_rfl) k
def law5_known (h : AHeap) (Q : QT) : Prop :=
  C fn_asm_Assemble [(.full 0 []), (.full 0 [])] h fun t10 h0 =>
  qExtract 0 t10 fun t11 =>
  qExtract 1 t10 fun t12 =>
  qBuild [(S ⟨#[]⟩), (S ⟨#[]⟩)] [(0, 1, (S ⟨#[97]⟩)), (1, 1, (S ⟨#[103, 111, 58, 32, 98, 32, 103, 111, 10, 46, 98, 121, 116, 101, 32, 107]⟩))] fun t14 =>
  qBuildSlice 1 2 [t14] fun t15 =>
  qBuild [(S ⟨#[]⟩), (I 0)] [(0, 1, (S ⟨#[107]⟩)), (1, 1, (I 7))] fun t16 =>
  qBuildSlice 1 2 [t16] fun t17 =>
  C fn_asm_Assemble [t15, t17] h0 fun t18 h1 =>
  qExtract 0 t18 fun t19 =>
  qExtract 1 t18 fun t20 =>
  qBuild [(S ⟨#[]⟩), (S ⟨#[]⟩)] [(0, 1, (S ⟨#[97]⟩)), (1, 1, (S ⟨#[110, 111, 112]⟩))] fun t22 =>
  qBuildSlice 1 2 [t22] fun t23 =>
  C fn_asm_Assemble [t23, (.full 0 [])] h1 fun t24 h2 =>
  qExtract 0 t24 fun t25 =>
  qExtract 1 t24 fun t26 =>
  qBuild [(S ⟨#[]⟩), (S ⟨#[]⟩)] [(0, 1, (S ⟨#[97]⟩)), (1, 1, (S ⟨#[103, 111, 58, 32, 98, 32, 103, 111]⟩))] fun t28 =>
  qBuildSlice 1 2 [t28] fun t29 =>
  C fn_asm_Grown [t29, (.full 0 [])] h2 fun t30 h3 =>
  qExtract 0 t30 fun t31 =>
  qExtract 1 t30 fun t32 =>
  qLenL t11 fun t34 =>
  qBin .eql t34 (I 0) fun t35 =>
  ifB t35 (qLenL t12 fun t38 =>
  qBin .eql t38 (I 0) fun t39 =>
  ifB t39 (qLenL t20 fun t43 =>
  qBin .eql t43 (I 0) fun t44 =>
  ifB t44 (qLenL t19 fun t48 =>
  qBin .eql t48 (I 3) fun t49 =>
  ifB t49 (qIndexAddr 1 t19 (I 0) fun t53 =>
  qLoad1 t53 h3 fun t54 =>
  qBin .eql t54 (.lit (.int .u8 232)) fun t55 =>
  ifB t55 (qIndexAddr 1 t19 (I 2) fun t59 =>
  qLoad1 t59 h3 fun t60 =>
  qBin .eql t60 (.lit (.int .u8 7)) fun t61 =>
  ifB t61 (qLenL t26 fun t65 =>
  qBin .eql t65 (I 1) fun t66 =>
  ifB t66 (qIndexAddr 3 t26 (I 0) fun t70 =>
  qFieldAddr 2 t70 fun t71 =>
  qLoad1 t71 h3 fun t72 =>
  qBin .eql t72 (I 1) fun t73 =>
  ifB t73 (ifB t32 (qLenL t31 fun t80 =>
  qBin .eql t80 (I 1) fun t81 =>
  ifB t81 (qIndexAddr 1 t31 (I 0) fun t85 =>
  qLoad1 t85 h3 fun t86 =>
  qBin .eql t86 (I 2) fun t87 =>
  Q t87 h3) (
  Q (B false) h3)) (
  Q (B false) h3)) (
  Q (B false) h3)) (
  Q (B false) h3)) (
  Q (B false) h3)) (
  Q (B false) h3)) (
  Q (B false) h3)) (
  Q (B false) h3)) (
  Q (B false) h3)) (
  Q (B false) h3)
theorem law5_known_ok (h : AHeap) (Q : QT) (k : law5_known  h Q) : C fn_law5_known [] h Q :=
  okF (pl := []) Tryz.func6 Tryz.ntmps6 (by kernel_rfl) (by kernel_rfl) rfl (by kernel_rfl) k
def law5_within_j0 (s5 : AV) (h : AHeap) (Q : QT) : Prop :=
  Q s5 h
def law5_within (a0 a1 : AV) (h : AHeap) (Q : QT) : Prop :=
  qBin .rem a0 a1 fun t8 =>
  qBin .lss t8 (I 0) fun t10 =>
  ifB t10 (
  qBin .add t8 a1 fun t13 =>
  law5_within_j0 t13 h Q) (
  law5_within_j0 t8 h Q)
theorem law5_within_ok (a0 a1 : AV) (h : AHeap) (Q : QT) (k : law5_within a0 a1 h Q) : C fn_law5_within [a0, a1] h Q :=
  okF (pl := []) Tryz.func10 Tryz.ntmps10 (by kernel_rfl) (by kernel_rfl) rfl (by kernel_rfl) k
end
end Go.Proofs.YthigmipcadhnkaaGreatDoor.AL
