import Derived.Test.YtiddcelpooenfaaGreatDoorF5
set_option linter.all false
set_option autoImplicit true
set_option relaxedAutoImplicit true
set_option maxRecDepth 100000
namespace Go.Proofs.YtiddcelpooenfaaGreatDoor.AL
noncomputable section
open Go.Proofs
variable [Tabs]
def law5_AsmAligns_l9 (s12 s8 s5 : AV) (Q : QT) (vs8 : List AV) (h : AHeap) (next8 : NT) : Prop :=
  qBin .lss (nthA vs8 1) s12 fun t96 =>
  ifB t96 (
  qBin .neq (nthA vs8 1) s5 fun t101 =>
  ifB t101 (qIndexAddr 1 s8 (nthA vs8 1) fun t105 =>
  qLoad1 t105 h fun t106 =>
  qBin .neq t106 (.lit (.int .u8 0)) fun t107 =>
  ifB t107 (
  Q (B false) h) (
  qBin .add (nthA vs8 1) (I 1) fun t98 =>
  next8 [(nthA vs8 0), t98] h)) (
  qBin .add (nthA vs8 1) (I 1) fun t98 =>
  next8 [(nthA vs8 0), t98] h)) (
  Q (B true) h)
def law5_AsmAligns_l10 (s11 s10 s9 s8 s6 s5 s4 : AV) (Q : QT) (vs7 : List AV) (h : AHeap) (next7 : NT) : Prop :=
  qBin .rem (nthA vs7 0) s6 fun t49 =>
  qBin .neq t49 (I 0) fun t50 =>
  ifB t50 (
  qBin .add (nthA vs7 0) (I 1) fun t52 =>
  next7 [t52] h) (
  qLenL s9 fun t54 =>
  qBin .neq t54 (I 0) fun t55 =>
  ifB t55 (Q (B false) h) (
  qUn .not s11 fun t58 =>
  ifB t58 (Q (B false) h) (
  qLenL s10 fun t62 =>
  qBin .neq t62 (I 1) fun t63 =>
  ifB t63 (Q (B false) h) (
  qIndexAddr 2 s10 (I 0) fun t67 =>
  qFieldAddr 1 t67 fun t68 =>
  qLoad1 t68 h fun t69 =>
  qBin .neq t69 (nthA vs7 0) fun t71 =>
  ifB t71 (Q (B false) h) (
  qLenL s8 fun t75 =>
  qBin .add (nthA vs7 0) (I 1) fun t77 =>
  qBin .neq t75 t77 fun t78 =>
  ifB t78 (Q (B false) h) (
  qIndexAddr 1 s8 (nthA vs7 0) fun t83 =>
  qLoad1 t83 h fun t84 =>
  qBin .neq t84 (.lit (.int .u8 254)) fun t85 =>
  ifB t85 (Q (B false) h) (
  qIndexAddr 1 s8 s5 fun t90 =>
  qLoad1 t90 h fun t91 =>
  qBin .neq t91 (.lit (.int .u8 255)) fun t92 =>
  ifB t92 (
  Q (B false) h) (
  Loop [s4, (I 0)] h fun vs8 h next8 => law5_AsmAligns_l9 (nthA vs7 0) s8 s5 Q vs8 h next8))))))))
def law5_AsmAligns (a0 a1 : AV) (h : AHeap) (Q : QT) : Prop :=
  C fn_law5_known [] h fun t14 h0 =>
  qUn .not t14 fun t15 =>
  ifB t15 (
  Q (B false) h0) (
  qBuildSlice 5 1 [(I 1), (I 2), (I 4), (I 8), (I 16)] fun t18 =>
  C fn_law5_within [a0, (I 60)] h0 fun t17 h1 =>
  C fn_law5_within [a1, (I 5)] h1 fun t20 h2 =>
  qIndexAddr 1 t18 t20 fun t21 =>
  qLoad1 t21 h2 fun t22 =>
  C fn_ref3_Digits [t17] h2 fun t24 h3 =>
  qBin .add (S ⟨#[46, 115, 112, 97, 99, 101, 32]⟩) t24 fun t25 =>
  qBin .add t25 (S ⟨#[10, 46, 98, 121, 116, 101, 32, 50, 53, 53, 10, 46, 97, 108, 105, 103, 110, 32]⟩) fun t26 =>
  C fn_ref3_Digits [t22] h3 fun t28 h4 =>
  qBin .add t26 t28 fun t29 =>
  qBin .add t29 (S ⟨#[10, 120, 58, 32, 46, 98, 121, 116, 101, 32, 50, 53, 52]⟩) fun t30 =>
  qBuild [(S ⟨#[]⟩), (S ⟨#[]⟩)] [(0, 1, (S ⟨#[97]⟩)), (1, 1, t30)] fun t33 =>
  qBuildSlice 1 2 [t33] fun t34 =>
  C fn_asm_Assemble [t34, (.full 0 [])] h4 fun t35 h5 =>
  qExtract 0 t35 fun t36 =>
  qExtract 1 t35 fun t37 =>
  qBuild [(S ⟨#[]⟩), (S ⟨#[]⟩)] [(0, 1, (S ⟨#[97]⟩)), (1, 1, t30)] fun t40 =>
  qBuildSlice 1 2 [t40] fun t41 =>
  C fn_asm_Symbols [t41, (.full 0 [])] h5 fun t42 h6 =>
  qExtract 0 t42 fun t43 =>
  qExtract 1 t42 fun t44 =>
  qBin .add t17 (I 1) fun t46 =>
  Loop [t46] h6 fun vs7 h next7 => law5_AsmAligns_l10 t44 t43 t37 t36 t22 t17 (B false) Q vs7 h next7)
theorem law5_AsmAligns_ok (a0 a1 : AV) (h : AHeap) (Q : QT) (k : law5_AsmAligns a0 a1 h Q) : C fn_law5_AsmAligns [a0, a1] h Q :=
  okF (pl := [(1000003, [0, 2, 3, 1, 4, 5, 6, 7, 8], []), (9, [12, 47, 48, 49, 50, 51, 52], [12]), (14, [4, 13, 94, 95, 96, 97, 98, 99, 100, 101, 102, 103, 104, 105, 106, 107, 108], [4, 13])]) Tryz.func3 Tryz.ntmps3 (by kernel_rfl) (by kernel_rfl) rfl (by kernel_rfl) k
def law5_known (h : AHeap) (Q : QT) : Prop :=
  C fn_asm_Assemble [(.full 0 []), (.full 0 [])] h fun t10 h0 =>
  qExtract 0 t10 fun t11 =>
  qExtract 1 t10 fun t12 =>
  qBuild [(S ⟨#[]⟩), (S ⟨#[]⟩)] [(0, 1, (S ⟨#[97]⟩)), (1, 1, (S ⟨#[103, 111, 58, 32, 98, 32, 103, 111, 10, 46, 98, 121, 116, 101, 32, 107]⟩))] fun t14 =>
  qBuildSlice 1 2 [t14] fun t15 =>
  qBuild [(S ⟨#[]⟩), (I 0)] [(0, 1, (S ⟨#[107]⟩)), (1, 1, (I 7))] fun t16 =>
  qBuildSlice 1 2 [t16] fun t17 =>
  C fn_asm_Assemble [t15, t17] h0 fun t18 h1 =>
  qExtract 0 t18 fun t19 =>
  qExtract 1 t18 fun t20 =>
  qBuild [(S ⟨#[]⟩), (S ⟨#[]⟩)] [(0, 1, (S ⟨#[97]⟩)), (1, 1, (S ⟨#[110, 111, 112]⟩))] fun t22 =>
  qBuildSlice 1 2 [t22] fun t23 =>
  C fn_asm_Assemble [t23, (.full 0 [])] h1 fun t24 h2 =>
  qExtract 0 t24 fun t25 =>
  qExtract 1 t24 fun t26 =>
  qBuild [(S ⟨#[]⟩), (S ⟨#[]⟩)] [(0, 1, (S ⟨#[97]⟩)), (1, 1, (S ⟨#[103, 111, 58, 32, 98, 32, 103, 111]⟩))] fun t28 =>
  qBuildSlice 1 2 [t28] fun t29 =>
  C fn_asm_Grown [t29, (.full 0 [])] h2 fun t30 h3 =>
  qExtract 0 t30 fun t31 =>
  qExtract 1 t30 fun t32 =>
  qLenL t11 fun t34 =>
  qBin .eql t34 (I 0) fun t35 =>
  ifB t35 (qLenL t12 fun t38 =>
  qBin .eql t38 (I 0) fun t39 =>
  ifB t39 (qLenL t20 fun t43 =>
  qBin .eql t43 (I 0) fun t44 =>
  ifB t44 (qLenL t19 fun t48 =>
  qBin .eql t48 (I 3) fun t49 =>
  ifB t49 (qIndexAddr 1 t19 (I 0) fun t53 =>
  qLoad1 t53 h3 fun t54 =>
  qBin .eql t54 (.lit (.int .u8 232)) fun t55 =>
  ifB t55 (qIndexAddr 1 t19 (I 2) fun t59 =>
  qLoad1 t59 h3 fun t60 =>
  qBin .eql t60 (.lit (.int .u8 7)) fun t61 =>
  ifB t61 (qLenL t26 fun t65 =>
  qBin .eql t65 (I 1) fun t66 =>
  ifB t66 (qIndexAddr 3 t26 (I 0) fun t70 =>
  qFieldAddr 2 t70 fun t71 =>
  qLoad1 t71 h3 fun t72 =>
  qBin .eql t72 (I 1) fun t73 =>
  ifB t73 (ifB t32 (qLenL t31 fun t80 =>
  qBin .eql t80 (I 1) fun t81 =>
  ifB t81 (qIndexAddr 1 t31 (I 0) fun t85 =>
  qLoad1 t85 h3 fun t86 =>
  qBin .eql t86 (I 2) fun t87 =>
  Q t87 h3) (
  Q (B false) h3)) (
  Q (B false) h3)) (
  Q (B false) h3)) (
  Q (B false) h3)) (
  Q (B false) h3)) (
  Q (B false) h3)) (
  Q (B false) h3)) (
  Q (B false) h3)) (
  Q (B false) h3)) (
  Q (B false) h3)
theorem law5_known_ok (h : AHeap) (Q : QT) (k : law5_known  h Q) : C fn_law5_known [] h Q :=
  okF (pl := []) Tryz.func5 Tryz.ntmps5 (by kernel_rfl) (by kernel_rfl) rfl (by kernel_rfl) k
def law5_within_j0 (s5 : AV) (h : AHeap) (Q : QT) : Prop :=
  Q s5 h
def law5_within (a0 a1 : AV) (h : AHeap) (Q : QT) : Prop :=
  qBin .rem a0 a1 fun t8 =>
  qBin .lss t8 (I 0) fun t10 =>
  ifB t10 (
  qBin .add t8 a1 fun t13 =>
  law5_within_j0 t13 h Q) (
  law5_within_j0 t8 h Q)
theorem law5_within_ok (a0 a1 : AV) (h : AHeap) (Q : QT) (k : law5_within a0 a1 h Q) : C fn_law5_within [a0, a1] h Q :=
  okF (pl := []) Tryz.func6 Tryz.ntmps6 (by kernel_rfl) (by kernel_rfl) rfl (by kernel_rfl) k
def ref3_Digits (a0 : AV) (h : AHeap) (Q : QT) : Prop :=
  qBin .lss a0 (I 0) fun t4 =>
  ifB t4 (
  qBin .sub (I 0) a0 fun t6 =>
  C fn_ref3_Digits [t6] h fun t7 h0 =>
  qBin .add (S ⟨#[45]⟩) t7 fun t8 =>
  Q t8 h0) (
  qBin .geq a0 (I 10) fun t10 =>
  ifB t10 (
  qBin .quo a0 (I 10) fun t12 =>
  C fn_ref3_Digits [t12] h fun t13 h1 =>
  qBin .rem a0 (I 10) fun t15 =>
  C fn_ref3_Digits [t15] h1 fun t16 h2 =>
  qBin .add t13 t16 fun t17 =>
  Q t17 h2) (
  qBin .add (I 48) a0 fun t19 =>
  qConvII .u8 t19 fun t20 =>
  qBuildSlice 1 1 [t20] fun t21 =>
  qBytesStr t21 h fun t22 =>
  Q t22 h))
theorem ref3_Digits_ok (a0 : AV) (h : AHeap) (Q : QT) (k : ref3_Digits a0 h Q) : C fn_ref3_Digits [a0] h Q :=
  okF (pl := []) Tryz.func7 Tryz.ntmps7 (by kernel_rfl) (by kernel_rfl) rfl (by kernel_rfl) k
end
end Go.Proofs.YtiddcelpooenfaaGreatDoor.AL
