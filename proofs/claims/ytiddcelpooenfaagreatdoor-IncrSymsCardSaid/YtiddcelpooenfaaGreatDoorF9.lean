import Derived.Test.YtiddcelpooenfaaGreatDoorF5
set_option linter.all false
set_option autoImplicit true
set_option relaxedAutoImplicit true
set_option maxRecDepth 100000
namespace Go.Proofs.YtiddcelpooenfaaGreatDoor.AL
noncomputable section
open Go.Proofs
variable [Tabs]
abbrev fn_incr_Builder_Parsed : Nat := 14
def incr_Builder_Build_l10 (s15 s14 s10 s8 s0 s1 s2 : AV) (Q : QT) (vs1 : List AV) (h : AHeap) (next1 : NT) : Prop :=
  qBin .lss (nthA vs1 1) s15 fun t17 =>
  ifB t17 (
  qIndexAddr 2 s14 (nthA vs1 1) fun t18 =>
  qLoadA 2 t18 h fun t19 =>
  qNew [(S ⟨#[]⟩), (S ⟨#[]⟩)] h fun t12 h2 =>
  qStore 2 t12 t19 h2 fun h3 =>
  qFieldAddr 0 t12 fun t21 =>
  qLoad1 t21 h3 fun t22 =>
  qLoadA 2 t12 h3 fun t25 =>
  CV s10 [s0, t25] h3 fun t26 h4 =>
  (qLoad1 t21 h4 fun _t =>
  _t = t22) ∧
  qMapUpdate .string s8 t22 t26 h4 fun h5 =>
  qFieldAddr 0 t12 fun t28 =>
  qLoad1 t28 h5 fun t29 =>
  qBuildSlice 1 1 [t29] fun t30 =>
  qAppend 1 16 (nthA vs1 0) t30 h5 fun t31 h6 =>
  qBin .add (nthA vs1 1) (I 1) fun t32 =>
  next1 [t31, t32] h6) (
  qNil s0 fun t37 =>
  qFieldAddr 0 t37 fun t38 =>
  qStore 1 t38 s8 h fun h7 =>
  qNil s0 fun t39 =>
  qFieldAddr 1 t39 fun t40 =>
  qStore 1 t40 (nthA vs1 0) h7 fun h8 =>
  C fn_asm_Assemble [s1, s2] h8 fun t43 h9 =>
  qExtract 0 t43 fun t44 =>
  qExtract 1 t43 fun t45 =>
  Q (.tup [t44, t45]) h9)
def incr_Builder_Build (a0 a1 a2 : AV) (h : AHeap) (Q : QT) : Prop :=
  qMakeMap h fun t13 h0 =>
  qLenL a1 fun t15 =>
  Loop [(.full 0 []), (I 0)] h0 fun vs1 h next1 => incr_Builder_Build_l10 t15 a1 (.fn (.func fn_incr_Builder_parse) [] []) t13 a0 a1 a2 Q vs1 h next1
theorem incr_Builder_Build_ok (a0 a1 a2 : AV) (h : AHeap) (Q : QT) (k : incr_Builder_Build a0 a1 a2 h Q) : C fn_incr_Builder_Build [a0, a1, a2] h Q :=
  okF (pl := [(6, [9, 12, 16, 17, 18, 19, 20, 21, 22, 23, 24, 25, 26, 27, 28, 29, 30, 31, 32], [9, 16]), (1000007, [0, 1, 2, 3, 4, 5, 6, 7], [])]) Tryz.func13 Tryz.ntmps13 (by kernel_rfl) (by kernel_rfl) rfl (by kernel_rfl) k
def incr_Builder_Parsed (a0 : AV) (h : AHeap) (Q : QT) : Prop :=
  qNil a0 fun t4 =>
  qFieldAddr 2 t4 fun t5 =>
  qLoad1 t5 h fun t6 =>
  Q t6 h
theorem incr_Builder_Parsed_ok (a0 : AV) (h : AHeap) (Q : QT) (k : incr_Builder_Parsed a0 h Q) : C fn_incr_Builder_Parsed [a0] h Q :=
  okF (pl := []) Tryz.func14 Tryz.ntmps14 (by kernel_rfl) (by kernel_rfl) rfl (by kernel_rfl) k
def incr_Builder_parse (a0 a1 : AV) (h : AHeap) (Q : QT) : Prop :=
  qBox a1 h fun t3 h0 =>
  qNew [(S ⟨#[]⟩), (.full 0 [])] h0 fun t4 h1 =>
  qNil a0 fun t11 =>
  qFieldAddr 0 t11 fun t12 =>
  qLoad1 t12 h1 fun t13 =>
  qFieldAddr 0 t3 fun t14 =>
  qLoad1 t14 h1 fun t15 =>
  qLookup .string true (.agg [(S ⟨#[]⟩), (.full 0 [])]) t13 t15 h1 fun t16 =>
  qExtract 0 t16 fun t17 =>
  qExtract 1 t16 fun t18 =>
  qNew [(S ⟨#[]⟩), (.full 0 [])] h1 fun t5 h2 =>
  (qLookup .string true (.agg [(S ⟨#[]⟩), (.full 0 [])]) t13 t15 h2 fun _t =>
  _t = t16) ∧
  (qLoad1 t14 h2 fun _t =>
  _t = t15) ∧
  (qLoad1 t12 h2 fun _t =>
  _t = t13) ∧
  qStore 2 t5 t17 h2 fun h3 =>
  ifB t18 (qFieldAddr 0 t5 fun t21 =>
  qLoad1 t21 h3 fun t22 =>
  qFieldAddr 1 t3 fun t23 =>
  qLoad1 t23 h3 fun t24 =>
  qBin .eql t22 t24 fun t25 =>
  ifB t25 (
  qLoadA 2 t5 h3 fun t27 =>
  qStore 2 t4 t27 h3 fun h4 =>
  qLoadA 2 t4 h4 fun r5 =>
  Q r5 h4) (
  qNil a0 fun t29 =>
  qFieldAddr 2 t29 fun t30 =>
  qLoad1 t30 h3 fun t31 =>
  qBin .add t31 (I 1) fun t32 =>
  qNil a0 fun t33 =>
  qFieldAddr 2 t33 fun t34 =>
  qStore 1 t34 t32 h3 fun h6 =>
  qFieldAddr 1 t3 fun t36 =>
  qLoad1 t36 h6 fun t37 =>
  C fn_line_Parse [t37] h6 fun t38 h7 =>
  qExtract 0 t38 fun t39 =>
  qExtract 1 t38 fun t40 =>
  qFieldAddr 1 t3 fun t41 =>
  qLoad1 t41 h7 fun t42 =>
  qBuild [(S ⟨#[]⟩), (.full 0 [])] [(0, 1, t42), (1, 1, t39)] fun t44 =>
  qStore 2 t4 t44 h7 fun h8 =>
  qLoadA 2 t4 h8 fun r9 =>
  Q r9 h8)) (
  qNil a0 fun t29 =>
  qFieldAddr 2 t29 fun t30 =>
  qLoad1 t30 h3 fun t31 =>
  qBin .add t31 (I 1) fun t32 =>
  qNil a0 fun t33 =>
  qFieldAddr 2 t33 fun t34 =>
  qStore 1 t34 t32 h3 fun h10 =>
  qFieldAddr 1 t3 fun t36 =>
  qLoad1 t36 h10 fun t37 =>
  C fn_line_Parse [t37] h10 fun t38 h11 =>
  qExtract 0 t38 fun t39 =>
  qExtract 1 t38 fun t40 =>
  qFieldAddr 1 t3 fun t41 =>
  qLoad1 t41 h11 fun t42 =>
  qBuild [(S ⟨#[]⟩), (.full 0 [])] [(0, 1, t42), (1, 1, t39)] fun t44 =>
  qStore 2 t4 t44 h11 fun h12 =>
  qLoadA 2 t4 h12 fun r13 =>
  Q r13 h12)
theorem incr_Builder_parse_ok (a0 a1 : AV) (h : AHeap) (Q : QT) (k : incr_Builder_parse a0 a1 h Q) : C fn_incr_Builder_parse [a0, a1] h Q :=
  okF (pl := [(1000001, [0, 1, 2, 3, 4, 5, 6, 7, 8, 9, 10, 11, 12], [])]) Tryz.func26 Tryz.ntmps26 (by kernel_rfl) (by kernel_rfl) rfl (by kernel_rfl) k
def incr_New (h : AHeap) (Q : QT) : Prop :=
  qMakeMap h fun t1 h0 =>
  qBuild [(.lit (.map none)), (.full 0 []), (I 0)] [(0, 1, t1)] fun t2 =>
  qBox t2 h0 fun t3 h1 =>
  Q t3 h1
theorem incr_New_ok (h : AHeap) (Q : QT) (k : incr_New  h Q) : C fn_incr_New [] h Q :=
  okF (pl := []) Tryz.func11 Tryz.ntmps11 (by kernel_rfl) (by kernel_rfl) rfl (by kernel_rfl) k
def law8_IncrSyms_l7 (s8 s7 s0 s1 s2 : AV) (Q : QT) (vs2 : List AV) (h : AHeap) (next2 : NT) : Prop :=
  C fn_law8_within [s2, (I 5)] h fun t23 h3 =>
  qBin .leq (nthA vs2 1) t23 fun t24 =>
  ifB t24 (
  qBin .mul (nthA vs2 1) s1 fun t30 =>
  qBin .add s0 t30 fun t31 =>
  C fn_law8_within [t31, (I 200)] h3 fun t32 h4 =>
  qBuild [(S ⟨#[]⟩), (I 0)] [(0, 1, (S ⟨#[107]⟩)), (1, 1, t32)] fun t37 =>
  qBuildSlice 1 2 [t37] fun t38 =>
  C fn_incr_Builder_Build [s7, s8, t38] h4 fun t39 h5 =>
  qExtract 0 t39 fun t40 =>
  qExtract 1 t39 fun t41 =>
  qLenL t41 fun t43 =>
  qBin .neq t43 (I 0) fun t44 =>
  ifB t44 (Q (B false) h5) (
  qLenL t40 fun t47 =>
  qBin .add (I 2) t32 fun t49 =>
  qBin .neq t47 t49 fun t50 =>
  ifB t50 (Q (B false) h5) (
  qIndexAddr 1 t40 (I 0) fun t54 =>
  qLoad1 t54 h5 fun t55 =>
  qConvII .u8 t32 fun t57 =>
  qBin .neq t55 t57 fun t58 =>
  ifB t58 (Q (B false) h5) (
  C fn_incr_Builder_Parsed [s7] h5 fun t62 h6 =>
  qBin .neq t62 (I 2) fun t63 =>
  ifB t63 (
  Q (B false) h6) (
  qBin .add (nthA vs2 1) (I 1) fun t26 =>
  next2 [(nthA vs2 0), t26] h6))))) (
  Q (B true) h3)
def law8_IncrSyms (a0 a1 a2 : AV) (h : AHeap) (Q : QT) : Prop :=
  C fn_law8_known [] h fun t13 h0 =>
  qUn .not t13 fun t14 =>
  ifB t14 (
  Q (B false) h0) (
  C fn_incr_New [] h0 fun t15 h1 =>
  qBinP .eql t15 (.lit (.pointer none)) fun t17 =>
  ifB t17 (
  Q (B false) h1) (
  qBuild [(S ⟨#[]⟩), (S ⟨#[]⟩)] [(0, 1, (S ⟨#[97]⟩)), (1, 1, (S ⟨#[46, 98, 121, 116, 101, 32, 107]⟩))] fun t18 =>
  qBuild [(S ⟨#[]⟩), (S ⟨#[]⟩)] [(0, 1, (S ⟨#[99]⟩)), (1, 1, (S ⟨#[46, 115, 112, 97, 99, 101, 32, 107, 10, 46, 98, 121, 116, 101, 32, 49]⟩))] fun t19 =>
  qBuildSlice 2 2 [t18, t19] fun t20 =>
  Loop [(B false), (I 0)] h1 fun vs2 h next2 => law8_IncrSyms_l7 t20 t15 a0 a1 a2 Q vs2 h next2))
theorem law8_IncrSyms_ok (a0 a1 a2 : AV) (h : AHeap) (Q : QT) (k : law8_IncrSyms a0 a1 a2 h Q) : C fn_law8_IncrSyms [a0, a1, a2] h Q :=
  okF (pl := [(9, [6, 9, 10, 11, 12, 21, 22, 23, 24, 25, 26, 27, 28, 29, 30, 31, 32, 33, 34, 35, 36, 37, 38, 39, 40, 41, 42, 43, 44, 45, 46, 47, 48, 49, 50, 51, 52, 53, 54, 55, 56, 57, 58, 59, 60, 61, 62, 63, 64], [6, 9])]) Tryz.func4 Tryz.ntmps4 (by kernel_rfl) (by kernel_rfl) rfl (by kernel_rfl) k
def law8_within_j0 (s5 : AV) (h : AHeap) (Q : QT) : Prop :=
  Q s5 h
def law8_within (a0 a1 : AV) (h : AHeap) (Q : QT) : Prop :=
  qBin .rem a0 a1 fun t8 =>
  qBin .lss t8 (I 0) fun t10 =>
  ifB t10 (
  qBin .add t8 a1 fun t13 =>
  law8_within_j0 t13 h Q) (
  law8_within_j0 t8 h Q)
theorem law8_within_ok (a0 a1 : AV) (h : AHeap) (Q : QT) (k : law8_within a0 a1 h Q) : C fn_law8_within [a0, a1] h Q :=
  okF (pl := []) Tryz.func12 Tryz.ntmps12 (by kernel_rfl) (by kernel_rfl) rfl (by kernel_rfl) k
end
end Go.Proofs.YtiddcelpooenfaaGreatDoor.AL
