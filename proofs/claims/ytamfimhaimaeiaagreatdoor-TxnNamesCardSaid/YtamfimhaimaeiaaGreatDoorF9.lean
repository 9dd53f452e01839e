import Derived.Test.YtamfimhaimaeiaaGreatDoorF5
set_option linter.all false
set_option autoImplicit true
set_option relaxedAutoImplicit true
set_option maxRecDepth 100000
namespace Go.Proofs.YtamfimhaimaeiaaGreatDoor.AL
noncomputable section
open Go.Proofs
variable [Tabs]
def law10_TxnNames_l18 (s0 s1 : AV) (Q : QT) (vs1 : List AV) (h : AHeap) (next1 : NT) : Prop :=
  qLenL s0 fun t15 =>
  qBin .lss (nthA vs1 1) t15 fun t16 =>
  ifB t16 (qBin .lss (nthA vs1 1) (I 12) fun t19 =>
  ifB t19 (
  qIndexAddr 1 s0 (nthA vs1 1) fun t26 =>
  qLoad1 t26 h fun t27 =>
  C fn_law9_Name [t27] h fun t28 h2 =>
  qBuildSlice 1 1 [t28] fun t29 =>
  qAppend 1 16 (nthA vs1 0) t29 h2 fun t30 h3 =>
  qBin .add (nthA vs1 1) (I 1) fun t22 =>
  next1 [t30, t22] h3) (
  C fn_txn_Join [(nthA vs1 0)] h fun t32 h4 =>
  C fn_ref10_Join [(nthA vs1 0)] h4 fun t35 h5 =>
  qBin .eql t32 t35 fun t36 =>
  ifB t36 (C fn_txn_Parts [t32] h5 fun t39 h6 =>
  C fn_ref6_Words [t39, (nthA vs1 0)] h6 fun t41 h7 =>
  ifB t41 (C fn_txn_Parts [s1] h7 fun t45 h8 =>
  C fn_ref10_Parts [s1] h8 fun t47 h9 =>
  C fn_ref6_Words [t45, t47] h9 fun t48 h10 =>
  Q t48 h10) (
  Q (B false) h7)) (
  Q (B false) h5))) (
  C fn_txn_Join [(nthA vs1 0)] h fun t32 h11 =>
  C fn_ref10_Join [(nthA vs1 0)] h11 fun t35 h12 =>
  qBin .eql t32 t35 fun t36 =>
  ifB t36 (C fn_txn_Parts [t32] h12 fun t39 h13 =>
  C fn_ref6_Words [t39, (nthA vs1 0)] h13 fun t41 h14 =>
  ifB t41 (C fn_txn_Parts [s1] h14 fun t45 h15 =>
  C fn_ref10_Parts [s1] h15 fun t47 h16 =>
  C fn_ref6_Words [t45, t47] h16 fun t48 h17 =>
  Q t48 h17) (
  Q (B false) h14)) (
  Q (B false) h12))
def law10_TxnNames (a0 a1 : AV) (h : AHeap) (Q : QT) : Prop :=
  C fn_law10_known [] h fun t8 h0 =>
  qUn .not t8 fun t9 =>
  ifB t9 (
  Q (B false) h0) (
  qLenS a1 fun t11 =>
  qBin .gtr t11 (I 200) fun t12 =>
  ifB t12 (
  Q (B true) h0) (
  Loop [(.full 0 []), (I 0)] h0 fun vs1 h next1 => law10_TxnNames_l18 a0 a1 Q vs1 h next1))
theorem law10_TxnNames_ok (a0 a1 : AV) (h : AHeap) (Q : QT) (k : law10_TxnNames a0 a1 h Q) : C fn_law10_TxnNames [a0, a1] h Q :=
  okF (pl := [(8, [5, 6, 13, 14, 15, 16, 17, 18, 19, 20, 21, 22, 23, 24, 25, 26, 27, 28, 29, 30], [5, 6])]) Tryz.func3 Tryz.ntmps3 (by kernel_rfl) (by kernel_rfl) rfl (by kernel_rfl) k
def law9_Name (a0 : AV) (h : AHeap) (Q : QT) : Prop :=
  qBuildSlice 12 1 [(S ⟨#[109, 97, 105, 110]⟩), (S ⟨#[97]⟩), (S ⟨#[98, 49]⟩), (S ⟨#[120]⟩), (S ⟨#[108, 105, 98]⟩), (S ⟨#[101, 110, 100]⟩), (S ⟨#[99]⟩), (S ⟨#[100]⟩), (S ⟨#[101]⟩), (S ⟨#[102]⟩), (S ⟨#[98, 97, 115, 101]⟩), (S ⟨#[107]⟩)] fun t3 =>
  C fn_law9_within [a0, (I 12)] h fun t5 h0 =>
  qIndexAddr 1 t3 t5 fun t6 =>
  qLoad1 t6 h0 fun t7 =>
  Q t7 h0
theorem law9_Name_ok (a0 : AV) (h : AHeap) (Q : QT) (k : law9_Name a0 h Q) : C fn_law9_Name [a0] h Q :=
  okF (pl := []) Tryz.func9 Tryz.ntmps9 (by kernel_rfl) (by kernel_rfl) rfl (by kernel_rfl) k
def law9_within_j0 (s5 : AV) (h : AHeap) (Q : QT) : Prop :=
  Q s5 h
def law9_within (a0 a1 : AV) (h : AHeap) (Q : QT) : Prop :=
  qBin .rem a0 a1 fun t8 =>
  qBin .lss t8 (I 0) fun t10 =>
  ifB t10 (
  qBin .add t8 a1 fun t13 =>
  law9_within_j0 t13 h Q) (
  law9_within_j0 t8 h Q)
theorem law9_within_ok (a0 a1 : AV) (h : AHeap) (Q : QT) (k : law9_within a0 a1 h Q) : C fn_law9_within [a0, a1] h Q :=
  okF (pl := []) Tryz.func28 Tryz.ntmps28 (by kernel_rfl) (by kernel_rfl) rfl (by kernel_rfl) k
def ref10_Join_l1 (s0 : AV) (Q : QT) (vs0 : List AV) (h : AHeap) (next0 : NT) : Prop :=
  qLenL s0 fun t7 =>
  qBin .lss (nthA vs0 1) t7 fun t8 =>
  ifB t8 (
  qIndexAddr 1 s0 (nthA vs0 1) fun t14 =>
  qLoad1 t14 h fun t15 =>
  qBin .add (nthA vs0 0) t15 fun t16 =>
  qBin .add t16 (S ⟨#[10]⟩) fun t17 =>
  qBin .add (nthA vs0 1) (I 1) fun t10 =>
  next0 [t17, t10] h) (
  Q (nthA vs0 0) h)
def ref10_Join (a0 : AV) (h : AHeap) (Q : QT) : Prop :=
  Loop [(S ⟨#[]⟩), (I 0)] h fun vs0 h next0 => ref10_Join_l1 a0 Q vs0 h next0
theorem ref10_Join_ok (a0 : AV) (h : AHeap) (Q : QT) (k : ref10_Join a0 h Q) : C fn_ref10_Join [a0] h Q :=
  okF (pl := [(4, [3, 4, 5, 6, 7, 8, 9, 10, 11, 12, 13, 14, 15, 16, 17], [3, 4])]) Tryz.func11 Tryz.ntmps11 (by kernel_rfl) (by kernel_rfl) rfl (by kernel_rfl) k
def ref10_Parts_j2 (s4 s3 s5 : AV) (h : AHeap) (next0 : NT) : Prop :=
  qBin .add s5 (I 1) fun t11 =>
  next0 [s3, s4, t11] h
def ref10_Parts_b3 (s4 s3 s5 : AV) (h : AHeap) (next0 : NT) : Prop :=
  ref10_Parts_j2 s4 s3 s5 h next0
def ref10_Parts_l4 (s0 : AV) (Q : QT) (vs0 : List AV) (h : AHeap) (next0 : NT) : Prop :=
  qLenS s0 fun t8 =>
  qBin .lss (nthA vs0 2) t8 fun t9 =>
  ifB t9 (
  qIndexS s0 (nthA vs0 2) fun t14 =>
  qBin .eql t14 (.lit (.int .u8 10)) fun t15 =>
  ifB t15 (
  qSliceS s0 (some (nthA vs0 1)) (some (nthA vs0 2)) fun t20 =>
  qBuildSlice 1 1 [t20] fun t21 =>
  qAppend 1 16 (nthA vs0 0) t21 h fun t22 h1 =>
  qBin .add (nthA vs0 2) (I 1) fun t24 =>
  ref10_Parts_b3 t24 t22 (nthA vs0 2) h1 next0) (
  ref10_Parts_b3 (nthA vs0 1) (nthA vs0 0) (nthA vs0 2) h next0)) (
  Q (nthA vs0 0) h)
def ref10_Parts (a0 : AV) (h : AHeap) (Q : QT) : Prop :=
  Loop [(.full 0 []), (I 0), (I 0)] h fun vs0 h next0 => ref10_Parts_l4 a0 Q vs0 h next0
theorem ref10_Parts_ok (a0 : AV) (h : AHeap) (Q : QT) (k : ref10_Parts a0 h Q) : C fn_ref10_Parts [a0] h Q :=
  okF (pl := [(5, [3, 4, 5, 6, 7, 8, 9, 10, 11, 12, 13, 14, 15, 16, 17, 18, 19, 20, 21, 22, 23, 24], [3, 4, 5])]) Tryz.func14 Tryz.ntmps14 (by kernel_rfl) (by kernel_rfl) rfl (by kernel_rfl) k
def ref6_Words_l1 (s0 s1 : AV) (Q : QT) (vs0 : List AV) (h : AHeap) (next0 : NT) : Prop :=
  qLenL s0 fun t13 =>
  qBin .lss (nthA vs0 1) t13 fun t14 =>
  ifB t14 (
  qIndexAddr 1 s0 (nthA vs0 1) fun t19 =>
  qLoad1 t19 h fun t20 =>
  qIndexAddr 1 s1 (nthA vs0 1) fun t23 =>
  qLoad1 t23 h fun t24 =>
  qBin .neq t20 t24 fun t25 =>
  ifB t25 (
  Q (B false) h) (
  qBin .add (nthA vs0 1) (I 1) fun t16 =>
  next0 [(nthA vs0 0), t16] h)) (
  Q (B true) h)
def ref6_Words (a0 a1 : AV) (h : AHeap) (Q : QT) : Prop :=
  qLenL a0 fun t7 =>
  qLenL a1 fun t9 =>
  qBin .neq t7 t9 fun t10 =>
  ifB t10 (
  Q (B false) h) (
  Loop [(B false), (I 0)] h fun vs0 h next0 => ref6_Words_l1 a0 a1 Q vs0 h next0)
theorem ref6_Words_ok (a0 a1 : AV) (h : AHeap) (Q : QT) (k : ref6_Words a0 a1 h Q) : C fn_ref6_Words [a0, a1] h Q :=
  okF (pl := [(5, [4, 5, 11, 12, 13, 14, 15, 16, 17, 18, 19, 20, 21, 22, 23, 24, 25], [4, 5]), (1000006, [0, 1, 2, 3, 4, 5, 6, 7, 8], [])]) Tryz.func12 Tryz.ntmps12 (by kernel_rfl) (by kernel_rfl) rfl (by kernel_rfl) k
def store_Store_Changed (a0 a1 a2 : AV) (h : AHeap) (Q : QT) : Prop :=
  qNil a0 fun t9 =>
  qFieldAddr 3 t9 fun t10 =>
  qLoad1 t10 h fun t11 =>
  qLookup .string false (.full 0 []) t11 a1 h fun t13 =>
  qLenL t13 fun t15 =>
  qBin .gtr t15 (I 0) fun t16 =>
  ifB t16 (qLenL t13 fun t20 =>
  qBin .sub t20 (I 1) fun t21 =>
  qIndexAddr 4 t13 t21 fun t22 =>
  qFieldAddr 3 t22 fun t23 =>
  qLoad1 t23 h fun t24 =>
  qBin .gtr t24 a2 fun t26 =>
  Q t26 h) (
  Q (B false) h)
theorem store_Store_Changed_ok (a0 a1 a2 : AV) (h : AHeap) (Q : QT) (k : store_Store_Changed a0 a1 a2 h Q) : C fn_store_Store_Changed [a0, a1, a2] h Q :=
  okF (pl := []) Tryz.func69 Tryz.ntmps69 (by kernel_rfl) (by kernel_rfl) rfl (by kernel_rfl) k
def store_Store_Count (a0 : AV) (h : AHeap) (Q : QT) : Prop :=
  CV (.fn (.func fn_store_Store_total) [] []) [a0, (.fn (.func fn_store_length) [] [])] h fun t6 h0 =>
  Q t6 h0
theorem store_Store_Count_ok (a0 : AV) (h : AHeap) (Q : QT) (k : store_Store_Count a0 h Q) : C fn_store_Store_Count [a0] h Q :=
  okF (pl := []) Tryz.func25 Tryz.ntmps25 (by kernel_rfl) (by kernel_rfl) rfl (by kernel_rfl) k
def store_Store_total_l4 (s12 s1 : AV) (Q : QT) (vs1 : List AV) (h : AHeap) (next1 : NT) : Prop :=
  qNextM s12 h fun t13 h2 =>
  qExtract 0 t13 fun t14 =>
  ifB t14 (
  qEntry s12 h2 fun t15 =>
  qExtract 1 t15 fun t16 =>
  CV s1 [t16] h2 fun t20 h3 =>
  qBin .add (nthA vs1 0) t20 fun t21 =>
  next1 [t21] h3) (
  Q (nthA vs1 0) h2)
def store_Store_total (a0 a1 : AV) (h : AHeap) (Q : QT) : Prop :=
  qNil a0 fun t9 =>
  qFieldAddr 3 t9 fun t10 =>
  qLoad1 t10 h fun t11 =>
  qRangeM t11 h fun t12 h0 =>
  Loop [(I 0)] h0 fun vs1 h next1 => store_Store_total_l4 t12 a1 Q vs1 h next1
theorem store_Store_total_ok (a0 a1 : AV) (h : AHeap) (Q : QT) (k : store_Store_total a0 a1 h Q) : C fn_store_Store_total [a0, a1] h Q :=
  okF (pl := [(4, [5, 7, 13, 14, 15, 16, 17, 18, 19, 20, 21], [5])]) Tryz.func38 Tryz.ntmps38 (by kernel_rfl) (by kernel_rfl) rfl (by kernel_rfl) k
def store_length (a0 : AV) (h : AHeap) (Q : QT) : Prop :=
  qLenL a0 fun t4 =>
  Q t4 h
theorem store_length_ok (a0 : AV) (h : AHeap) (Q : QT) (k : store_length a0 h Q) : C fn_store_length [a0] h Q :=
  okF (pl := []) Tryz.func39 Tryz.ntmps39 (by kernel_rfl) (by kernel_rfl) rfl (by kernel_rfl) k
def store_pins_least_l3 (s7 : AV) (Q : QT) (vs1 : List AV) (h : AHeap) (next1 : NT) : Prop :=
  qNextM s7 h fun t8 h2 =>
  qExtract 0 t8 fun t9 =>
  ifB t9 (
  qEntry s7 h2 fun t10 =>
  qExtract 0 t10 fun t11 =>
  qMin (nthA vs1 0) t11 fun t14 =>
  next1 [t14] h2) (
  Q (nthA vs1 0) h2)
def store_pins_least (a0 a1 : AV) (h : AHeap) (Q : QT) : Prop :=
  qRangeM a0 h fun t7 h0 =>
  Loop [a1] h0 fun vs1 h next1 => store_pins_least_l3 t7 Q vs1 h next1
theorem store_pins_least_ok (a0 a1 : AV) (h : AHeap) (Q : QT) (k : store_pins_least a0 a1 h Q) : C fn_store_pins_least [a0, a1] h Q :=
  okF (pl := [(3, [1, 5, 8, 9, 10, 11, 12, 13, 14], [1])]) Tryz.func76 Tryz.ntmps76 (by kernel_rfl) (by kernel_rfl) rfl (by kernel_rfl) k
def txn_Join_l1 (s7 s6 : AV) (Q : QT) (vs0 : List AV) (h : AHeap) (next0 : NT) : Prop :=
  qBin .lss (nthA vs0 1) s7 fun t9 =>
  ifB t9 (
  qIndexAddr 1 s6 (nthA vs0 1) fun t10 =>
  qLoad1 t10 h fun t11 =>
  qBin .add t11 (S ⟨#[10]⟩) fun t14 =>
  qBin .add (nthA vs0 0) t14 fun t15 =>
  qBin .add (nthA vs0 1) (I 1) fun t16 =>
  next0 [t15, t16] h) (
  Q (nthA vs0 0) h)
def txn_Join (a0 : AV) (h : AHeap) (Q : QT) : Prop :=
  qLenL a0 fun t7 =>
  Loop [(S ⟨#[]⟩), (I 0)] h fun vs0 h next0 => txn_Join_l1 t7 a0 Q vs0 h next0
theorem txn_Join_ok (a0 : AV) (h : AHeap) (Q : QT) (k : txn_Join a0 h Q) : C fn_txn_Join [a0] h Q :=
  okF (pl := [(4, [3, 5, 8, 9, 10, 11, 12, 13, 14, 15, 16], [3, 8])]) Tryz.func10 Tryz.ntmps10 (by kernel_rfl) (by kernel_rfl) rfl (by kernel_rfl) k
def txn_Parts (a0 : AV) (h : AHeap) (Q : QT) : Prop :=
  C fn_strings_Split [a0, (S ⟨#[10]⟩)] h fun t5 h0 =>
  qLenL t5 fun t8 =>
  qBin .sub t8 (I 1) fun t9 =>
  qSliceL 1 t5 none (some t9) fun t10 =>
  C fn_slices_Clone__string_string [t10] h0 fun t11 h1 =>
  Q t11 h1
theorem txn_Parts_ok (a0 : AV) (h : AHeap) (Q : QT) (k : txn_Parts a0 h Q) : C fn_txn_Parts [a0] h Q :=
  okF (pl := []) Tryz.func13 Tryz.ntmps13 (by kernel_rfl) (by kernel_rfl) rfl (by kernel_rfl) k
def txn_Txn_changed_l4 (s8 s0 : AV) (Q : QT) (vs1 : List AV) (h : AHeap) (next1 : NT) : Prop :=
  qNextM s8 h fun t9 h2 =>
  qExtract 0 t9 fun t10 =>
  ifB t10 (
  qEntry s8 h2 fun t11 =>
  qExtract 0 t11 fun t12 =>
  qNil s0 fun t14 =>
  qFieldAddr 0 t14 fun t15 =>
  qLoad1 t15 h2 fun t16 =>
  qNil s0 fun t19 =>
  qFieldAddr 9 t19 fun t20 =>
  qLoad1 t20 h2 fun t21 =>
  C fn_store_Store_Changed [t16, t12, t21] h2 fun t22 h3 =>
  ifB t22 (
  Q (B true) h3) (
  next1 [(nthA vs1 0)] h3)) (
  Q (B false) h2)
def txn_Txn_changed (a0 : AV) (h : AHeap) (Q : QT) : Prop :=
  qNil a0 fun t5 =>
  qFieldAddr 11 t5 fun t6 =>
  qLoad1 t6 h fun t7 =>
  qRangeM t7 h fun t8 h0 =>
  Loop [(B false)] h0 fun vs1 h next1 => txn_Txn_changed_l4 t8 a0 Q vs1 h next1
theorem txn_Txn_changed_ok (a0 : AV) (h : AHeap) (Q : QT) (k : txn_Txn_changed a0 h Q) : C fn_txn_Txn_changed [a0] h Q :=
  okF (pl := [(3, [2, 3, 9, 10, 11, 12, 13, 14, 15, 16, 17, 18, 19, 20, 21, 22], [2]), (1000004, [0, 1, 2, 3, 4, 5, 6, 7, 8, 9], [])]) Tryz.func52 Tryz.ntmps52 (by kernel_rfl) (by kernel_rfl) rfl (by kernel_rfl) k
end
end Go.Proofs.YtamfimhaimaeiaaGreatDoor.AL
