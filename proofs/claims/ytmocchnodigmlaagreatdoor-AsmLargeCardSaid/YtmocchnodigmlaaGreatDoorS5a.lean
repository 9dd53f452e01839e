import Derived.Test.YtmocchnodigmlaaGreatDoorAL31
import Derived.Test.YtmocchnodigmlaaGreatDoorProg
import Derived.KernelRfl
import Derived.Test.YtmocchnodigmlaaGreatDoorIt5
set_option linter.all false
set_option autoImplicit true
set_option relaxedAutoImplicit true
set_option linter.unusedVariables false
set_option maxRecDepth 100000
namespace Go.Proofs.YtmocchnodigmlaaGreatDoor.AL
noncomputable section
open Go.Proofs Go.RowKit Go.Shelf
def asc : List Int := [0, 0, 0, 0, 0, 0, 0, 0, 0, 1, 1, 1, 1, 1, 0, 0, 0, 0, 0, 0, 0, 0, 0, 0, 0, 0, 0, 0, 0, 0, 0, 0, 1, 0, 0, 0, 0, 0, 0, 0, 0, 0, 0, 0, 0, 0, 0, 0, 0, 0, 0, 0, 0, 0, 0, 0, 0, 0, 0, 0, 0, 0, 0, 0, 0, 0, 0, 0, 0, 0, 0, 0, 0, 0, 0, 0, 0, 0, 0, 0, 0, 0, 0, 0, 0, 0, 0, 0, 0, 0, 0, 0, 0, 0, 0, 0, 0, 0, 0, 0, 0, 0, 0, 0, 0, 0, 0, 0, 0, 0, 0, 0, 0, 0, 0, 0, 0, 0, 0, 0, 0, 0, 0, 0, 0, 0, 0, 0, 0, 0, 0, 0, 0, 0, 0, 0, 0, 0, 0, 0, 0, 0, 0, 0, 0, 0, 0, 0, 0, 0, 0, 0, 0, 0, 0, 0, 0, 0, 0, 0, 0, 0, 0, 0, 0, 0, 0, 0, 0, 0, 0, 0, 0, 0, 0, 0, 0, 0, 0, 0, 0, 0, 0, 0, 0, 0, 0, 0, 0, 0, 0, 0, 0, 0, 0, 0, 0, 0, 0, 0, 0, 0, 0, 0, 0, 0, 0, 0, 0, 0, 0, 0, 0, 0, 0, 0, 0, 0, 0, 0, 0, 0, 0, 0, 0, 0, 0, 0, 0, 0, 0, 0, 0, 0, 0, 0, 0, 0, 0, 0, 0, 0, 0, 0, 0, 0, 0, 0, 0, 0, 0, 0, 0, 0, 0, 0]
def ascA : List AV := asc.map fun z => .lit (.int .u8 z)
def tb5 : TabB := fun g => match Nat.beq g 1 with | true => some ascA | false => none
@[reducible] def tabs5 (S : Syms) : Tabs where
  toSyms := S
  ok F := (∀ i, i < asc.length → F 1 i = some (.int .u8 (asc.getD i 0))) ∧ ∃ m, F 0 0 = some (.int .i64 m)
  mono hF h := ⟨fun i hi => hF _ _ _ (h.1 i hi), h.2.imp fun m hm => hF _ _ _ hm⟩
  tab := tb5
  tab_ok G g cs h e := by
    unfold tb5 at e
    split at e
    · rename_i hg
      cases e
      rw [Nat.eq_of_beq_eq_true hg]
      exact repAt_ints asc 0 fun i hi => by rw [Nat.zero_add]; exact h.1 i hi
    · cases e
/-- What is asked of the tables. -/
class Tabs5 extends Tabs where
  m0 : ∀ F, ok F → ∃ m, F 0 0 = some (.int .i64 m)
  tb : TabOk tb5
@[reducible] def tabs5' (S : Syms) : Tabs5 where
  toTabs := tabs5 S
  m0 F h := And.right h
  tb g cs h := h
noncomputable abbrev Pg : Program := Tryz.prog
section
variable [Tabs]
abbrev C := ACall Pg
abbrev CV := ACallV Pg
def bodyOf (fn : Func) : Code := fn.body.getD .skip
theorem indexIs : IndexIs Pg 172 0 := ⟨⟨_, Tryz.func172, by kernel_rfl, by kernel_rfl⟩, fun s sub m w hs hm => Any.strings_Index Tryz.lays143 s sub m w hs hm⟩
abbrev fn_law5_within : Nat := 10
abbrev fn_slices_Clone__int_int : Nat := 19
abbrev fn_slices_Clone__api_Diag_api_Diag : Nat := 20
abbrev fn_slices_Clone__byte_byte : Nat := 22
abbrev fn_slices_Clone__api_Sym_api_Sym : Nat := 28
abbrev fn_slices_Clone__api_Stmt_api_Stmt : Nat := 88
abbrev fn_slices_Clone__string_string : Nat := 100
abbrev fn_slices_Clone__api_Arg_api_Arg : Nat := 139
def law5_within_j0 (s5 : AV) (h : AHeap) (Q : AV → AHeap → Prop) : Prop :=
  Q s5 h

def law5_within (a0 a1 : AV) (h : AHeap) (Q : AV → AHeap → Prop) : Prop :=
  qBin .rem a0 a1 fun t8 =>
  qBin .lss t8 (I 0) fun t10 =>
  ifB t10 (
  qBin .add t8 a1 fun t13 =>
  law5_within_j0 t13 h Q) (
  law5_within_j0 t8 h Q)

def law5_within_plan : Plan := []
theorem law5_within_eq (a0 a1 : AV) (h : AHeap) (Q : AV → AHeap → Prop) : denF Pg law5_within_plan Tryz.f10 (bodyOf Tryz.f10) [a0, a1] h Q = law5_within a0 a1 h Q := by kernel_rfl
theorem law5_within_ok (a0 a1 : AV) (h : AHeap) (Q : AV → AHeap → Prop) (k : law5_within a0 a1 h Q) : C fn_law5_within [a0, a1] h Q :=
  acall_of_den Tryz.func10 (c := bodyOf Tryz.f10) (by kernel_rfl) (by kernel_rfl) (by have := Tryz.ntmps10; simp only [List.length_cons, List.length_nil]; omega) (by rw [law5_within_eq]; exact k)
def slices_Clone__int_int (a0 : AV) (h : AHeap) (Q : AV → AHeap → Prop) : Prop :=
  qIsNilS .eql a0 fun t4 =>
  ifB t4 (
  Q (.full 0 []) h) (
  qBuildSlice 0 1 [] fun t5 =>
  qAppend 1 8 t5 a0 h fun t7 h0 =>
  Q t7 h0)

def slices_Clone__int_int_plan : Plan := []
theorem slices_Clone__int_int_eq (a0 : AV) (h : AHeap) (Q : AV → AHeap → Prop) : denF Pg slices_Clone__int_int_plan Tryz.f19 (bodyOf Tryz.f19) [a0] h Q = slices_Clone__int_int a0 h Q := by kernel_rfl
theorem slices_Clone__int_int_ok (a0 : AV) (h : AHeap) (Q : AV → AHeap → Prop) (k : slices_Clone__int_int a0 h Q) : C fn_slices_Clone__int_int [a0] h Q :=
  acall_of_den Tryz.func19 (c := bodyOf Tryz.f19) (by kernel_rfl) (by kernel_rfl) (by have := Tryz.ntmps19; simp only [List.length_cons, List.length_nil]; omega) (by rw [slices_Clone__int_int_eq]; exact k)
def slices_Clone__api_Diag_api_Diag (a0 : AV) (h : AHeap) (Q : AV → AHeap → Prop) : Prop :=
  qIsNilS .eql a0 fun t4 =>
  ifB t4 (
  Q (.full 0 []) h) (
  qBuildSlice 0 3 [] fun t5 =>
  qAppend 3 32 t5 a0 h fun t7 h0 =>
  Q t7 h0)

def slices_Clone__api_Diag_api_Diag_plan : Plan := []
theorem slices_Clone__api_Diag_api_Diag_eq (a0 : AV) (h : AHeap) (Q : AV → AHeap → Prop) : denF Pg slices_Clone__api_Diag_api_Diag_plan Tryz.f20 (bodyOf Tryz.f20) [a0] h Q = slices_Clone__api_Diag_api_Diag a0 h Q := by kernel_rfl
theorem slices_Clone__api_Diag_api_Diag_ok (a0 : AV) (h : AHeap) (Q : AV → AHeap → Prop) (k : slices_Clone__api_Diag_api_Diag a0 h Q) : C fn_slices_Clone__api_Diag_api_Diag [a0] h Q :=
  acall_of_den Tryz.func20 (c := bodyOf Tryz.f20) (by kernel_rfl) (by kernel_rfl) (by have := Tryz.ntmps20; simp only [List.length_cons, List.length_nil]; omega) (by rw [slices_Clone__api_Diag_api_Diag_eq]; exact k)
def slices_Clone__byte_byte (a0 : AV) (h : AHeap) (Q : AV → AHeap → Prop) : Prop :=
  qIsNilS .eql a0 fun t4 =>
  ifB t4 (
  Q (.full 0 []) h) (
  qBuildSlice 0 1 [] fun t5 =>
  qAppend 1 1 t5 a0 h fun t7 h0 =>
  Q t7 h0)

def slices_Clone__byte_byte_plan : Plan := []
theorem slices_Clone__byte_byte_eq (a0 : AV) (h : AHeap) (Q : AV → AHeap → Prop) : denF Pg slices_Clone__byte_byte_plan Tryz.f22 (bodyOf Tryz.f22) [a0] h Q = slices_Clone__byte_byte a0 h Q := by kernel_rfl
theorem slices_Clone__byte_byte_ok (a0 : AV) (h : AHeap) (Q : AV → AHeap → Prop) (k : slices_Clone__byte_byte a0 h Q) : C fn_slices_Clone__byte_byte [a0] h Q :=
  acall_of_den Tryz.func22 (c := bodyOf Tryz.f22) (by kernel_rfl) (by kernel_rfl) (by have := Tryz.ntmps22; simp only [List.length_cons, List.length_nil]; omega) (by rw [slices_Clone__byte_byte_eq]; exact k)
def slices_Clone__api_Sym_api_Sym (a0 : AV) (h : AHeap) (Q : AV → AHeap → Prop) : Prop :=
  qIsNilS .eql a0 fun t4 =>
  ifB t4 (
  Q (.full 0 []) h) (
  qBuildSlice 0 2 [] fun t5 =>
  qAppend 2 24 t5 a0 h fun t7 h0 =>
  Q t7 h0)

def slices_Clone__api_Sym_api_Sym_plan : Plan := []
theorem slices_Clone__api_Sym_api_Sym_eq (a0 : AV) (h : AHeap) (Q : AV → AHeap → Prop) : denF Pg slices_Clone__api_Sym_api_Sym_plan Tryz.f28 (bodyOf Tryz.f28) [a0] h Q = slices_Clone__api_Sym_api_Sym a0 h Q := by kernel_rfl
theorem slices_Clone__api_Sym_api_Sym_ok (a0 : AV) (h : AHeap) (Q : AV → AHeap → Prop) (k : slices_Clone__api_Sym_api_Sym a0 h Q) : C fn_slices_Clone__api_Sym_api_Sym [a0] h Q :=
  acall_of_den Tryz.func28 (c := bodyOf Tryz.f28) (by kernel_rfl) (by kernel_rfl) (by have := Tryz.ntmps28; simp only [List.length_cons, List.length_nil]; omega) (by rw [slices_Clone__api_Sym_api_Sym_eq]; exact k)
def slices_Clone__api_Stmt_api_Stmt (a0 : AV) (h : AHeap) (Q : AV → AHeap → Prop) : Prop :=
  qIsNilS .eql a0 fun t4 =>
  ifB t4 (
  Q (.full 0 []) h) (
  qBuildSlice 0 6 [] fun t5 =>
  qAppend 6 80 t5 a0 h fun t7 h0 =>
  Q t7 h0)

def slices_Clone__api_Stmt_api_Stmt_plan : Plan := []
theorem slices_Clone__api_Stmt_api_Stmt_eq (a0 : AV) (h : AHeap) (Q : AV → AHeap → Prop) : denF Pg slices_Clone__api_Stmt_api_Stmt_plan Tryz.f88 (bodyOf Tryz.f88) [a0] h Q = slices_Clone__api_Stmt_api_Stmt a0 h Q := by kernel_rfl
theorem slices_Clone__api_Stmt_api_Stmt_ok (a0 : AV) (h : AHeap) (Q : AV → AHeap → Prop) (k : slices_Clone__api_Stmt_api_Stmt a0 h Q) : C fn_slices_Clone__api_Stmt_api_Stmt [a0] h Q :=
  acall_of_den Tryz.func88 (c := bodyOf Tryz.f88) (by kernel_rfl) (by kernel_rfl) (by have := Tryz.ntmps88; simp only [List.length_cons, List.length_nil]; omega) (by rw [slices_Clone__api_Stmt_api_Stmt_eq]; exact k)
def slices_Clone__string_string (a0 : AV) (h : AHeap) (Q : AV → AHeap → Prop) : Prop :=
  qIsNilS .eql a0 fun t4 =>
  ifB t4 (
  Q (.full 0 []) h) (
  qBuildSlice 0 1 [] fun t5 =>
  qAppend 1 16 t5 a0 h fun t7 h0 =>
  Q t7 h0)

def slices_Clone__string_string_plan : Plan := []
theorem slices_Clone__string_string_eq (a0 : AV) (h : AHeap) (Q : AV → AHeap → Prop) : denF Pg slices_Clone__string_string_plan Tryz.f100 (bodyOf Tryz.f100) [a0] h Q = slices_Clone__string_string a0 h Q := by kernel_rfl
theorem slices_Clone__string_string_ok (a0 : AV) (h : AHeap) (Q : AV → AHeap → Prop) (k : slices_Clone__string_string a0 h Q) : C fn_slices_Clone__string_string [a0] h Q :=
  acall_of_den Tryz.func100 (c := bodyOf Tryz.f100) (by kernel_rfl) (by kernel_rfl) (by have := Tryz.ntmps100; simp only [List.length_cons, List.length_nil]; omega) (by rw [slices_Clone__string_string_eq]; exact k)
def slices_Clone__api_Arg_api_Arg (a0 : AV) (h : AHeap) (Q : AV → AHeap → Prop) : Prop :=
  qIsNilS .eql a0 fun t4 =>
  ifB t4 (
  Q (.full 0 []) h) (
  qBuildSlice 0 5 [] fun t5 =>
  qAppend 5 64 t5 a0 h fun t7 h0 =>
  Q t7 h0)

def slices_Clone__api_Arg_api_Arg_plan : Plan := []
theorem slices_Clone__api_Arg_api_Arg_eq (a0 : AV) (h : AHeap) (Q : AV → AHeap → Prop) : denF Pg slices_Clone__api_Arg_api_Arg_plan Tryz.f139 (bodyOf Tryz.f139) [a0] h Q = slices_Clone__api_Arg_api_Arg a0 h Q := by kernel_rfl
theorem slices_Clone__api_Arg_api_Arg_ok (a0 : AV) (h : AHeap) (Q : AV → AHeap → Prop) (k : slices_Clone__api_Arg_api_Arg a0 h Q) : C fn_slices_Clone__api_Arg_api_Arg [a0] h Q :=
  acall_of_den Tryz.func139 (c := bodyOf Tryz.f139) (by kernel_rfl) (by kernel_rfl) (by have := Tryz.ntmps139; simp only [List.length_cons, List.length_nil]; omega) (by rw [slices_Clone__api_Arg_api_Arg_eq]; exact k)
theorem within_ok (a : Int) (m : Nat) (h : AHeap) (Q : AV → AHeap → Prop) (hm : m ≤ 1099511627776) (k : Q (I (a % ((m + 1 : Nat) : Int))) h) : C fn_law5_within [I a, I ((m + 1 : Nat) : Int)] h Q := by
  refine law5_within_ok _ _ _ _ ?_
  unfold law5_within law5_within_j0
  refine ⟨?_⟩
  have hne : ¬ ((m + 1 : Nat) : Int) = 0 := by omega
  simp only [pBin, binLit, if_true, intBin, if_neg hne]
  refine ⟨?_⟩
  simp only [pBin, binLit, if_true, intBin]
  have hr1 : -((m : Int) + 1) < a.tmod ((m + 1 : Nat) : Int) := by
    have h1 := Int.tmod_nonneg ((m + 1 : Nat) : Int) (a := a)
    have h2 := Int.lt_tmod_of_pos a (b := ((m + 1 : Nat) : Int)) (by omega)
    omega
  have hr2 : a.tmod ((m + 1 : Nat) : Int) < (m : Int) + 1 := by
    have := Int.tmod_lt_of_pos a (b := ((m + 1 : Nat) : Int)) (by omega)
    omega
  have hr3 : a % ((m + 1 : Nat) : Int) = if a.tmod ((m + 1 : Nat) : Int) < 0 then a.tmod ((m + 1 : Nat) : Int) + ((m + 1 : Nat) : Int) else a.tmod ((m + 1 : Nat) : Int) := by
    have h1 := Int.mul_tdiv_add_tmod a ((m + 1 : Nat) : Int)
    split
    · rename_i hlt
      have : a = (a.tmod ((m + 1 : Nat) : Int) + ((m + 1 : Nat) : Int)) + ((m + 1 : Nat) : Int) * (a.tdiv ((m + 1 : Nat) : Int) - 1) := by
        rw [Int.mul_sub, Int.mul_one]; omega
      conv => lhs; rw [this]
      rw [Int.add_mul_emod_self_left]
      exact Int.emod_eq_of_lt (by omega) (by omega)
    · rename_i hge
      conv => lhs; rw [← h1]
      rw [Int.add_comm, Int.add_mul_emod_self_left]
      exact Int.emod_eq_of_lt (by omega) (by omega)
  rw [hr3] at k
  generalize a.tmod ((m + 1 : Nat) : Int) = r at *
  by_cases hneg : r < 0
  · simp only [ifB, hneg, decide_true]
    refine ⟨?_⟩
    simp only [pBin, binLit, if_true, intBin]
    rw [IntWalk.i64_in _ (by omega)]
    rw [if_pos hneg] at k
    exact k
  · simp only [ifB, hneg, decide_false]
    rw [if_neg hneg] at k
    exact k
def isNone : AV → Bool
  | .full 0 [] => true
  | .snap 0 [] => true
  | _ => false
theorem isNone_ok {v : AV} (h : isNone v = true) : v = .full 0 [] ∨ v = .snap 0 [] := by
  unfold isNone at h
  split at h
  · exact .inl rfl
  · exact .inr rfl
  · cases h
def spClone (args : List AV) (t : HT) (n : Nat) (K : AV → HT → Nat → Bool) : Option Bool := match args with
  | [v] => match isNone v with
    | true => some (K (.full 0 []) t n)
    | false => none
  | _ => none

theorem cl19_ok (v : AV) (hv : isNone v = true) (h : AHeap) (Q : AV → AHeap → Prop) (k : Q (.full 0 []) h) : C 19 [v] h Q := by
  refine slices_Clone__int_int_ok _ _ _ ?_
  unfold slices_Clone__int_int
  rcases isNone_ok hv with rfl | rfl <;> refine ⟨⟨k, ⟨⟨by simp, ⟨?_⟩⟩⟩⟩⟩ <;> simp [eAppend, aElems, k]
theorem cl20_ok (v : AV) (hv : isNone v = true) (h : AHeap) (Q : AV → AHeap → Prop) (k : Q (.full 0 []) h) : C 20 [v] h Q := by
  refine slices_Clone__api_Diag_api_Diag_ok _ _ _ ?_
  unfold slices_Clone__api_Diag_api_Diag
  rcases isNone_ok hv with rfl | rfl <;> refine ⟨⟨k, ⟨⟨by simp, ⟨?_⟩⟩⟩⟩⟩ <;> simp [eAppend, aElems, k]
theorem cl22_ok (v : AV) (hv : isNone v = true) (h : AHeap) (Q : AV → AHeap → Prop) (k : Q (.full 0 []) h) : C 22 [v] h Q := by
  refine slices_Clone__byte_byte_ok _ _ _ ?_
  unfold slices_Clone__byte_byte
  rcases isNone_ok hv with rfl | rfl <;> refine ⟨⟨k, ⟨⟨by simp, ⟨?_⟩⟩⟩⟩⟩ <;> simp [eAppend, aElems, k]
theorem cl28_ok (v : AV) (hv : isNone v = true) (h : AHeap) (Q : AV → AHeap → Prop) (k : Q (.full 0 []) h) : C 28 [v] h Q := by
  refine slices_Clone__api_Sym_api_Sym_ok _ _ _ ?_
  unfold slices_Clone__api_Sym_api_Sym
  rcases isNone_ok hv with rfl | rfl <;> refine ⟨⟨k, ⟨⟨by simp, ⟨?_⟩⟩⟩⟩⟩ <;> simp [eAppend, aElems, k]
theorem cl88_ok (v : AV) (hv : isNone v = true) (h : AHeap) (Q : AV → AHeap → Prop) (k : Q (.full 0 []) h) : C 88 [v] h Q := by
  refine slices_Clone__api_Stmt_api_Stmt_ok _ _ _ ?_
  unfold slices_Clone__api_Stmt_api_Stmt
  rcases isNone_ok hv with rfl | rfl <;> refine ⟨⟨k, ⟨⟨by simp, ⟨?_⟩⟩⟩⟩⟩ <;> simp [eAppend, aElems, k]
theorem cl100_ok (v : AV) (hv : isNone v = true) (h : AHeap) (Q : AV → AHeap → Prop) (k : Q (.full 0 []) h) : C 100 [v] h Q := by
  refine slices_Clone__string_string_ok _ _ _ ?_
  unfold slices_Clone__string_string
  rcases isNone_ok hv with rfl | rfl <;> refine ⟨⟨k, ⟨⟨by simp, ⟨?_⟩⟩⟩⟩⟩ <;> simp [eAppend, aElems, k]
theorem cl139_ok (v : AV) (hv : isNone v = true) (h : AHeap) (Q : AV → AHeap → Prop) (k : Q (.full 0 []) h) : C 139 [v] h Q := by
  refine slices_Clone__api_Arg_api_Arg_ok _ _ _ ?_
  unfold slices_Clone__api_Arg_api_Arg
  rcases isNone_ok hv with rfl | rfl <;> refine ⟨⟨k, ⟨⟨by simp, ⟨?_⟩⟩⟩⟩⟩ <;> simp [eAppend, aElems, k]
end
def sp5 (ch : List (Nat × Nat × Nat)) : SpecB := fun f args t n K => match Nat.beq f 10 with | true => some (spWithin ch args t n K) | false => match Nat.beq f 172 with | true => some (spIndex args t n K) | false => match Nat.beq f 19 with | true => spClone args t n K | false => match Nat.beq f 20 with | true => spClone args t n K | false => match Nat.beq f 22 with | true => spClone args t n K | false => match Nat.beq f 28 with | true => spClone args t n K | false => match Nat.beq f 88 with | true => spClone args t n K | false => match Nat.beq f 100 with | true => spClone args t n K | false => match Nat.beq f 139 with | true => spClone args t n K | false => none
theorem sp5_ok [Tabs5] {ch : List (Nat × Nat × Nat)} (hch : ChOk ch) : SpecOk Pg (sp5 ch) := fun f args t n h K hr k => by
  unfold sp5 at k
  split at k
  · rename_i hf
    rw [Nat.eq_of_beq_eq_true hf]
    exact spWithin_ok hch (fun a m h Q hm k => within_ok a m h Q hm k) hr (by simpa using k)
  split at k
  · rename_i hf; rw [Nat.eq_of_beq_eq_true hf]; exact spIndex_ok indexIs Tabs5.m0 hr (by simpa using k)
  have cl : ∀ {g : FuncId}, (∀ (v : AV), isNone v = true → ∀ (h : AHeap) (Q : AV → AHeap → Prop), Q (.full 0 []) h → C g [v] h Q) → spClone args t n K = some true → C g args h (KH K) := fun hg k => by
    unfold spClone at k
    split at k
    · split at k
      · exact hg _ ‹_› _ _ ⟨t, n, hr, by simpa using k⟩
      · cases k
    · cases k
  split at k
  · rename_i hf; rw [Nat.eq_of_beq_eq_true hf]; exact cl cl19_ok k
  split at k
  · rename_i hf; rw [Nat.eq_of_beq_eq_true hf]; exact cl cl20_ok k
  split at k
  · rename_i hf; rw [Nat.eq_of_beq_eq_true hf]; exact cl cl22_ok k
  split at k
  · rename_i hf; rw [Nat.eq_of_beq_eq_true hf]; exact cl cl28_ok k
  split at k
  · rename_i hf; rw [Nat.eq_of_beq_eq_true hf]; exact cl cl88_ok k
  split at k
  · rename_i hf; rw [Nat.eq_of_beq_eq_true hf]; exact cl cl100_ok k
  split at k
  · rename_i hf; rw [Nat.eq_of_beq_eq_true hf]; exact cl cl139_ok k
  · cases k
end
end Go.Proofs.YtmocchnodigmlaaGreatDoor.AL
