import Derived.Test.YthekegghphkddaaGreatDoorAL29
import Derived.Test.YthekegghphkddaaGreatDoorIt10
import Derived.KernelRfl
set_option linter.all false
set_option autoImplicit true
set_option relaxedAutoImplicit true
set_option linter.unusedVariables false
set_option maxRecDepth 100000
namespace Go.Proofs.YthekegghphkddaaGreatDoor.AL
noncomputable section
open Go.Proofs Go.RowKit Go.Maps Go.Sort Go.Shelf
open Go.Proofs (encStr)
instance noTabs : Tabs := ⟨fun _ => True, fun _ _ => trivial, fun _ => none, fun _ _ _ _ h => by cases h⟩
noncomputable abbrev Pg : Program := Tryz.prog
abbrev C := ACall Pg
abbrev CV := ACallV Pg
def bodyOf (fn : Func) : Code := fn.body.getD .skip
abbrev fn_law10_within : Nat := 20
abbrev fn_store_length : Nat := 40
abbrev fn_store_Store_total : Nat := 39
abbrev fn_store_Store_Count : Nat := 26
abbrev fn_store_pins_least : Nat := 77
abbrev fn_store_Store_Changed : Nat := 70
abbrev fn_txn_Txn_changed : Nat := 53
abbrev fn_slices_Clone__string_string : Nat := 31
abbrev fn_slices_Clone__store_version_store_version : Nat := 71
def law10_within_j0 (s5 : AV) (h : AHeap) (Q : AV → AHeap → Prop) : Prop :=
  Q s5 h

def law10_within (a0 a1 : AV) (h : AHeap) (Q : AV → AHeap → Prop) : Prop :=
  qBin .rem a0 a1 fun t8 =>
  qBin .lss t8 (I 0) fun t10 =>
  ifB t10 (
  qBin .add t8 a1 fun t13 =>
  law10_within_j0 t13 h Q) (
  law10_within_j0 t8 h Q)

def law10_within_plan : Plan := []
theorem law10_within_eq (a0 a1 : AV) (h : AHeap) (Q : AV → AHeap → Prop) : denF Pg law10_within_plan Tryz.f20 (bodyOf Tryz.f20) [a0, a1] h Q = law10_within a0 a1 h Q := by kernel_rfl
theorem law10_within_ok (a0 a1 : AV) (h : AHeap) (Q : AV → AHeap → Prop) (k : law10_within a0 a1 h Q) : C fn_law10_within [a0, a1] h Q :=
  acall_of_den Tryz.func20 (c := bodyOf Tryz.f20) (by kernel_rfl) (by kernel_rfl) (by have := Tryz.ntmps20; simp only [List.length_cons, List.length_nil]; omega) (by rw [law10_within_eq]; exact k)
def store_length (a0 : AV) (h : AHeap) (Q : AV → AHeap → Prop) : Prop :=
  qLenL a0 fun t4 =>
  Q t4 h

def store_length_plan : Plan := []
theorem store_length_eq (a0 : AV) (h : AHeap) (Q : AV → AHeap → Prop) : denF Pg store_length_plan Tryz.f40 (bodyOf Tryz.f40) [a0] h Q = store_length a0 h Q := by kernel_rfl
theorem store_length_ok (a0 : AV) (h : AHeap) (Q : AV → AHeap → Prop) (k : store_length a0 h Q) : C fn_store_length [a0] h Q :=
  acall_of_den Tryz.func40 (c := bodyOf Tryz.f40) (by kernel_rfl) (by kernel_rfl) (by have := Tryz.ntmps40; simp only [List.length_cons, List.length_nil]; omega) (by rw [store_length_eq]; exact k)
def store_Store_total_l4 (s12 : AV) (s1 : AV) (Q : AV → AHeap → Prop) (vs1 : List AV) (h : AHeap) (next1 : List AV → AHeap → Prop) : Prop :=
  qNextM s12 h fun t13 h2 =>
  qExtract 0 t13 fun t14 =>
  ifB t14 (
  qEntry s12 h2 fun t15 =>
  qExtract 1 t15 fun t16 =>
  CV s1 [t16] h2 fun t20 h3 =>
  qBin .add (nthA vs1 0) t20 fun t21 =>
  next1 [t21] h3) (
  Q (nthA vs1 0) h2)

def store_Store_total (a0 a1 : AV) (h : AHeap) (Q : AV → AHeap → Prop) : Prop :=
  qNil a0 fun t9 =>
  qFieldAddr 3 t9 fun t10 =>
  qLoad1 t10 h fun t11 =>
  qRangeM t11 h fun t12 h0 =>
  Loop [(I 0)] h0 fun vs1 h next1 => store_Store_total_l4 t12 a1 Q vs1 h next1

def store_Store_total_plan : Plan := [(4, [5, 7, 13, 14, 15, 16, 17, 18, 19, 20, 21], [5])]
theorem store_Store_total_eq (a0 a1 : AV) (h : AHeap) (Q : AV → AHeap → Prop) : denF Pg store_Store_total_plan Tryz.f39 (bodyOf Tryz.f39) [a0, a1] h Q = store_Store_total a0 a1 h Q := by kernel_rfl
theorem store_Store_total_ok (a0 a1 : AV) (h : AHeap) (Q : AV → AHeap → Prop) (k : store_Store_total a0 a1 h Q) : C fn_store_Store_total [a0, a1] h Q :=
  acall_of_den Tryz.func39 (c := bodyOf Tryz.f39) (by kernel_rfl) (by kernel_rfl) (by have := Tryz.ntmps39; simp only [List.length_cons, List.length_nil]; omega) (by rw [store_Store_total_eq]; exact k)
def store_Store_Count (a0 : AV) (h : AHeap) (Q : AV → AHeap → Prop) : Prop :=
  CV (.fn (.func fn_store_Store_total) [] []) [a0, (.fn (.func fn_store_length) [] [])] h fun t6 h0 =>
  Q t6 h0

def store_Store_Count_plan : Plan := []
theorem store_Store_Count_eq (a0 : AV) (h : AHeap) (Q : AV → AHeap → Prop) : denF Pg store_Store_Count_plan Tryz.f26 (bodyOf Tryz.f26) [a0] h Q = store_Store_Count a0 h Q := by kernel_rfl
theorem store_Store_Count_ok (a0 : AV) (h : AHeap) (Q : AV → AHeap → Prop) (k : store_Store_Count a0 h Q) : C fn_store_Store_Count [a0] h Q :=
  acall_of_den Tryz.func26 (c := bodyOf Tryz.f26) (by kernel_rfl) (by kernel_rfl) (by have := Tryz.ntmps26; simp only [List.length_cons, List.length_nil]; omega) (by rw [store_Store_Count_eq]; exact k)
def store_pins_least_l3 (s7 : AV) (Q : AV → AHeap → Prop) (vs1 : List AV) (h : AHeap) (next1 : List AV → AHeap → Prop) : Prop :=
  qNextM s7 h fun t8 h2 =>
  qExtract 0 t8 fun t9 =>
  ifB t9 (
  qEntry s7 h2 fun t10 =>
  qExtract 0 t10 fun t11 =>
  qMin (nthA vs1 0) t11 fun t14 =>
  next1 [t14] h2) (
  Q (nthA vs1 0) h2)

def store_pins_least (a0 a1 : AV) (h : AHeap) (Q : AV → AHeap → Prop) : Prop :=
  qRangeM a0 h fun t7 h0 =>
  Loop [a1] h0 fun vs1 h next1 => store_pins_least_l3 t7 Q vs1 h next1

def store_pins_least_plan : Plan := [(3, [1, 5, 8, 9, 10, 11, 12, 13, 14], [1])]
theorem store_pins_least_eq (a0 a1 : AV) (h : AHeap) (Q : AV → AHeap → Prop) : denF Pg store_pins_least_plan Tryz.f77 (bodyOf Tryz.f77) [a0, a1] h Q = store_pins_least a0 a1 h Q := by kernel_rfl
theorem store_pins_least_ok (a0 a1 : AV) (h : AHeap) (Q : AV → AHeap → Prop) (k : store_pins_least a0 a1 h Q) : C fn_store_pins_least [a0, a1] h Q :=
  acall_of_den Tryz.func77 (c := bodyOf Tryz.f77) (by kernel_rfl) (by kernel_rfl) (by have := Tryz.ntmps77; simp only [List.length_cons, List.length_nil]; omega) (by rw [store_pins_least_eq]; exact k)
def store_Store_Changed (a0 a1 a2 : AV) (h : AHeap) (Q : AV → AHeap → Prop) : Prop :=
  qNil a0 fun t9 =>
  qFieldAddr 3 t9 fun t10 =>
  qLoad1 t10 h fun t11 =>
  qLookup .string false (.full 0 []) t11 a1 h fun t13 =>
  qLenL t13 fun t15 =>
  qBin .gtr t15 (I 0) fun t16 =>
  ifB t16 (qLenL t13 fun t20 =>
  qBin .sub t20 (I 1) fun t21 =>
  qIndexAddr 4 t13 t21 fun t22 =>
  qFieldAddr 3 t22 fun t23 =>
  qLoad1 t23 h fun t24 =>
  qBin .gtr t24 a2 fun t26 =>
  Q t26 h) (
  Q (B false) h)

def store_Store_Changed_plan : Plan := []
theorem store_Store_Changed_eq (a0 a1 a2 : AV) (h : AHeap) (Q : AV → AHeap → Prop) : denF Pg store_Store_Changed_plan Tryz.f70 (bodyOf Tryz.f70) [a0, a1, a2] h Q = store_Store_Changed a0 a1 a2 h Q := by kernel_rfl
theorem store_Store_Changed_ok (a0 a1 a2 : AV) (h : AHeap) (Q : AV → AHeap → Prop) (k : store_Store_Changed a0 a1 a2 h Q) : C fn_store_Store_Changed [a0, a1, a2] h Q :=
  acall_of_den Tryz.func70 (c := bodyOf Tryz.f70) (by kernel_rfl) (by kernel_rfl) (by have := Tryz.ntmps70; simp only [List.length_cons, List.length_nil]; omega) (by rw [store_Store_Changed_eq]; exact k)
def txn_Txn_changed_l4 (s8 : AV) (s0 : AV) (Q : AV → AHeap → Prop) (vs1 : List AV) (h : AHeap) (next1 : List AV → AHeap → Prop) : Prop :=
  qNextM s8 h fun t9 h2 =>
  qExtract 0 t9 fun t10 =>
  ifB t10 (
  qEntry s8 h2 fun t11 =>
  qExtract 0 t11 fun t12 =>
  qNil s0 fun t14 =>
  qFieldAddr 0 t14 fun t15 =>
  qLoad1 t15 h2 fun t16 =>
  qNil s0 fun t19 =>
  qFieldAddr 9 t19 fun t20 =>
  qLoad1 t20 h2 fun t21 =>
  C fn_store_Store_Changed [t16, t12, t21] h2 fun t22 h3 =>
  ifB t22 (
  Q (B true) h3) (
  next1 [(nthA vs1 0)] h3)) (
  Q (B false) h2)

def txn_Txn_changed (a0 : AV) (h : AHeap) (Q : AV → AHeap → Prop) : Prop :=
  qNil a0 fun t5 =>
  qFieldAddr 11 t5 fun t6 =>
  qLoad1 t6 h fun t7 =>
  qRangeM t7 h fun t8 h0 =>
  Loop [(B false)] h0 fun vs1 h next1 => txn_Txn_changed_l4 t8 a0 Q vs1 h next1

def txn_Txn_changed_plan : Plan := [(3, [2, 3, 9, 10, 11, 12, 13, 14, 15, 16, 17, 18, 19, 20, 21, 22], [2]), (1000004, [0, 1, 2, 3, 4, 5, 6, 7, 8, 9], [])]
theorem txn_Txn_changed_eq (a0 : AV) (h : AHeap) (Q : AV → AHeap → Prop) : denF Pg txn_Txn_changed_plan Tryz.f53 (bodyOf Tryz.f53) [a0] h Q = txn_Txn_changed a0 h Q := by kernel_rfl
theorem txn_Txn_changed_ok (a0 : AV) (h : AHeap) (Q : AV → AHeap → Prop) (k : txn_Txn_changed a0 h Q) : C fn_txn_Txn_changed [a0] h Q :=
  acall_of_den Tryz.func53 (c := bodyOf Tryz.f53) (by kernel_rfl) (by kernel_rfl) (by have := Tryz.ntmps53; simp only [List.length_cons, List.length_nil]; omega) (by rw [txn_Txn_changed_eq]; exact k)
def slices_Clone__string_string (a0 : AV) (h : AHeap) (Q : AV → AHeap → Prop) : Prop :=
  qIsNilS .eql a0 fun t4 =>
  ifB t4 (
  Q (.full 0 []) h) (
  qBuildSlice 0 1 [] fun t5 =>
  qAppend 1 16 t5 a0 h fun t7 h0 =>
  Q t7 h0)

def slices_Clone__string_string_plan : Plan := []
theorem slices_Clone__string_string_eq (a0 : AV) (h : AHeap) (Q : AV → AHeap → Prop) : denF Pg slices_Clone__string_string_plan Tryz.f31 (bodyOf Tryz.f31) [a0] h Q = slices_Clone__string_string a0 h Q := by kernel_rfl
theorem slices_Clone__string_string_ok (a0 : AV) (h : AHeap) (Q : AV → AHeap → Prop) (k : slices_Clone__string_string a0 h Q) : C fn_slices_Clone__string_string [a0] h Q :=
  acall_of_den Tryz.func31 (c := bodyOf Tryz.f31) (by kernel_rfl) (by kernel_rfl) (by have := Tryz.ntmps31; simp only [List.length_cons, List.length_nil]; omega) (by rw [slices_Clone__string_string_eq]; exact k)
def slices_Clone__store_version_store_version (a0 : AV) (h : AHeap) (Q : AV → AHeap → Prop) : Prop :=
  qIsNilS .eql a0 fun t4 =>
  ifB t4 (
  Q (.full 0 []) h) (
  qBuildSlice 0 4 [] fun t5 =>
  qAppend 4 48 t5 a0 h fun t7 h0 =>
  Q t7 h0)

def slices_Clone__store_version_store_version_plan : Plan := []
theorem slices_Clone__store_version_store_version_eq (a0 : AV) (h : AHeap) (Q : AV → AHeap → Prop) : denF Pg slices_Clone__store_version_store_version_plan Tryz.f71 (bodyOf Tryz.f71) [a0] h Q = slices_Clone__store_version_store_version a0 h Q := by kernel_rfl
theorem slices_Clone__store_version_store_version_ok (a0 : AV) (h : AHeap) (Q : AV → AHeap → Prop) (k : slices_Clone__store_version_store_version a0 h Q) : C fn_slices_Clone__store_version_store_version [a0] h Q :=
  acall_of_den Tryz.func71 (c := bodyOf Tryz.f71) (by kernel_rfl) (by kernel_rfl) (by have := Tryz.ntmps71; simp only [List.length_cons, List.length_nil]; omega) (by rw [slices_Clone__store_version_store_version_eq]; exact k)
theorem keysIs : KeysIs Pg 79 96 65 := ⟨⟨_, Tryz.func79, by kernel_rfl, by kernel_rfl⟩, fun b W => callsIn_wide.1 (Tryz.maps_Keys_79 (some b) W)⟩
theorem sortedIs : SortedIs Pg 78 96 9 := ⟨⟨_, Tryz.func78, by kernel_rfl, by kernel_rfl⟩, Tryz.underlying9, fun Bm b nn D0 R W hBm hcell hown hsz => by
  have hseq : SeqGives Fence.wide 2 Tryz.prog 96 #[.pointer (some ⟨Bm, 0, none⟩)] encStr (fun ss => ss.Perm (strKeys D0)) (Maps.size D0) W :=
    AnyZ.keys_gives (ρ := Tryz.keys79_ren) { Tryz.keys79 with } Fence.wide _ trivial rfl (by omega) Bm b nn D0 W hBm hcell hown
  exact callsIn_wide.1 (AnyZ.sorted_in Tryz.sorted78 Fence.wide 5 trivial trivial trivial trivial rfl (by omega) (Tryz.sorts78 _) (enters_of Tryz.func95 (by kernel_rfl) rfl) 96 #[.pointer (some ⟨Bm, 0, none⟩)] trivial (enters_of Tryz.func96 (by kernel_rfl) rfl) _ _ (Nat.le_trans hsz (by unfold maxLen; omega)) (by omega) _ hseq)⟩
def allLt (p : Nat → Bool) : Nat → Bool
  | 0 => true
  | k + 1 => bA (p k) (allLt p k)
theorem allLt_ok {p : Nat → Bool} : ∀ {n k : Nat}, allLt p n = true → k < n → p k = true
  | 0, k, h, hk => by omega
  | n + 1, k, h, hk => by
    simp only [allLt, bA_eq] at h
    by_cases e : k = n
    · subst e; exact h.1
    · exact allLt_ok h.2 (by omega)
theorem within_ok (a : Int) (m : Nat) (h : AHeap) (Q : AV → AHeap → Prop) (hm : m ≤ 1099511627776) (k : ∀ j : Nat, j < m + 1 → Q (I (j : Int)) h) : C fn_law10_within [I a, I ((m + 1 : Nat) : Int)] h Q := by
  refine law10_within_ok _ _ _ _ ?_
  unfold law10_within law10_within_j0
  refine ⟨?_⟩
  have hne : ¬ ((m + 1 : Nat) : Int) = 0 := by omega
  simp only [pBin, binLit, if_true, intBin, if_neg hne]
  refine ⟨?_⟩
  simp only [pBin, binLit, if_true, intBin]
  have hr1 : -((m : Int) + 1) < a.tmod ((m + 1 : Nat) : Int) := by
    have h1 := Int.tmod_nonneg ((m + 1 : Nat) : Int) (a := a)
    have h2 := Int.lt_tmod_of_pos a (b := ((m + 1 : Nat) : Int)) (by omega)
    omega
  have hr2 : a.tmod ((m + 1 : Nat) : Int) < (m : Int) + 1 := by
    have := Int.tmod_lt_of_pos a (b := ((m + 1 : Nat) : Int)) (by omega)
    omega
  generalize a.tmod ((m + 1 : Nat) : Int) = r at *
  by_cases hneg : r < 0
  · simp only [ifB, hneg, decide_true]
    refine ⟨?_⟩
    simp only [pBin, binLit, if_true, intBin]
    rw [IntWalk.i64_in _ (by omega)]
    obtain ⟨j, hj⟩ := Int.eq_ofNat_of_zero_le (show 0 ≤ r + ((m + 1 : Nat) : Int) by omega)
    rw [hj]
    exact k j (by omega)
  · simp only [ifB, hneg, decide_false]
    obtain ⟨j, hj⟩ := Int.eq_ofNat_of_zero_le (show 0 ≤ r by omega)
    rw [hj]
    exact k j (by omega)
def withinB (args : List AV) (t : HT) (n : Nat) (K : AV → HT → Nat → Bool) : Bool := match args with
  | [.lit (.int .i64 a), .lit (.int .i64 (.ofNat (m + 1)))] => bA (Nat.ble m 1099511627776) (allLt (fun j => K (I (.ofNat j)) t n) (m + 1))
  | _ => false
end
end Go.Proofs.YthekegghphkddaaGreatDoor.AL
