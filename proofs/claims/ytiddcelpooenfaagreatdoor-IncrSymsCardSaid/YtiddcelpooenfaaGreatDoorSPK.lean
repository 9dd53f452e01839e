import Derived.Test.YtiddcelpooenfaaGreatDoorSBtoAI2
import Derived.Test.YtiddcelpooenfaaGreatDoorAL27toAL31
set_option linter.all false
set_option autoImplicit true
set_option relaxedAutoImplicit true
set_option maxRecDepth 100000
namespace Go.Proofs.YtiddcelpooenfaaGreatDoor.AL
noncomputable section
open Go.Proofs Go.RowKit Go.Maps Go.Sort Go.Shelf
open Go.Proofs (encStr)
section
variable [Tabs]
def isNone : AV → Bool
  | .full 0 [] => true
  | .snap 0 [] => true
  | _ => false
theorem isNone_ok {v : AV} (h : isNone v = true) : v = .full 0 [] ∨ v = .snap 0 [] := by
  unfold isNone at h
  split at h
  · exact .inl rfl
  · exact .inr rfl
  · cases h
def spClone (args : List AV) (t : HT) (n : Nat) (K : AV → HT → Nat → Bool) : Option Bool := match args with
  | [v] => match isNone v with
    | true => some (K (.full 0 []) t n)
    | false => none
  | _ => none
theorem cl17_ok (v : AV) (hv : isNone v = true) (h : AHeap) (Q : QT) (k : Q (.full 0 []) h) : C 17 [v] h Q := by
  refine slices_Clone__api_Diag_api_Diag_ok _ _ _ ?_
  unfold slices_Clone__api_Diag_api_Diag
  rcases isNone_ok hv with rfl | rfl <;> refine ⟨⟨k, ⟨⟨by simp, ⟨?_⟩⟩⟩⟩⟩ <;> simp [eAppend, aElems, k]
theorem cl19_ok (v : AV) (hv : isNone v = true) (h : AHeap) (Q : QT) (k : Q (.full 0 []) h) : C 19 [v] h Q := by
  refine slices_Clone__byte_byte_ok _ _ _ ?_
  unfold slices_Clone__byte_byte
  rcases isNone_ok hv with rfl | rfl <;> refine ⟨⟨k, ⟨⟨by simp, ⟨?_⟩⟩⟩⟩⟩ <;> simp [eAppend, aElems, k]
theorem cl23_ok (v : AV) (hv : isNone v = true) (h : AHeap) (Q : QT) (k : Q (.full 0 []) h) : C 23 [v] h Q := by
  refine slices_Clone__api_Sym_api_Sym_ok _ _ _ ?_
  unfold slices_Clone__api_Sym_api_Sym
  rcases isNone_ok hv with rfl | rfl <;> refine ⟨⟨k, ⟨⟨by simp, ⟨?_⟩⟩⟩⟩⟩ <;> simp [eAppend, aElems, k]
theorem cl28_ok (v : AV) (hv : isNone v = true) (h : AHeap) (Q : QT) (k : Q (.full 0 []) h) : C 28 [v] h Q := by
  refine slices_Clone__int_int_ok _ _ _ ?_
  unfold slices_Clone__int_int
  rcases isNone_ok hv with rfl | rfl <;> refine ⟨⟨k, ⟨⟨by simp, ⟨?_⟩⟩⟩⟩⟩ <;> simp [eAppend, aElems, k]
theorem cl41_ok (v : AV) (hv : isNone v = true) (h : AHeap) (Q : QT) (k : Q (.full 0 []) h) : C 41 [v] h Q := by
  refine slices_Clone__string_string_ok _ _ _ ?_
  unfold slices_Clone__string_string
  rcases isNone_ok hv with rfl | rfl <;> refine ⟨⟨k, ⟨⟨by simp, ⟨?_⟩⟩⟩⟩⟩ <;> simp [eAppend, aElems, k]
theorem cl71_ok (v : AV) (hv : isNone v = true) (h : AHeap) (Q : QT) (k : Q (.full 0 []) h) : C 71 [v] h Q := by
  refine slices_Clone__api_Stmt_api_Stmt_ok _ _ _ ?_
  unfold slices_Clone__api_Stmt_api_Stmt
  rcases isNone_ok hv with rfl | rfl <;> refine ⟨⟨k, ⟨⟨by simp, ⟨?_⟩⟩⟩⟩⟩ <;> simp [eAppend, aElems, k]
theorem cl107_ok (v : AV) (hv : isNone v = true) (h : AHeap) (Q : QT) (k : Q (.full 0 []) h) : C 107 [v] h Q := by
  refine slices_Clone__api_Arg_api_Arg_ok _ _ _ ?_
  unfold slices_Clone__api_Arg_api_Arg
  rcases isNone_ok hv with rfl | rfl <;> refine ⟨⟨k, ⟨⟨by simp, ⟨?_⟩⟩⟩⟩⟩ <;> simp [eAppend, aElems, k]
end
def spK : SpecB := fun f args t n K => match Nat.beq f 129 with | true => some (spIndex args t n K) | false => match Nat.beq f 17 with | true => spClone args t n K | false => match Nat.beq f 19 with | true => spClone args t n K | false => match Nat.beq f 23 with | true => spClone args t n K | false => match Nat.beq f 28 with | true => spClone args t n K | false => match Nat.beq f 41 with | true => spClone args t n K | false => match Nat.beq f 71 with | true => spClone args t n K | false => match Nat.beq f 107 with | true => spClone args t n K | false => none
theorem spK_ok [Tabs5] : SpecOk Pg spK := fun f args t n h K hr k => by
  unfold spK at k
  split at k
  · rename_i hf; rw [Nat.eq_of_beq_eq_true hf]; exact spIndex_ok indexIs Tabs5.m0 hr (by simpa using k)
  have cl : ∀ {g : FuncId}, (∀ (v : AV), isNone v = true → ∀ (h : AHeap) (Q : QT), Q (.full 0 []) h → C g [v] h Q) → spClone args t n K = some true → C g args h (KH K) := fun hg k => by
    unfold spClone at k
    split at k
    · split at k
      · exact hg _ ‹_› _ _ ⟨t, n, hr, by simpa using k⟩
      · cases k
    · cases k
  split at k
  · rename_i hf; rw [Nat.eq_of_beq_eq_true hf]; exact cl cl17_ok k
  split at k
  · rename_i hf; rw [Nat.eq_of_beq_eq_true hf]; exact cl cl19_ok k
  split at k
  · rename_i hf; rw [Nat.eq_of_beq_eq_true hf]; exact cl cl23_ok k
  split at k
  · rename_i hf; rw [Nat.eq_of_beq_eq_true hf]; exact cl cl28_ok k
  split at k
  · rename_i hf; rw [Nat.eq_of_beq_eq_true hf]; exact cl cl41_ok k
  split at k
  · rename_i hf; rw [Nat.eq_of_beq_eq_true hf]; exact cl cl71_ok k
  split at k
  · rename_i hf; rw [Nat.eq_of_beq_eq_true hf]; exact cl cl107_ok k
  · cases k
end
end Go.Proofs.YtiddcelpooenfaaGreatDoor.AL
