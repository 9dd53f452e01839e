import Derived.Test.YtamfimhaimaeiaaGreatDoorSB
import Derived.Test.YtamfimhaimaeiaaGreatDoorItM
import Derived.Test.YtamfimhaimaeiaaGreatDoorAL27toAL31
set_option linter.all false
set_option autoImplicit true
set_option relaxedAutoImplicit true
set_option maxRecDepth 100000
namespace Go.Proofs.YtamfimhaimaeiaaGreatDoor.AL
noncomputable section
open Go.Proofs Go.RowKit Go.Maps Go.Sort Go.Shelf
open Go.Proofs (encStr)
section
variable [Tabs]
def isNone : AV → Bool
  | .full 0 [] => true
  | .snap 0 [] => true
  | _ => false
theorem isNone_ok {v : AV} (h : isNone v = true) : v = .full 0 [] ∨ v = .snap 0 [] := by
  unfold isNone at h
  split at h
  · exact .inl rfl
  · exact .inr rfl
  · cases h
def spClone (args : List AV) (t : HT) (n : Nat) (K : AV → HT → Nat → Bool) : Option Bool := match args with
  | [v] => match isNone v with
    | true => some (K (.full 0 []) t n)
    | false => none
  | _ => none
theorem keysIs78 : KeysIs Pg 78 95 64 := ⟨⟨_, Tryz.func78, by kernel_rfl, by kernel_rfl⟩, fun b W => callsIn_wide.1 (Tryz.maps_Keys_78 (some b) W)⟩
theorem sortedIs78 : SortedIs Pg 77 95 9 := ⟨⟨_, Tryz.func77, by kernel_rfl, by kernel_rfl⟩, Tryz.underlying9, fun Bm b nn D0 R W hBm hcell hown hsz => by
  have hseq : SeqGives Fence.wide 2 Tryz.prog 95 #[.pointer (some ⟨Bm, 0, none⟩)] encStr (fun ss => ss.Perm (strKeys D0)) (Maps.size D0) W :=
    AnyZ.keys_gives (ρ := Tryz.keys78_ren) { Tryz.keys78 with } Fence.wide _ trivial rfl (by omega) Bm b nn D0 W hBm hcell hown
  exact callsIn_wide.1 (AnyZ.sorted_in Tryz.sorted77 Fence.wide 5 trivial trivial trivial trivial rfl (by omega) (Tryz.sorts77 _) (enters_of Tryz.func94 (by kernel_rfl) rfl) 95 #[.pointer (some ⟨Bm, 0, none⟩)] trivial (enters_of Tryz.func95 (by kernel_rfl) rfl) _ _ (Nat.le_trans hsz (by unfold maxLen; omega)) (by omega) _ hseq)⟩
theorem cl30_ok (v : AV) (hv : isNone v = true) (h : AHeap) (Q : QT) (k : Q (.full 0 []) h) : C 30 [v] h Q := by
  refine slices_Clone__string_string_ok _ _ _ ?_
  unfold slices_Clone__string_string
  rcases isNone_ok hv with rfl | rfl <;> refine ⟨⟨k, ⟨⟨by simp, ⟨?_⟩⟩⟩⟩⟩ <;> simp [eAppend, aElems, k]
theorem cl70_ok (v : AV) (hv : isNone v = true) (h : AHeap) (Q : QT) (k : Q (.full 0 []) h) : C 70 [v] h Q := by
  refine slices_Clone__store_version_store_version_ok _ _ _ ?_
  unfold slices_Clone__store_version_store_version
  rcases isNone_ok hv with rfl | rfl <;> refine ⟨⟨k, ⟨⟨by simp, ⟨?_⟩⟩⟩⟩⟩ <;> simp [eAppend, aElems, k]
theorem cl103_ok (v : AV) (hv : isNone v = true) (h : AHeap) (Q : QT) (k : Q (.full 0 []) h) : C 103 [v] h Q := by
  refine slices_Clone__api_Diag_api_Diag_ok _ _ _ ?_
  unfold slices_Clone__api_Diag_api_Diag
  rcases isNone_ok hv with rfl | rfl <;> refine ⟨⟨k, ⟨⟨by simp, ⟨?_⟩⟩⟩⟩⟩ <;> simp [eAppend, aElems, k]
theorem cl105_ok (v : AV) (hv : isNone v = true) (h : AHeap) (Q : QT) (k : Q (.full 0 []) h) : C 105 [v] h Q := by
  refine slices_Clone__byte_byte_ok _ _ _ ?_
  unfold slices_Clone__byte_byte
  rcases isNone_ok hv with rfl | rfl <;> refine ⟨⟨k, ⟨⟨by simp, ⟨?_⟩⟩⟩⟩⟩ <;> simp [eAppend, aElems, k]
theorem cl119_ok (v : AV) (hv : isNone v = true) (h : AHeap) (Q : QT) (k : Q (.full 0 []) h) : C 119 [v] h Q := by
  refine slices_Clone__api_Stmt_api_Stmt_ok _ _ _ ?_
  unfold slices_Clone__api_Stmt_api_Stmt
  rcases isNone_ok hv with rfl | rfl <;> refine ⟨⟨k, ⟨⟨by simp, ⟨?_⟩⟩⟩⟩⟩ <;> simp [eAppend, aElems, k]
theorem cl120_ok (v : AV) (hv : isNone v = true) (h : AHeap) (Q : QT) (k : Q (.full 0 []) h) : C 120 [v] h Q := by
  refine slices_Clone__int_int_ok _ _ _ ?_
  unfold slices_Clone__int_int
  rcases isNone_ok hv with rfl | rfl <;> refine ⟨⟨k, ⟨⟨by simp, ⟨?_⟩⟩⟩⟩⟩ <;> simp [eAppend, aElems, k]
theorem cl153_ok (v : AV) (hv : isNone v = true) (h : AHeap) (Q : QT) (k : Q (.full 0 []) h) : C 153 [v] h Q := by
  refine slices_Clone__api_Arg_api_Arg_ok _ _ _ ?_
  unfold slices_Clone__api_Arg_api_Arg
  rcases isNone_ok hv with rfl | rfl <;> refine ⟨⟨k, ⟨⟨by simp, ⟨?_⟩⟩⟩⟩⟩ <;> simp [eAppend, aElems, k]
end
def spK : SpecB := fun f args t n K => match Nat.beq f 57 with | true => some (spIndex args t n K) | false => match Nat.beq f 78 with | true => some (spKeys 95 args t n K) | false => match Nat.beq f 77 with | true => (match args with | [.fn (.func g) _ _] => (match Nat.beq g 95 with | true => some (spSorted 95 args t n K) | false => some false) | _ => some false) | false => match Nat.beq f 30 with | true => spClone args t n K | false => match Nat.beq f 70 with | true => spClone args t n K | false => match Nat.beq f 103 with | true => spClone args t n K | false => match Nat.beq f 105 with | true => spClone args t n K | false => match Nat.beq f 119 with | true => spClone args t n K | false => match Nat.beq f 120 with | true => spClone args t n K | false => match Nat.beq f 153 with | true => spClone args t n K | false => none
theorem spK_ok [Tabs5] : SpecOk Pg spK := fun f args t n h K hr k => by
  unfold spK at k
  split at k
  · rename_i hf; rw [Nat.eq_of_beq_eq_true hf]; exact spIndex_ok indexIs Tabs5.m0 hr (by simpa using k)
  have cl : ∀ {g : FuncId}, (∀ (v : AV), isNone v = true → ∀ (h : AHeap) (Q : QT), Q (.full 0 []) h → C g [v] h Q) → spClone args t n K = some true → C g args h (KH K) := fun hg k => by
    unfold spClone at k
    split at k
    · split at k
      · exact hg _ ‹_› _ _ ⟨t, n, hr, by simpa using k⟩
      · cases k
    · cases k
  split at k
  · rename_i hf; rw [Nat.eq_of_beq_eq_true hf]; exact spKeys_ok keysIs78 hr (by simpa using k)
  split at k
  · rename_i hf; rw [Nat.eq_of_beq_eq_true hf]
    split at k
    · split at k
      · rename_i g hg; exact spSorted_ok sortedIs78 hr (by simpa using k)
      · cases k
    · cases k
  split at k
  · rename_i hf; rw [Nat.eq_of_beq_eq_true hf]; exact cl cl30_ok k
  split at k
  · rename_i hf; rw [Nat.eq_of_beq_eq_true hf]; exact cl cl70_ok k
  split at k
  · rename_i hf; rw [Nat.eq_of_beq_eq_true hf]; exact cl cl103_ok k
  split at k
  · rename_i hf; rw [Nat.eq_of_beq_eq_true hf]; exact cl cl105_ok k
  split at k
  · rename_i hf; rw [Nat.eq_of_beq_eq_true hf]; exact cl cl119_ok k
  split at k
  · rename_i hf; rw [Nat.eq_of_beq_eq_true hf]; exact cl cl120_ok k
  split at k
  · rename_i hf; rw [Nat.eq_of_beq_eq_true hf]; exact cl cl153_ok k
  · cases k
end
end Go.Proofs.YtamfimhaimaeiaaGreatDoor.AL
