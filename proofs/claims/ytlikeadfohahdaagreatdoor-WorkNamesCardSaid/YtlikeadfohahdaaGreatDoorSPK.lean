import Derived.Test.YtlikeadfohahdaaGreatDoorSB
import Derived.Test.YtlikeadfohahdaaGreatDoorItM
import Derived.Test.YtlikeadfohahdaaGreatDoorAL27toAL31
set_option linter.all false
set_option autoImplicit true
set_option relaxedAutoImplicit true
set_option maxRecDepth 100000
namespace Go.Proofs.YtlikeadfohahdaaGreatDoor.AL
noncomputable section
open Go.Proofs Go.RowKit Go.Maps Go.Sort Go.Shelf
open Go.Proofs (encStr)
section
variable [Tabs]
def isNone : AV → Bool
  | .full 0 [] => true
  | .snap 0 [] => true
  | _ => false
theorem isNone_ok {v : AV} (h : isNone v = true) : v = .full 0 [] ∨ v = .snap 0 [] := by
  unfold isNone at h
  split at h
  · exact .inl rfl
  · exact .inr rfl
  · cases h
def spClone (args : List AV) (t : HT) (n : Nat) (K : AV → HT → Nat → Bool) : Option Bool := match args with
  | [v] => match isNone v with
    | true => some (K (.full 0 []) t n)
    | false => none
  | _ => none
theorem keysIs40 : KeysIs Pg 40 61 50 := ⟨⟨_, Tryz.func40, by kernel_rfl, by kernel_rfl⟩, fun b W => callsIn_wide.1 (Tryz.maps_Keys_40 (some b) W)⟩
theorem sortedIs40 : SortedIs Pg 39 61 9 := ⟨⟨_, Tryz.func39, by kernel_rfl, by kernel_rfl⟩, Tryz.underlying9, fun Bm b nn D0 R W hBm hcell hown hsz => by
  have hseq : SeqGives Fence.wide 2 Tryz.prog 61 #[.pointer (some ⟨Bm, 0, none⟩)] encStr (fun ss => ss.Perm (strKeys D0)) (Maps.size D0) W :=
    AnyZ.keys_gives (ρ := Tryz.keys40_ren) { Tryz.keys40 with } Fence.wide _ trivial rfl (by omega) Bm b nn D0 W hBm hcell hown
  exact callsIn_wide.1 (AnyZ.sorted_in Tryz.sorted39 Fence.wide 5 trivial trivial trivial trivial rfl (by omega) (Tryz.sorts39 _) (enters_of Tryz.func60 (by kernel_rfl) rfl) 61 #[.pointer (some ⟨Bm, 0, none⟩)] trivial (enters_of Tryz.func61 (by kernel_rfl) rfl) _ _ (Nat.le_trans hsz (by unfold maxLen; omega)) (by omega) _ hseq)⟩
theorem keysIs42 : KeysIs Pg 42 62 51 := ⟨⟨_, Tryz.func42, by kernel_rfl, by kernel_rfl⟩, fun b W => callsIn_wide.1 (Tryz.maps_Keys_42 (some b) W)⟩
theorem sortedIs42 : SortedIs Pg 39 62 9 := ⟨⟨_, Tryz.func39, by kernel_rfl, by kernel_rfl⟩, Tryz.underlying9, fun Bm b nn D0 R W hBm hcell hown hsz => by
  have hseq : SeqGives Fence.wide 2 Tryz.prog 62 #[.pointer (some ⟨Bm, 0, none⟩)] encStr (fun ss => ss.Perm (strKeys D0)) (Maps.size D0) W :=
    AnyZ.keys_gives (ρ := Tryz.keys42_ren) { Tryz.keys42 with } Fence.wide _ trivial rfl (by omega) Bm b nn D0 W hBm hcell hown
  exact callsIn_wide.1 (AnyZ.sorted_in Tryz.sorted39 Fence.wide 5 trivial trivial trivial trivial rfl (by omega) (Tryz.sorts39 _) (enters_of Tryz.func60 (by kernel_rfl) rfl) 62 #[.pointer (some ⟨Bm, 0, none⟩)] trivial (enters_of Tryz.func62 (by kernel_rfl) rfl) _ _ (Nat.le_trans hsz (by unfold maxLen; omega)) (by omega) _ hseq)⟩
theorem cl41_ok (v : AV) (hv : isNone v = true) (h : AHeap) (Q : QT) (k : Q (.full 0 []) h) : C 41 [v] h Q := by
  refine slices_Clone__api_Frag_api_Frag_ok _ _ _ ?_
  unfold slices_Clone__api_Frag_api_Frag
  rcases isNone_ok hv with rfl | rfl <;> refine ⟨⟨k, ⟨⟨by simp, ⟨?_⟩⟩⟩⟩⟩ <;> simp [eAppend, aElems, k]
theorem cl43_ok (v : AV) (hv : isNone v = true) (h : AHeap) (Q : QT) (k : Q (.full 0 []) h) : C 43 [v] h Q := by
  refine slices_Clone__api_Sym_api_Sym_ok _ _ _ ?_
  unfold slices_Clone__api_Sym_api_Sym
  rcases isNone_ok hv with rfl | rfl <;> refine ⟨⟨k, ⟨⟨by simp, ⟨?_⟩⟩⟩⟩⟩ <;> simp [eAppend, aElems, k]
theorem cl64_ok (v : AV) (hv : isNone v = true) (h : AHeap) (Q : QT) (k : Q (.full 0 []) h) : C 64 [v] h Q := by
  refine slices_Clone__api_Diag_api_Diag_ok _ _ _ ?_
  unfold slices_Clone__api_Diag_api_Diag
  rcases isNone_ok hv with rfl | rfl <;> refine ⟨⟨k, ⟨⟨by simp, ⟨?_⟩⟩⟩⟩⟩ <;> simp [eAppend, aElems, k]
theorem cl66_ok (v : AV) (hv : isNone v = true) (h : AHeap) (Q : QT) (k : Q (.full 0 []) h) : C 66 [v] h Q := by
  refine slices_Clone__byte_byte_ok _ _ _ ?_
  unfold slices_Clone__byte_byte
  rcases isNone_ok hv with rfl | rfl <;> refine ⟨⟨k, ⟨⟨by simp, ⟨?_⟩⟩⟩⟩⟩ <;> simp [eAppend, aElems, k]
theorem cl129_ok (v : AV) (hv : isNone v = true) (h : AHeap) (Q : QT) (k : Q (.full 0 []) h) : C 129 [v] h Q := by
  refine slices_Clone__api_Stmt_api_Stmt_ok _ _ _ ?_
  unfold slices_Clone__api_Stmt_api_Stmt
  rcases isNone_ok hv with rfl | rfl <;> refine ⟨⟨k, ⟨⟨by simp, ⟨?_⟩⟩⟩⟩⟩ <;> simp [eAppend, aElems, k]
theorem cl130_ok (v : AV) (hv : isNone v = true) (h : AHeap) (Q : QT) (k : Q (.full 0 []) h) : C 130 [v] h Q := by
  refine slices_Clone__int_int_ok _ _ _ ?_
  unfold slices_Clone__int_int
  rcases isNone_ok hv with rfl | rfl <;> refine ⟨⟨k, ⟨⟨by simp, ⟨?_⟩⟩⟩⟩⟩ <;> simp [eAppend, aElems, k]
theorem cl164_ok (v : AV) (hv : isNone v = true) (h : AHeap) (Q : QT) (k : Q (.full 0 []) h) : C 164 [v] h Q := by
  refine slices_Clone__api_Arg_api_Arg_ok _ _ _ ?_
  unfold slices_Clone__api_Arg_api_Arg
  rcases isNone_ok hv with rfl | rfl <;> refine ⟨⟨k, ⟨⟨by simp, ⟨?_⟩⟩⟩⟩⟩ <;> simp [eAppend, aElems, k]
theorem cl166_ok (v : AV) (hv : isNone v = true) (h : AHeap) (Q : QT) (k : Q (.full 0 []) h) : C 166 [v] h Q := by
  refine slices_Clone__string_string_ok _ _ _ ?_
  unfold slices_Clone__string_string
  rcases isNone_ok hv with rfl | rfl <;> refine ⟨⟨k, ⟨⟨by simp, ⟨?_⟩⟩⟩⟩⟩ <;> simp [eAppend, aElems, k]
end
def spK : SpecB := fun f args t n K => match Nat.beq f 188 with | true => some (spIndex args t n K) | false => match Nat.beq f 40 with | true => some (spKeys 61 args t n K) | false => match Nat.beq f 42 with | true => some (spKeys 62 args t n K) | false => match Nat.beq f 39 with | true => (match args with | [.fn (.func g) _ _] => (match Nat.beq g 61 with | true => some (spSorted 61 args t n K) | false => match Nat.beq g 62 with | true => some (spSorted 62 args t n K) | false => some false) | _ => some false) | false => match Nat.beq f 41 with | true => spClone args t n K | false => match Nat.beq f 43 with | true => spClone args t n K | false => match Nat.beq f 64 with | true => spClone args t n K | false => match Nat.beq f 66 with | true => spClone args t n K | false => match Nat.beq f 129 with | true => spClone args t n K | false => match Nat.beq f 130 with | true => spClone args t n K | false => match Nat.beq f 164 with | true => spClone args t n K | false => match Nat.beq f 166 with | true => spClone args t n K | false => none
theorem spK_ok [Tabs5] : SpecOk Pg spK := fun f args t n h K hr k => by
  unfold spK at k
  split at k
  · rename_i hf; rw [Nat.eq_of_beq_eq_true hf]; exact spIndex_ok indexIs Tabs5.m0 hr (by simpa using k)
  have cl : ∀ {g : FuncId}, (∀ (v : AV), isNone v = true → ∀ (h : AHeap) (Q : QT), Q (.full 0 []) h → C g [v] h Q) → spClone args t n K = some true → C g args h (KH K) := fun hg k => by
    unfold spClone at k
    split at k
    · split at k
      · exact hg _ ‹_› _ _ ⟨t, n, hr, by simpa using k⟩
      · cases k
    · cases k
  split at k
  · rename_i hf; rw [Nat.eq_of_beq_eq_true hf]; exact spKeys_ok keysIs40 hr (by simpa using k)
  split at k
  · rename_i hf; rw [Nat.eq_of_beq_eq_true hf]; exact spKeys_ok keysIs42 hr (by simpa using k)
  split at k
  · rename_i hf; rw [Nat.eq_of_beq_eq_true hf]
    split at k
    · split at k
      · rename_i g hg; exact spSorted_ok sortedIs40 hr (by simpa using k)
      split at k
      · exact spSorted_ok sortedIs42 hr (by simpa using k)
      · cases k
    · cases k
  split at k
  · rename_i hf; rw [Nat.eq_of_beq_eq_true hf]; exact cl cl41_ok k
  split at k
  · rename_i hf; rw [Nat.eq_of_beq_eq_true hf]; exact cl cl43_ok k
  split at k
  · rename_i hf; rw [Nat.eq_of_beq_eq_true hf]; exact cl cl64_ok k
  split at k
  · rename_i hf; rw [Nat.eq_of_beq_eq_true hf]; exact cl cl66_ok k
  split at k
  · rename_i hf; rw [Nat.eq_of_beq_eq_true hf]; exact cl cl129_ok k
  split at k
  · rename_i hf; rw [Nat.eq_of_beq_eq_true hf]; exact cl cl130_ok k
  split at k
  · rename_i hf; rw [Nat.eq_of_beq_eq_true hf]; exact cl cl164_ok k
  split at k
  · rename_i hf; rw [Nat.eq_of_beq_eq_true hf]; exact cl cl166_ok k
  · cases k
end
end Go.Proofs.YtlikeadfohahdaaGreatDoor.AL
