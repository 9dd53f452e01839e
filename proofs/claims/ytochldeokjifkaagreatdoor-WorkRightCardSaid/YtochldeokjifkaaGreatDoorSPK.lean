import Derived.Test.YtochldeokjifkaaGreatDoorSB
import Derived.Test.YtochldeokjifkaaGreatDoorItM
import Derived.Test.YtochldeokjifkaaGreatDoorAL27toAL31
set_option linter.all false
set_option autoImplicit true
set_option relaxedAutoImplicit true
set_option maxRecDepth 100000
namespace Go.Proofs.YtochldeokjifkaaGreatDoor.AL
noncomputable section
open Go.Proofs Go.RowKit Go.Maps Go.Sort Go.Shelf
open Go.Proofs (encStr)
section
variable [Tabs]
def isNone : AV → Bool
  | .full 0 [] => true
  | .snap 0 [] => true
  | _ => false
theorem isNone_ok {v : AV} (h : isNone v = true) : v = .full 0 [] ∨ v = .snap 0 [] := by
  unfold isNone at h
  split at h
  · exact .inl rfl
  · exact .inr rfl
  · cases h
def spClone (args : List AV) (t : HT) (n : Nat) (K : AV → HT → Nat → Bool) : Option Bool := match args with
  | [v] => match isNone v with
    | true => some (K (.full 0 []) t n)
    | false => none
  | _ => none
theorem keysIs44 : KeysIs Pg 44 61 57 := ⟨⟨_, Tryz.func44, by kernel_rfl, by kernel_rfl⟩, fun b W => callsIn_wide.1 (Tryz.maps_Keys_44 (some b) W)⟩
theorem sortedIs44 : SortedIs Pg 43 61 9 := ⟨⟨_, Tryz.func43, by kernel_rfl, by kernel_rfl⟩, Tryz.underlying9, fun Bm b nn D0 R W hBm hcell hown hsz => by
  have hseq : SeqGives Fence.wide 2 Tryz.prog 61 #[.pointer (some ⟨Bm, 0, none⟩)] encStr (fun ss => ss.Perm (strKeys D0)) (Maps.size D0) W :=
    AnyZ.keys_gives (ρ := Tryz.keys44_ren) { Tryz.keys44 with } Fence.wide _ trivial rfl (by omega) Bm b nn D0 W hBm hcell hown
  exact callsIn_wide.1 (AnyZ.sorted_in Tryz.sorted43 Fence.wide 5 trivial trivial trivial trivial rfl (by omega) (Tryz.sorts43 _) (enters_of Tryz.func60 (by kernel_rfl) rfl) 61 #[.pointer (some ⟨Bm, 0, none⟩)] trivial (enters_of Tryz.func61 (by kernel_rfl) rfl) _ _ (Nat.le_trans hsz (by unfold maxLen; omega)) (by omega) _ hseq)⟩
theorem keysIs46 : KeysIs Pg 46 62 58 := ⟨⟨_, Tryz.func46, by kernel_rfl, by kernel_rfl⟩, fun b W => callsIn_wide.1 (Tryz.maps_Keys_46 (some b) W)⟩
theorem sortedIs46 : SortedIs Pg 43 62 9 := ⟨⟨_, Tryz.func43, by kernel_rfl, by kernel_rfl⟩, Tryz.underlying9, fun Bm b nn D0 R W hBm hcell hown hsz => by
  have hseq : SeqGives Fence.wide 2 Tryz.prog 62 #[.pointer (some ⟨Bm, 0, none⟩)] encStr (fun ss => ss.Perm (strKeys D0)) (Maps.size D0) W :=
    AnyZ.keys_gives (ρ := Tryz.keys46_ren) { Tryz.keys46 with } Fence.wide _ trivial rfl (by omega) Bm b nn D0 W hBm hcell hown
  exact callsIn_wide.1 (AnyZ.sorted_in Tryz.sorted43 Fence.wide 5 trivial trivial trivial trivial rfl (by omega) (Tryz.sorts43 _) (enters_of Tryz.func60 (by kernel_rfl) rfl) 62 #[.pointer (some ⟨Bm, 0, none⟩)] trivial (enters_of Tryz.func62 (by kernel_rfl) rfl) _ _ (Nat.le_trans hsz (by unfold maxLen; omega)) (by omega) _ hseq)⟩
theorem cl45_ok (v : AV) (hv : isNone v = true) (h : AHeap) (Q : QT) (k : Q (.full 0 []) h) : C 45 [v] h Q := by
  refine slices_Clone__api_Frag_api_Frag_ok _ _ _ ?_
  unfold slices_Clone__api_Frag_api_Frag
  rcases isNone_ok hv with rfl | rfl <;> refine ⟨⟨k, ⟨⟨by simp, ⟨?_⟩⟩⟩⟩⟩ <;> simp [eAppend, aElems, k]
theorem cl47_ok (v : AV) (hv : isNone v = true) (h : AHeap) (Q : QT) (k : Q (.full 0 []) h) : C 47 [v] h Q := by
  refine slices_Clone__api_Sym_api_Sym_ok _ _ _ ?_
  unfold slices_Clone__api_Sym_api_Sym
  rcases isNone_ok hv with rfl | rfl <;> refine ⟨⟨k, ⟨⟨by simp, ⟨?_⟩⟩⟩⟩⟩ <;> simp [eAppend, aElems, k]
theorem cl72_ok (v : AV) (hv : isNone v = true) (h : AHeap) (Q : QT) (k : Q (.full 0 []) h) : C 72 [v] h Q := by
  refine slices_Clone__api_Diag_api_Diag_ok _ _ _ ?_
  unfold slices_Clone__api_Diag_api_Diag
  rcases isNone_ok hv with rfl | rfl <;> refine ⟨⟨k, ⟨⟨by simp, ⟨?_⟩⟩⟩⟩⟩ <;> simp [eAppend, aElems, k]
theorem cl74_ok (v : AV) (hv : isNone v = true) (h : AHeap) (Q : QT) (k : Q (.full 0 []) h) : C 74 [v] h Q := by
  refine slices_Clone__byte_byte_ok _ _ _ ?_
  unfold slices_Clone__byte_byte
  rcases isNone_ok hv with rfl | rfl <;> refine ⟨⟨k, ⟨⟨by simp, ⟨?_⟩⟩⟩⟩⟩ <;> simp [eAppend, aElems, k]
theorem cl134_ok (v : AV) (hv : isNone v = true) (h : AHeap) (Q : QT) (k : Q (.full 0 []) h) : C 134 [v] h Q := by
  refine slices_Clone__api_Stmt_api_Stmt_ok _ _ _ ?_
  unfold slices_Clone__api_Stmt_api_Stmt
  rcases isNone_ok hv with rfl | rfl <;> refine ⟨⟨k, ⟨⟨by simp, ⟨?_⟩⟩⟩⟩⟩ <;> simp [eAppend, aElems, k]
theorem cl135_ok (v : AV) (hv : isNone v = true) (h : AHeap) (Q : QT) (k : Q (.full 0 []) h) : C 135 [v] h Q := by
  refine slices_Clone__int_int_ok _ _ _ ?_
  unfold slices_Clone__int_int
  rcases isNone_ok hv with rfl | rfl <;> refine ⟨⟨k, ⟨⟨by simp, ⟨?_⟩⟩⟩⟩⟩ <;> simp [eAppend, aElems, k]
theorem cl164_ok (v : AV) (hv : isNone v = true) (h : AHeap) (Q : QT) (k : Q (.full 0 []) h) : C 164 [v] h Q := by
  refine slices_Clone__api_Arg_api_Arg_ok _ _ _ ?_
  unfold slices_Clone__api_Arg_api_Arg
  rcases isNone_ok hv with rfl | rfl <;> refine ⟨⟨k, ⟨⟨by simp, ⟨?_⟩⟩⟩⟩⟩ <;> simp [eAppend, aElems, k]
theorem cl166_ok (v : AV) (hv : isNone v = true) (h : AHeap) (Q : QT) (k : Q (.full 0 []) h) : C 166 [v] h Q := by
  refine slices_Clone__string_string_ok _ _ _ ?_
  unfold slices_Clone__string_string
  rcases isNone_ok hv with rfl | rfl <;> refine ⟨⟨k, ⟨⟨by simp, ⟨?_⟩⟩⟩⟩⟩ <;> simp [eAppend, aElems, k]
end
def spK : SpecB := fun f args t n K => match Nat.beq f 187 with | true => some (spIndex args t n K) | false => match Nat.beq f 44 with | true => some (spKeys 61 args t n K) | false => match Nat.beq f 46 with | true => some (spKeys 62 args t n K) | false => match Nat.beq f 43 with | true => (match args with | [.fn (.func g) _ _] => (match Nat.beq g 61 with | true => some (spSorted 61 args t n K) | false => match Nat.beq g 62 with | true => some (spSorted 62 args t n K) | false => some false) | _ => some false) | false => match Nat.beq f 45 with | true => spClone args t n K | false => match Nat.beq f 47 with | true => spClone args t n K | false => match Nat.beq f 72 with | true => spClone args t n K | false => match Nat.beq f 74 with | true => spClone args t n K | false => match Nat.beq f 134 with | true => spClone args t n K | false => match Nat.beq f 135 with | true => spClone args t n K | false => match Nat.beq f 164 with | true => spClone args t n K | false => match Nat.beq f 166 with | true => spClone args t n K | false => none
theorem spK_ok [Tabs5] : SpecOk Pg spK := fun f args t n h K hr k => by
  unfold spK at k
  split at k
  · rename_i hf; rw [Nat.eq_of_beq_eq_true hf]; exact spIndex_ok indexIs Tabs5.m0 hr (by simpa using k)
  have cl : ∀ {g : FuncId}, (∀ (v : AV), isNone v = true → ∀ (h : AHeap) (Q : QT), Q (.full 0 []) h → C g [v] h Q) → spClone args t n K = some true → C g args h (KH K) := fun hg k => by
    unfold spClone at k
    split at k
    · split at k
      · exact hg _ ‹_› _ _ ⟨t, n, hr, by simpa using k⟩
      · cases k
    · cases k
  split at k
  · rename_i hf; rw [Nat.eq_of_beq_eq_true hf]; exact spKeys_ok keysIs44 hr (by simpa using k)
  split at k
  · rename_i hf; rw [Nat.eq_of_beq_eq_true hf]; exact spKeys_ok keysIs46 hr (by simpa using k)
  split at k
  · rename_i hf; rw [Nat.eq_of_beq_eq_true hf]
    split at k
    · split at k
      · rename_i g hg; exact spSorted_ok sortedIs44 hr (by simpa using k)
      split at k
      · exact spSorted_ok sortedIs46 hr (by simpa using k)
      · cases k
    · cases k
  split at k
  · rename_i hf; rw [Nat.eq_of_beq_eq_true hf]; exact cl cl45_ok k
  split at k
  · rename_i hf; rw [Nat.eq_of_beq_eq_true hf]; exact cl cl47_ok k
  split at k
  · rename_i hf; rw [Nat.eq_of_beq_eq_true hf]; exact cl cl72_ok k
  split at k
  · rename_i hf; rw [Nat.eq_of_beq_eq_true hf]; exact cl cl74_ok k
  split at k
  · rename_i hf; rw [Nat.eq_of_beq_eq_true hf]; exact cl cl134_ok k
  split at k
  · rename_i hf; rw [Nat.eq_of_beq_eq_true hf]; exact cl cl135_ok k
  split at k
  · rename_i hf; rw [Nat.eq_of_beq_eq_true hf]; exact cl cl164_ok k
  split at k
  · rename_i hf; rw [Nat.eq_of_beq_eq_true hf]; exact cl cl166_ok k
  · cases k
end
end Go.Proofs.YtochldeokjifkaaGreatDoor.AL
