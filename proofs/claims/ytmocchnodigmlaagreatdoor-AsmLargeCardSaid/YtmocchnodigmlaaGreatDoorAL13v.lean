import Derived.Test.YtmocchnodigmlaaGreatDoorAL11
set_option linter.all false
set_option autoImplicit true
set_option relaxedAutoImplicit true
set_option linter.unusedVariables false
set_option linter.unusedSimpArgs false
/-! Steps that change nothing have one value. -/
namespace Go.Proofs.YtmocchnodigmlaaGreatDoor.AL
variable [Tabs]
section
variable {P : Program}
theorem pBin_val {K : AV → Prop} (op : BinOp) (x y : AV) (k : pBin op x y K) : ∃ v, K v ∧ pBin op x y fun r => r = v := by
  unfold pBin at *
  (repeat' split at k) <;> first | exact k.elim | exact ⟨_, k, rfl⟩ | exact ⟨_, k.2, k.1, rfl⟩ | exact ⟨_, k.2.2, k.1, k.2.1, rfl⟩ | (refine ⟨_, k, ?_⟩; simp_all; done) | (refine ⟨_, k.2, ?_⟩; simp_all; done) | (refine ⟨_, k.2.2, ?_⟩; simp_all; done)
theorem pBinB_val {K : AV → Prop} (op : BinOp) (x y : AV) (k : pBinB op x y K) : ∃ v, K v ∧ pBinB op x y fun r => r = v := by
  unfold pBinB at *
  (repeat' split at k) <;> first | exact k.elim | exact ⟨_, k, rfl⟩ | exact ⟨_, k.2, k.1, rfl⟩ | exact ⟨_, k.2.2, k.1, k.2.1, rfl⟩ | (refine ⟨_, k, ?_⟩; simp_all; done) | (refine ⟨_, k.2, ?_⟩; simp_all; done) | (refine ⟨_, k.2.2, ?_⟩; simp_all; done)
theorem pBinP_val {K : AV → Prop} (op : BinOp) (x y : AV) (k : pBinP op x y K) : ∃ v, K v ∧ pBinP op x y fun r => r = v := by
  unfold pBinP at *
  (repeat' split at k) <;> first | exact k.elim | exact ⟨_, k, rfl⟩ | exact ⟨_, k.2, k.1, rfl⟩ | exact ⟨_, k.2.2, k.1, k.2.1, rfl⟩ | (refine ⟨_, k, ?_⟩; simp_all; done) | (refine ⟨_, k.2, ?_⟩; simp_all; done) | (refine ⟨_, k.2.2, ?_⟩; simp_all; done)
theorem pUn_val {K : AV → Prop} (op : UnOp) (x : AV) (k : pUn op x K) : ∃ v, K v ∧ pUn op x fun r => r = v := by
  unfold pUn at *
  (repeat' split at k) <;> first | exact k.elim | exact ⟨_, k, rfl⟩ | exact ⟨_, k.2, k.1, rfl⟩ | exact ⟨_, k.2.2, k.1, k.2.1, rfl⟩ | (refine ⟨_, k, ?_⟩; simp_all; done) | (refine ⟨_, k.2, ?_⟩; simp_all; done) | (refine ⟨_, k.2.2, ?_⟩; simp_all; done)
theorem pConvII_val {K : AV → Prop} (d : IntKind) (x : AV) (k : pConvII d x K) : ∃ v, K v ∧ pConvII d x fun r => r = v := by
  unfold pConvII at *
  (repeat' split at k) <;> first | exact k.elim | exact ⟨_, k, rfl⟩ | exact ⟨_, k.2, k.1, rfl⟩ | exact ⟨_, k.2.2, k.1, k.2.1, rfl⟩ | (refine ⟨_, k, ?_⟩; simp_all; done) | (refine ⟨_, k.2, ?_⟩; simp_all; done) | (refine ⟨_, k.2.2, ?_⟩; simp_all; done)
theorem pConvIF_val {K : AV → Prop} (d : FloatKind) (x : AV) (k : pConvIF d x K) : ∃ v, K v ∧ pConvIF d x fun r => r = v := by
  unfold pConvIF at *
  (repeat' split at k) <;> first | exact k.elim | exact ⟨_, k, rfl⟩ | exact ⟨_, k.2, k.1, rfl⟩ | exact ⟨_, k.2.2, k.1, k.2.1, rfl⟩ | (refine ⟨_, k, ?_⟩; simp_all; done) | (refine ⟨_, k.2, ?_⟩; simp_all; done) | (refine ⟨_, k.2.2, ?_⟩; simp_all; done)
theorem pConvSS_val {K : AV → Prop} (x : AV) (k : pConvSS x K) : ∃ v, K v ∧ pConvSS x fun r => r = v := by
  unfold pConvSS at *
  (repeat' split at k) <;> first | exact k.elim | exact ⟨_, k, rfl⟩ | exact ⟨_, k.2, k.1, rfl⟩ | exact ⟨_, k.2.2, k.1, k.2.1, rfl⟩ | (refine ⟨_, k, ?_⟩; simp_all; done) | (refine ⟨_, k.2, ?_⟩; simp_all; done) | (refine ⟨_, k.2.2, ?_⟩; simp_all; done)
theorem pNil_val {K : AV → Prop} (x : AV) (k : pNil x K) : ∃ v, K v ∧ pNil x fun r => r = v := by
  unfold pNil at *
  (repeat' split at k) <;> first | exact k.elim | exact ⟨_, k, rfl⟩ | exact ⟨_, k.2, k.1, rfl⟩ | exact ⟨_, k.2.2, k.1, k.2.1, rfl⟩ | (refine ⟨_, k, ?_⟩; simp_all; done) | (refine ⟨_, k.2, ?_⟩; simp_all; done) | (refine ⟨_, k.2.2, ?_⟩; simp_all; done)
theorem pFieldAddr_val {K : AV → Prop} (n : Nat) (x : AV) (k : pFieldAddr n x K) : ∃ v, K v ∧ pFieldAddr n x fun r => r = v := by
  unfold pFieldAddr at *
  (repeat' split at k) <;> first | exact k.elim | exact ⟨_, k, rfl⟩ | exact ⟨_, k.2, k.1, rfl⟩ | exact ⟨_, k.2.2, k.1, k.2.1, rfl⟩ | (refine ⟨_, k, ?_⟩; simp_all; done) | (refine ⟨_, k.2, ?_⟩; simp_all; done) | (refine ⟨_, k.2.2, ?_⟩; simp_all; done)
theorem pLoadA_val {K : AV → Prop} (n : Nat) (x : AV) (h : AHeap) (k : pLoadA n x h K) : ∃ v, K v ∧ pLoadA n x h fun r => r = v := by
  unfold pLoadA at *
  (repeat' split at k) <;> first | exact k.elim | exact ⟨_, k, rfl⟩ | exact ⟨_, k.2, k.1, rfl⟩ | exact ⟨_, k.2.2, k.1, k.2.1, rfl⟩ | (refine ⟨_, k, ?_⟩; simp_all; done) | (refine ⟨_, k.2, ?_⟩; simp_all; done) | (refine ⟨_, k.2.2, ?_⟩; simp_all; done)
theorem pLoad1_val {K : AV → Prop} (x : AV) (h : AHeap) (k : pLoad1 x h K) : ∃ v, K v ∧ pLoad1 x h fun r => r = v := by
  unfold pLoad1 at *
  (repeat' split at k) <;> first | exact k.elim | exact ⟨_, k, rfl⟩ | exact ⟨_, k.2, k.1, rfl⟩ | exact ⟨_, k.2.2, k.1, k.2.1, rfl⟩ | (refine ⟨_, k, ?_⟩; simp_all; done) | (refine ⟨_, k.2, ?_⟩; simp_all; done) | (refine ⟨_, k.2.2, ?_⟩; simp_all; done)
theorem pPartA_val {K : AV → Prop} (o n : Nat) (x : AV) (k : pPartA o n x K) : ∃ v, K v ∧ pPartA o n x fun r => r = v := by
  unfold pPartA at *
  (repeat' split at k) <;> first | exact k.elim | exact ⟨_, k, rfl⟩ | exact ⟨_, k.2, k.1, rfl⟩ | exact ⟨_, k.2.2, k.1, k.2.1, rfl⟩ | (refine ⟨_, k, ?_⟩; simp_all; done) | (refine ⟨_, k.2, ?_⟩; simp_all; done) | (refine ⟨_, k.2.2, ?_⟩; simp_all; done)
theorem pPart1_val {K : AV → Prop} (o : Nat) (x : AV) (k : pPart1 o x K) : ∃ v, K v ∧ pPart1 o x fun r => r = v := by
  unfold pPart1 at *
  (repeat' split at k) <;> first | exact k.elim | exact ⟨_, k, rfl⟩ | exact ⟨_, k.2, k.1, rfl⟩ | exact ⟨_, k.2.2, k.1, k.2.1, rfl⟩ | (refine ⟨_, k, ?_⟩; simp_all; done) | (refine ⟨_, k.2, ?_⟩; simp_all; done) | (refine ⟨_, k.2.2, ?_⟩; simp_all; done)
theorem pIndexS_val {K : AV → Prop} (x i : AV) (k : pIndexS x i K) : ∃ v, K v ∧ pIndexS x i fun r => r = v := by
  unfold pIndexS at *
  (repeat' split at k) <;> first | exact k.elim | exact ⟨_, k, rfl⟩ | exact ⟨_, k.2, k.1, rfl⟩ | exact ⟨_, k.2.2, k.1, k.2.1, rfl⟩ | (refine ⟨_, k, ?_⟩; simp_all; done) | (refine ⟨_, k.2, ?_⟩; simp_all; done) | (refine ⟨_, k.2.2, ?_⟩; simp_all; done)
theorem pIndexAddr_val {K : AV → Prop} (n : Nat) (x i : AV) (k : pIndexAddr n x i K) : ∃ v, K v ∧ pIndexAddr n x i fun r => r = v := by
  unfold pIndexAddr at *
  (repeat' split at k) <;> first | exact k.elim | exact ⟨_, k, rfl⟩ | exact ⟨_, k.2, k.1, rfl⟩ | exact ⟨_, k.2.2, k.1, k.2.1, rfl⟩ | (refine ⟨_, k, ?_⟩; simp_all; done) | (refine ⟨_, k.2, ?_⟩; simp_all; done) | (refine ⟨_, k.2.2, ?_⟩; simp_all; done)
theorem pIndexAddrA_val {K : AV → Prop} (m n : Nat) (x i : AV) (k : pIndexAddrA m n x i K) : ∃ v, K v ∧ pIndexAddrA m n x i fun r => r = v := by
  unfold pIndexAddrA at *
  (repeat' split at k) <;> first | exact k.elim | exact ⟨_, k, rfl⟩ | exact ⟨_, k.2, k.1, rfl⟩ | exact ⟨_, k.2.2, k.1, k.2.1, rfl⟩ | (refine ⟨_, k, ?_⟩; simp_all; done) | (refine ⟨_, k.2, ?_⟩; simp_all; done) | (refine ⟨_, k.2.2, ?_⟩; simp_all; done)
theorem pSliceS_val {K : AV → Prop} (x : AV) (a b : Option AV) (k : pSliceS x a b K) : ∃ v, K v ∧ pSliceS x a b fun r => r = v := by
  unfold pSliceS at *
  (repeat' split at k) <;> first | exact k.elim | exact ⟨_, k, rfl⟩ | exact ⟨_, k.2, k.1, rfl⟩ | exact ⟨_, k.2.2, k.1, k.2.1, rfl⟩ | (refine ⟨_, k, ?_⟩; simp_all; done) | (refine ⟨_, k.2, ?_⟩; simp_all; done) | (refine ⟨_, k.2.2, ?_⟩; simp_all; done)
theorem pSliceL_val {K : AV → Prop} (n : Nat) (x : AV) (a b : Option AV) (k : pSliceL n x a b K) : ∃ v, K v ∧ pSliceL n x a b fun r => r = v := by
  unfold pSliceL at *
  (repeat' split at k) <;> first | exact k.elim | exact ⟨_, k, rfl⟩ | exact ⟨_, k.2, k.1, rfl⟩ | exact ⟨_, k.2.2, k.1, k.2.1, rfl⟩ | (refine ⟨_, k, ?_⟩; simp_all; done) | (refine ⟨_, k.2, ?_⟩; simp_all; done) | (refine ⟨_, k.2.2, ?_⟩; simp_all; done)
theorem pSliceZ_val {K : AV → Prop} (x : AV) (k : pSliceZ x K) : ∃ v, K v ∧ pSliceZ x fun r => r = v := by
  unfold pSliceZ at *
  (repeat' split at k) <;> first | exact k.elim | exact ⟨_, k, rfl⟩ | exact ⟨_, k.2, k.1, rfl⟩ | exact ⟨_, k.2.2, k.1, k.2.1, rfl⟩ | (refine ⟨_, k, ?_⟩; simp_all; done) | (refine ⟨_, k.2, ?_⟩; simp_all; done) | (refine ⟨_, k.2.2, ?_⟩; simp_all; done)
theorem pLenS_val {K : AV → Prop} (x : AV) (k : pLenS x K) : ∃ v, K v ∧ pLenS x fun r => r = v := by
  unfold pLenS at *
  (repeat' split at k) <;> first | exact k.elim | exact ⟨_, k, rfl⟩ | exact ⟨_, k.2, k.1, rfl⟩ | exact ⟨_, k.2.2, k.1, k.2.1, rfl⟩ | (refine ⟨_, k, ?_⟩; simp_all; done) | (refine ⟨_, k.2, ?_⟩; simp_all; done) | (refine ⟨_, k.2.2, ?_⟩; simp_all; done)
theorem pLenL_val {K : AV → Prop} (x : AV) (k : pLenL x K) : ∃ v, K v ∧ pLenL x fun r => r = v := by
  unfold pLenL at *
  (repeat' split at k) <;> first | exact k.elim | exact ⟨_, k, rfl⟩ | exact ⟨_, k.2, k.1, rfl⟩ | exact ⟨_, k.2.2, k.1, k.2.1, rfl⟩ | (refine ⟨_, k, ?_⟩; simp_all; done) | (refine ⟨_, k.2, ?_⟩; simp_all; done) | (refine ⟨_, k.2.2, ?_⟩; simp_all; done)
theorem pLenM_val {K : AV → Prop} (x : AV) (h : AHeap) (k : pLenM x h K) : ∃ v, K v ∧ pLenM x h fun r => r = v := by
  unfold pLenM at *
  (repeat' split at k) <;> first | exact k.elim | exact ⟨_, k, rfl⟩ | exact ⟨_, k.2, k.1, rfl⟩ | exact ⟨_, k.2.2, k.1, k.2.1, rfl⟩ | (refine ⟨_, k, ?_⟩; simp_all; done) | (refine ⟨_, k.2, ?_⟩; simp_all; done) | (refine ⟨_, k.2.2, ?_⟩; simp_all; done)
theorem pExtract_val {K : AV → Prop} (i : Nat) (x : AV) (k : pExtract i x K) : ∃ v, K v ∧ pExtract i x fun r => r = v := by
  unfold pExtract at *
  (repeat' split at k) <;> first | exact k.elim | exact ⟨_, k, rfl⟩ | exact ⟨_, k.2, k.1, rfl⟩ | exact ⟨_, k.2.2, k.1, k.2.1, rfl⟩ | (refine ⟨_, k, ?_⟩; simp_all; done) | (refine ⟨_, k.2, ?_⟩; simp_all; done) | (refine ⟨_, k.2.2, ?_⟩; simp_all; done)
theorem pMax_val {K : AV → Prop} (x y : AV) (k : pMax x y K) : ∃ v, K v ∧ pMax x y fun r => r = v := by
  unfold pMax at *
  split at k
  · exact ⟨_, k, rfl⟩
  · exact k.elim
theorem pMin_val {K : AV → Prop} (x y : AV) (k : pMin x y K) : ∃ v, K v ∧ pMin x y fun r => r = v := by
  unfold pMin at *
  split at k
  · exact ⟨_, k, rfl⟩
  · exact k.elim
theorem pBuild_val {K : AV → Prop} (z : List AV) (ps : List (Nat × Nat × AV)) (k : pBuild z ps K) : ∃ v, K v ∧ pBuild z ps fun r => r = v := by
  unfold pBuild at *
  (repeat' split at k) <;> first | exact k.elim | exact ⟨_, k, rfl⟩ | exact ⟨_, k.2, k.1, rfl⟩ | exact ⟨_, k.2.2, k.1, k.2.1, rfl⟩ | (refine ⟨_, k, ?_⟩; simp_all; done) | (refine ⟨_, k.2, ?_⟩; simp_all; done) | (refine ⟨_, k.2.2, ?_⟩; simp_all; done)
theorem pIface_val {K : AV → Prop} (t : TypeId) (x : AV) (k : pIface t x K) : ∃ v, K v ∧ pIface t x fun r => r = v := ⟨_, k, rfl⟩
theorem pBuildSlice_val {K : AV → Prop} (n m : Nat) (vs : List AV) (k : pBuildSlice n m vs K) : ∃ v, K v ∧ pBuildSlice n m vs fun r => r = v := ⟨_, k.2, k.1, rfl⟩
theorem qBin_val {K : AV → Prop} (op : BinOp) (x y : AV) (k : qBin op x y K) : ∃ v, K v ∧ qBin op x y fun r => r = v := let ⟨v, h1, h2⟩ := pBin_val op x y k.out; ⟨v, h1, ⟨h2⟩⟩
theorem qBinB_val {K : AV → Prop} (op : BinOp) (x y : AV) (k : qBinB op x y K) : ∃ v, K v ∧ qBinB op x y fun r => r = v := let ⟨v, h1, h2⟩ := pBinB_val op x y k.out; ⟨v, h1, ⟨h2⟩⟩
theorem qBinP_val {K : AV → Prop} (op : BinOp) (x y : AV) (k : qBinP op x y K) : ∃ v, K v ∧ qBinP op x y fun r => r = v := let ⟨v, h1, h2⟩ := pBinP_val op x y k.out; ⟨v, h1, ⟨h2⟩⟩
theorem qUn_val {K : AV → Prop} (op : UnOp) (x : AV) (k : qUn op x K) : ∃ v, K v ∧ qUn op x fun r => r = v := let ⟨v, h1, h2⟩ := pUn_val op x k.out; ⟨v, h1, ⟨h2⟩⟩
theorem qConvII_val {K : AV → Prop} (d : IntKind) (x : AV) (k : qConvII d x K) : ∃ v, K v ∧ qConvII d x fun r => r = v := let ⟨v, h1, h2⟩ := pConvII_val d x k.out; ⟨v, h1, ⟨h2⟩⟩
theorem qConvIF_val {K : AV → Prop} (d : FloatKind) (x : AV) (k : qConvIF d x K) : ∃ v, K v ∧ qConvIF d x fun r => r = v := let ⟨v, h1, h2⟩ := pConvIF_val d x k.out; ⟨v, h1, ⟨h2⟩⟩
theorem qConvSS_val {K : AV → Prop} (x : AV) (k : qConvSS x K) : ∃ v, K v ∧ qConvSS x fun r => r = v := let ⟨v, h1, h2⟩ := pConvSS_val x k.out; ⟨v, h1, ⟨h2⟩⟩
theorem qNil_val {K : AV → Prop} (x : AV) (k : qNil x K) : ∃ v, K v ∧ qNil x fun r => r = v := let ⟨v, h1, h2⟩ := pNil_val x k.out; ⟨v, h1, ⟨h2⟩⟩
theorem qFieldAddr_val {K : AV → Prop} (n : Nat) (x : AV) (k : qFieldAddr n x K) : ∃ v, K v ∧ qFieldAddr n x fun r => r = v := let ⟨v, h1, h2⟩ := pFieldAddr_val n x k.out; ⟨v, h1, ⟨h2⟩⟩
theorem qLoadA_val {K : AV → Prop} (n : Nat) (x : AV) (h : AHeap) (k : qLoadA n x h K) : ∃ v, K v ∧ qLoadA n x h fun r => r = v := let ⟨v, h1, h2⟩ := pLoadA_val n x h k.out; ⟨v, h1, ⟨h2⟩⟩
theorem qLoad1_val {K : AV → Prop} (x : AV) (h : AHeap) (k : qLoad1 x h K) : ∃ v, K v ∧ qLoad1 x h fun r => r = v := let ⟨v, h1, h2⟩ := pLoad1_val x h k.out; ⟨v, h1, ⟨h2⟩⟩
theorem qPartA_val {K : AV → Prop} (o n : Nat) (x : AV) (k : qPartA o n x K) : ∃ v, K v ∧ qPartA o n x fun r => r = v := let ⟨v, h1, h2⟩ := pPartA_val o n x k.out; ⟨v, h1, ⟨h2⟩⟩
theorem qPart1_val {K : AV → Prop} (o : Nat) (x : AV) (k : qPart1 o x K) : ∃ v, K v ∧ qPart1 o x fun r => r = v := let ⟨v, h1, h2⟩ := pPart1_val o x k.out; ⟨v, h1, ⟨h2⟩⟩
theorem qIndexS_val {K : AV → Prop} (x i : AV) (k : qIndexS x i K) : ∃ v, K v ∧ qIndexS x i fun r => r = v := let ⟨v, h1, h2⟩ := pIndexS_val x i k.out; ⟨v, h1, ⟨h2⟩⟩
theorem qIndexAddr_val {K : AV → Prop} (n : Nat) (x i : AV) (k : qIndexAddr n x i K) : ∃ v, K v ∧ qIndexAddr n x i fun r => r = v := let ⟨v, h1, h2⟩ := pIndexAddr_val n x i k.out; ⟨v, h1, ⟨h2⟩⟩
theorem qIndexAddrA_val {K : AV → Prop} (m n : Nat) (x i : AV) (k : qIndexAddrA m n x i K) : ∃ v, K v ∧ qIndexAddrA m n x i fun r => r = v := let ⟨v, h1, h2⟩ := pIndexAddrA_val m n x i k.out; ⟨v, h1, ⟨h2⟩⟩
theorem qSliceS_val {K : AV → Prop} (x : AV) (a b : Option AV) (k : qSliceS x a b K) : ∃ v, K v ∧ qSliceS x a b fun r => r = v := let ⟨v, h1, h2⟩ := pSliceS_val x a b k.out; ⟨v, h1, ⟨h2⟩⟩
theorem qSliceL_val {K : AV → Prop} (n : Nat) (x : AV) (a b : Option AV) (k : qSliceL n x a b K) : ∃ v, K v ∧ qSliceL n x a b fun r => r = v := let ⟨v, h1, h2⟩ := pSliceL_val n x a b k.out; ⟨v, h1, ⟨h2⟩⟩
theorem qSliceZ_val {K : AV → Prop} (x : AV) (k : qSliceZ x K) : ∃ v, K v ∧ qSliceZ x fun r => r = v := let ⟨v, h1, h2⟩ := pSliceZ_val x k.out; ⟨v, h1, ⟨h2⟩⟩
theorem qLenS_val {K : AV → Prop} (x : AV) (k : qLenS x K) : ∃ v, K v ∧ qLenS x fun r => r = v := let ⟨v, h1, h2⟩ := pLenS_val x k.out; ⟨v, h1, ⟨h2⟩⟩
theorem qLenL_val {K : AV → Prop} (x : AV) (k : qLenL x K) : ∃ v, K v ∧ qLenL x fun r => r = v := let ⟨v, h1, h2⟩ := pLenL_val x k.out; ⟨v, h1, ⟨h2⟩⟩
theorem qLenM_val {K : AV → Prop} (x : AV) (h : AHeap) (k : qLenM x h K) : ∃ v, K v ∧ qLenM x h fun r => r = v := let ⟨v, h1, h2⟩ := pLenM_val x h k.out; ⟨v, h1, ⟨h2⟩⟩
theorem qExtract_val {K : AV → Prop} (i : Nat) (x : AV) (k : qExtract i x K) : ∃ v, K v ∧ qExtract i x fun r => r = v := let ⟨v, h1, h2⟩ := pExtract_val i x k.out; ⟨v, h1, ⟨h2⟩⟩
theorem qMax_val {K : AV → Prop} (x y : AV) (k : qMax x y K) : ∃ v, K v ∧ qMax x y fun r => r = v := let ⟨v, h1, h2⟩ := pMax_val x y k.out; ⟨v, h1, ⟨h2⟩⟩
theorem qMin_val {K : AV → Prop} (x y : AV) (k : qMin x y K) : ∃ v, K v ∧ qMin x y fun r => r = v := let ⟨v, h1, h2⟩ := pMin_val x y k.out; ⟨v, h1, ⟨h2⟩⟩
theorem qBuild_val {K : AV → Prop} (z : List AV) (ps : List (Nat × Nat × AV)) (k : qBuild z ps K) : ∃ v, K v ∧ qBuild z ps fun r => r = v := let ⟨v, h1, h2⟩ := pBuild_val z ps k.out; ⟨v, h1, ⟨h2⟩⟩
theorem qIface_val {K : AV → Prop} (t : TypeId) (x : AV) (k : qIface t x K) : ∃ v, K v ∧ qIface t x fun r => r = v := let ⟨v, h1, h2⟩ := pIface_val t x k.out; ⟨v, h1, ⟨h2⟩⟩
theorem qBuildSlice_val {K : AV → Prop} (n m : Nat) (vs : List AV) (k : qBuildSlice n m vs K) : ∃ v, K v ∧ qBuildSlice n m vs fun r => r = v := let ⟨v, h1, h2⟩ := pBuildSlice_val n m vs k.out; ⟨v, h1, ⟨h2⟩⟩

end
end Go.Proofs.YtmocchnodigmlaaGreatDoor.AL
