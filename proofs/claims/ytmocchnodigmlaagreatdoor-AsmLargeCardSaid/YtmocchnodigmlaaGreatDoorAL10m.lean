import Derived.Test.YtmocchnodigmlaaGreatDoorAL10
set_option linter.all false
set_option autoImplicit true
set_option relaxedAutoImplicit true
set_option linter.unusedVariables false
set_option linter.unusedSimpArgs false
/-! Every step asks less where less is asked behind it. -/
namespace Go.Proofs.YtmocchnodigmlaaGreatDoor.AL
variable [Tabs]
section
variable {P : Program}
theorem pBin_mono {K K' : AV → Prop} (hk : ∀ v, K v → K' v) (op : BinOp) (x y : AV) (k : pBin op x y K) : pBin op x y K' := by
  unfold pBin at *
  (repeat' split at k) <;> first | exact k.elim | simp_all
theorem pBinB_mono {K K' : AV → Prop} (hk : ∀ v, K v → K' v) (op : BinOp) (x y : AV) (k : pBinB op x y K) : pBinB op x y K' := by
  unfold pBinB at *
  (repeat' split at k) <;> first | exact k.elim | simp_all
theorem pBinP_mono {K K' : AV → Prop} (hk : ∀ v, K v → K' v) (op : BinOp) (x y : AV) (k : pBinP op x y K) : pBinP op x y K' := by
  unfold pBinP at *
  (repeat' split at k) <;> first | exact k.elim | simp_all
theorem pUn_mono {K K' : AV → Prop} (hk : ∀ v, K v → K' v) (op : UnOp) (x : AV) (k : pUn op x K) : pUn op x K' := by
  unfold pUn at *
  (repeat' split at k) <;> first | exact k.elim | simp_all
theorem pConvII_mono {K K' : AV → Prop} (hk : ∀ v, K v → K' v) (d : IntKind) (x : AV) (k : pConvII d x K) : pConvII d x K' := by
  unfold pConvII at *
  (repeat' split at k) <;> first | exact k.elim | simp_all
theorem pConvIF_mono {K K' : AV → Prop} (hk : ∀ v, K v → K' v) (d : FloatKind) (x : AV) (k : pConvIF d x K) : pConvIF d x K' := by
  unfold pConvIF at *
  (repeat' split at k) <;> first | exact k.elim | simp_all
theorem pConvSS_mono {K K' : AV → Prop} (hk : ∀ v, K v → K' v) (x : AV) (k : pConvSS x K) : pConvSS x K' := by
  unfold pConvSS at *
  (repeat' split at k) <;> first | exact k.elim | simp_all
theorem pNil_mono {K K' : AV → Prop} (hk : ∀ v, K v → K' v) (x : AV) (k : pNil x K) : pNil x K' := by
  unfold pNil at *
  (repeat' split at k) <;> first | exact k.elim | simp_all
theorem pFieldAddr_mono {K K' : AV → Prop} (hk : ∀ v, K v → K' v) (n : Nat) (x : AV) (k : pFieldAddr n x K) : pFieldAddr n x K' := by
  unfold pFieldAddr at *
  (repeat' split at k) <;> first | exact k.elim | simp_all
theorem pLoadA_mono {K K' : AV → Prop} (hk : ∀ v, K v → K' v) (n : Nat) (x : AV) (h : AHeap) (k : pLoadA n x h K) : pLoadA n x h K' := by
  unfold pLoadA at *
  (repeat' split at k) <;> first | exact k.elim | simp_all
theorem pLoad1_mono {K K' : AV → Prop} (hk : ∀ v, K v → K' v) (x : AV) (h : AHeap) (k : pLoad1 x h K) : pLoad1 x h K' := by
  unfold pLoad1 at *
  (repeat' split at k) <;> first | exact k.elim | simp_all
theorem pPartA_mono {K K' : AV → Prop} (hk : ∀ v, K v → K' v) (o n : Nat) (x : AV) (k : pPartA o n x K) : pPartA o n x K' := by
  unfold pPartA at *
  (repeat' split at k) <;> first | exact k.elim | simp_all
theorem pPart1_mono {K K' : AV → Prop} (hk : ∀ v, K v → K' v) (o : Nat) (x : AV) (k : pPart1 o x K) : pPart1 o x K' := by
  unfold pPart1 at *
  (repeat' split at k) <;> first | exact k.elim | simp_all
theorem pIndexS_mono {K K' : AV → Prop} (hk : ∀ v, K v → K' v) (x i : AV) (k : pIndexS x i K) : pIndexS x i K' := by
  unfold pIndexS at *
  (repeat' split at k) <;> first | exact k.elim | simp_all
theorem pIndexAddr_mono {K K' : AV → Prop} (hk : ∀ v, K v → K' v) (n : Nat) (x i : AV) (k : pIndexAddr n x i K) : pIndexAddr n x i K' := by
  unfold pIndexAddr at *
  (repeat' split at k) <;> first | exact k.elim | simp_all
theorem pIndexAddrA_mono {K K' : AV → Prop} (hk : ∀ v, K v → K' v) (m n : Nat) (x i : AV) (k : pIndexAddrA m n x i K) : pIndexAddrA m n x i K' := by
  unfold pIndexAddrA at *
  (repeat' split at k) <;> first | exact k.elim | simp_all
theorem pSliceS_mono {K K' : AV → Prop} (hk : ∀ v, K v → K' v) (x : AV) (a b : Option AV) (k : pSliceS x a b K) : pSliceS x a b K' := by
  unfold pSliceS at *
  (repeat' split at k) <;> first | exact k.elim | simp_all
theorem pSliceL_mono {K K' : AV → Prop} (hk : ∀ v, K v → K' v) (n : Nat) (x : AV) (a b : Option AV) (k : pSliceL n x a b K) : pSliceL n x a b K' := by
  unfold pSliceL at *
  (repeat' split at k) <;> first | exact k.elim | simp_all
theorem pSliceZ_mono {K K' : AV → Prop} (hk : ∀ v, K v → K' v) (x : AV) (k : pSliceZ x K) : pSliceZ x K' := by
  unfold pSliceZ at *
  (repeat' split at k) <;> first | exact k.elim | simp_all
theorem pLenS_mono {K K' : AV → Prop} (hk : ∀ v, K v → K' v) (x : AV) (k : pLenS x K) : pLenS x K' := by
  unfold pLenS at *
  (repeat' split at k) <;> first | exact k.elim | simp_all
theorem pLenL_mono {K K' : AV → Prop} (hk : ∀ v, K v → K' v) (x : AV) (k : pLenL x K) : pLenL x K' := by
  unfold pLenL at *
  (repeat' split at k) <;> first | exact k.elim | simp_all
theorem pLenM_mono {K K' : AV → Prop} (hk : ∀ v, K v → K' v) (x : AV) (h : AHeap) (k : pLenM x h K) : pLenM x h K' := by
  unfold pLenM at *
  (repeat' split at k) <;> first | exact k.elim | simp_all
theorem pExtract_mono {K K' : AV → Prop} (hk : ∀ v, K v → K' v) (i : Nat) (x : AV) (k : pExtract i x K) : pExtract i x K' := by
  unfold pExtract at *
  (repeat' split at k) <;> first | exact k.elim | simp_all
theorem pMax_mono {K K' : AV → Prop} (hk : ∀ v, K v → K' v) (x y : AV) (k : pMax x y K) : pMax x y K' := by
  unfold pMax at *
  split at k
  · exact hk _ k
  · exact k.elim
theorem pMin_mono {K K' : AV → Prop} (hk : ∀ v, K v → K' v) (x y : AV) (k : pMin x y K) : pMin x y K' := by
  unfold pMin at *
  split at k
  · exact hk _ k
  · exact k.elim
theorem pBuild_mono {K K' : AV → Prop} (hk : ∀ v, K v → K' v) (z : List AV) (ps : List (Nat × Nat × AV)) (k : pBuild z ps K) : pBuild z ps K' := by
  unfold pBuild at *
  (repeat' split at k) <;> first | exact k.elim | simp_all
theorem qBin_mono {K K' : AV → Prop} (hk : ∀ v, K v → K' v) (op : BinOp) (x y : AV) (k : qBin op x y K) : qBin op x y K' := ⟨pBin_mono hk op x y k.out⟩
theorem qBinB_mono {K K' : AV → Prop} (hk : ∀ v, K v → K' v) (op : BinOp) (x y : AV) (k : qBinB op x y K) : qBinB op x y K' := ⟨pBinB_mono hk op x y k.out⟩
theorem qBinP_mono {K K' : AV → Prop} (hk : ∀ v, K v → K' v) (op : BinOp) (x y : AV) (k : qBinP op x y K) : qBinP op x y K' := ⟨pBinP_mono hk op x y k.out⟩
theorem qUn_mono {K K' : AV → Prop} (hk : ∀ v, K v → K' v) (op : UnOp) (x : AV) (k : qUn op x K) : qUn op x K' := ⟨pUn_mono hk op x k.out⟩
theorem qConvII_mono {K K' : AV → Prop} (hk : ∀ v, K v → K' v) (d : IntKind) (x : AV) (k : qConvII d x K) : qConvII d x K' := ⟨pConvII_mono hk d x k.out⟩
theorem qConvIF_mono {K K' : AV → Prop} (hk : ∀ v, K v → K' v) (d : FloatKind) (x : AV) (k : qConvIF d x K) : qConvIF d x K' := ⟨pConvIF_mono hk d x k.out⟩
theorem qConvSS_mono {K K' : AV → Prop} (hk : ∀ v, K v → K' v) (x : AV) (k : qConvSS x K) : qConvSS x K' := ⟨pConvSS_mono hk x k.out⟩
theorem qNil_mono {K K' : AV → Prop} (hk : ∀ v, K v → K' v) (x : AV) (k : qNil x K) : qNil x K' := ⟨pNil_mono hk x k.out⟩
theorem qFieldAddr_mono {K K' : AV → Prop} (hk : ∀ v, K v → K' v) (n : Nat) (x : AV) (k : qFieldAddr n x K) : qFieldAddr n x K' := ⟨pFieldAddr_mono hk n x k.out⟩
theorem qLoadA_mono {K K' : AV → Prop} (hk : ∀ v, K v → K' v) (n : Nat) (x : AV) (h : AHeap) (k : qLoadA n x h K) : qLoadA n x h K' := ⟨pLoadA_mono hk n x h k.out⟩
theorem qLoad1_mono {K K' : AV → Prop} (hk : ∀ v, K v → K' v) (x : AV) (h : AHeap) (k : qLoad1 x h K) : qLoad1 x h K' := ⟨pLoad1_mono hk x h k.out⟩
theorem qPartA_mono {K K' : AV → Prop} (hk : ∀ v, K v → K' v) (o n : Nat) (x : AV) (k : qPartA o n x K) : qPartA o n x K' := ⟨pPartA_mono hk o n x k.out⟩
theorem qPart1_mono {K K' : AV → Prop} (hk : ∀ v, K v → K' v) (o : Nat) (x : AV) (k : qPart1 o x K) : qPart1 o x K' := ⟨pPart1_mono hk o x k.out⟩
theorem qIndexS_mono {K K' : AV → Prop} (hk : ∀ v, K v → K' v) (x i : AV) (k : qIndexS x i K) : qIndexS x i K' := ⟨pIndexS_mono hk x i k.out⟩
theorem qIndexAddr_mono {K K' : AV → Prop} (hk : ∀ v, K v → K' v) (n : Nat) (x i : AV) (k : qIndexAddr n x i K) : qIndexAddr n x i K' := ⟨pIndexAddr_mono hk n x i k.out⟩
theorem qIndexAddrA_mono {K K' : AV → Prop} (hk : ∀ v, K v → K' v) (m n : Nat) (x i : AV) (k : qIndexAddrA m n x i K) : qIndexAddrA m n x i K' := ⟨pIndexAddrA_mono hk m n x i k.out⟩
theorem qSliceS_mono {K K' : AV → Prop} (hk : ∀ v, K v → K' v) (x : AV) (a b : Option AV) (k : qSliceS x a b K) : qSliceS x a b K' := ⟨pSliceS_mono hk x a b k.out⟩
theorem qSliceL_mono {K K' : AV → Prop} (hk : ∀ v, K v → K' v) (n : Nat) (x : AV) (a b : Option AV) (k : qSliceL n x a b K) : qSliceL n x a b K' := ⟨pSliceL_mono hk n x a b k.out⟩
theorem qSliceZ_mono {K K' : AV → Prop} (hk : ∀ v, K v → K' v) (x : AV) (k : qSliceZ x K) : qSliceZ x K' := ⟨pSliceZ_mono hk x k.out⟩
theorem qLenS_mono {K K' : AV → Prop} (hk : ∀ v, K v → K' v) (x : AV) (k : qLenS x K) : qLenS x K' := ⟨pLenS_mono hk x k.out⟩
theorem qLenL_mono {K K' : AV → Prop} (hk : ∀ v, K v → K' v) (x : AV) (k : qLenL x K) : qLenL x K' := ⟨pLenL_mono hk x k.out⟩
theorem qLenM_mono {K K' : AV → Prop} (hk : ∀ v, K v → K' v) (x : AV) (h : AHeap) (k : qLenM x h K) : qLenM x h K' := ⟨pLenM_mono hk x h k.out⟩
theorem qExtract_mono {K K' : AV → Prop} (hk : ∀ v, K v → K' v) (i : Nat) (x : AV) (k : qExtract i x K) : qExtract i x K' := ⟨pExtract_mono hk i x k.out⟩
theorem qMax_mono {K K' : AV → Prop} (hk : ∀ v, K v → K' v) (x y : AV) (k : qMax x y K) : qMax x y K' := ⟨pMax_mono hk x y k.out⟩
theorem qMin_mono {K K' : AV → Prop} (hk : ∀ v, K v → K' v) (x y : AV) (k : qMin x y K) : qMin x y K' := ⟨pMin_mono hk x y k.out⟩
theorem qBuild_mono {K K' : AV → Prop} (hk : ∀ v, K v → K' v) (z : List AV) (ps : List (Nat × Nat × AV)) (k : qBuild z ps K) : qBuild z ps K' := ⟨pBuild_mono hk z ps k.out⟩
theorem pIface_mono {K K' : AV → Prop} (hk : ∀ v, K v → K' v) (t : TypeId) (x : AV) (k : pIface t x K) : pIface t x K' := hk _ k
theorem pBuildSlice_mono {K K' : AV → Prop} (hk : ∀ v, K v → K' v) (n m : Nat) (vs : List AV) (k : pBuildSlice n m vs K) : pBuildSlice n m vs K' := ⟨k.1, hk _ k.2⟩
theorem eStore_mono {K K' : AHeap → Prop} (hk : ∀ v, K v → K' v) (n : Nat) (x y : AV) (h : AHeap) (k : eStore n x y h K) : eStore n x y h K' := by
  unfold eStore at *
  (repeat' split at k) <;> first | exact k.elim | exact ⟨k.1, hk _ k.2⟩
theorem eNew_mono {K K' : AV → AHeap → Prop} (hk : ∀ v h, K v h → K' v h) (cs : List AV) (h : AHeap) (k : eNew cs h K) : eNew cs h K' := hk _ _ k
theorem eAppend_mono {K K' : AV → AHeap → Prop} (hk : ∀ v h, K v h → K' v h) (n m : Nat) (x y : AV) (h : AHeap) (k : eAppend n m x y h K) : eAppend n m x y h K' := by
  unfold eAppend at *
  split at k
  · exact k.elim
  · split at k
    · refine ⟨k.1, ?_⟩
      have k2 := k.2
      split at k2
      · rename_i h0; rw [if_pos h0]; exact hk _ _ k2
      · rename_i h0; rw [if_neg h0]; exact hk _ _ k2
    · split at k
      · exact ⟨k.1, hk _ _ k.2⟩
      · exact k.elim
    · exact k.elim
theorem ACallV_mono {K K' : AV → AHeap → Prop} (hk : ∀ v h, K v h → K' v h) (x : AV) (vs : List AV) (h : AHeap) (k : ACallV P x vs h K) : ACallV P x vs h K' := by
  unfold ACallV at *
  split at k
  · exact k.mono hk
  · exact k.elim
theorem withO_mono {K K' : AV → Prop} (hk : ∀ v, K v → K' v) (o : Option AV) (k : withO o K) : withO o K' := by
  unfold withO at *; split at k
  · exact hk _ k
  · exact k.elim
theorem withL_mono {K K' : List AV → Prop} (hk : ∀ v, K v → K' v) (o : Option (List AV)) (k : withL o K) : withL o K' := by
  unfold withL at *; split at k
  · exact hk _ k
  · exact k.elim
theorem withP_mono {K K' : Option AV → Prop} (hk : ∀ v, K v → K' v) (o : Option (Option AV)) (k : withP o K) : withP o K' := by
  unfold withP at *; split at k
  · exact hk _ k
  · exact k.elim
theorem withO2_mono {K K' : AV → AV → Prop} (hk : ∀ v u, K v u → K' v u) (a b : Option AV) (k : withO2 a b K) : withO2 a b K' := withO_mono (fun _ k => withO_mono (fun _ k => hk _ _ k) _ k) _ k
theorem ifB_mono {v : AV} {X Y X' Y' : Prop} (hx : X → X') (hy : Y → Y') (k : ifB v X Y) : ifB v X' Y' := by
  unfold ifB at *; split at k
  · exact hx k
  · exact hy k
  · exact k.elim

theorem qIface_mono {K K' : AV → Prop} (hk : ∀ v, K v → K' v) (t : TypeId) (x : AV) (k : qIface t x K) : qIface t x K' := ⟨hk _ k.out⟩
theorem qBuildSlice_mono {K K' : AV → Prop} (hk : ∀ v, K v → K' v) (n m : Nat) (vs : List AV) (k : qBuildSlice n m vs K) : qBuildSlice n m vs K' := ⟨pBuildSlice_mono hk _ _ _ k.out⟩
theorem qStore_mono {K K' : AHeap → Prop} (hk : ∀ v, K v → K' v) (n : Nat) (x y : AV) (h : AHeap) (k : qStore n x y h K) : qStore n x y h K' := ⟨eStore_mono hk _ _ _ _ k.out⟩
theorem qAppend_mono {K K' : AV → AHeap → Prop} (hk : ∀ v h, K v h → K' v h) (n m : Nat) (x y : AV) (h : AHeap) (k : qAppend n m x y h K) : qAppend n m x y h K' := ⟨eAppend_mono hk _ _ _ _ _ k.out⟩
theorem aop1_mono {env : Env} {h : AHeap} {o : Oper} {K K' : AV → AHeap → Prop} (hk : ∀ v h, K v h → K' v h) (k : aop1 P env h o K) : aop1 P env h o K' := by
  obtain ⟨dst, op, ty, pos, after, guard⟩ := o
  have hk' : ∀ v, K v h → K' v h := fun v => hk v h
  cases op <;> simp only [aop1] at k ⊢
  case move => exact withO_mono hk' _ k
  case assign => exact withO_mono hk' _ k
  case pick => exact withO_mono (fun _ k => withO2_mono (fun _ _ k => ifB_mono (hk' _) (hk' _) k) _ _ k) _ k
  case alloc => unfold aNew at *; (repeat' split at k) <;> first | exact k.elim | (rw [if_pos (by assumption)]; exact ⟨hk _ _ k.out⟩)
  case box => exact withO_mono (fun _ k => ⟨⟨k.out.1, hk _ _ k.out.2⟩⟩) _ k
  case build => refine withL_mono (fun _ k => ?_) _ k; unfold aBuild at *; (repeat' split at k) <;> first | exact k.elim | (rw [if_pos (by assumption)]; exact qBuild_mono hk' _ _ k)
  case buildSlice => refine withL_mono (fun _ k => ?_) _ k; unfold aBuildSlice at *; (repeat' split at k) <;> first | exact k.elim | (rw [if_pos (by assumption)]; exact qBuildSlice_mono hk' _ _ _ k)
  case load => refine withO_mono (fun _ k => ?_) _ k; unfold aLoad at *; (repeat' split at k) <;> first | exact k.elim | (rw [if_pos (by assumption)]; exact qLoadA_mono hk' _ _ _ k) | (rw [if_neg (by assumption)]; exact qLoad1_mono hk' _ _ k)
  case store => refine withO2_mono (fun _ _ k => ?_) _ _ k; unfold aStore at *; (repeat' split at k) <;> first | exact k.elim | exact qStore_mono (fun _ k => hk _ _ k) _ _ _ _ k
  case nilCheck => exact withO_mono (fun _ k => qNil_mono hk' _ k) _ k
  case binOp => refine withO2_mono (fun _ _ k => ?_) _ _ k; unfold aBin at *; (repeat' split at k) <;> first | exact k.elim | exact qBin_mono hk' _ _ _ k | exact qBinB_mono hk' _ _ _ k | exact qBinP_mono hk' _ _ _ k
  case unOp => exact withO_mono (fun _ k => qUn_mono hk' _ _ k) _ k
  case convert => refine withO_mono (fun _ k => ?_) _ k; unfold aConv at *; (repeat' split at k) <;> first | exact k.elim | exact qConvII_mono hk' _ _ k | exact qConvIF_mono hk' _ _ k | exact qConvSS_mono hk' _ k
  case makeInterface => refine withO_mono (fun _ k => ?_) _ k; unfold aIface at *; (repeat' split at k) <;> first | exact k.elim | exact qIface_mono hk' _ _ k
  case makeFunc => exact withL_mono (fun _ k => withL_mono (fun _ k => hk _ _ k) _ k) _ k
  case slice => refine withO_mono (fun _ k => withP_mono (fun _ k => withP_mono (fun _ k => withP_mono (fun _ k => ?_) _ k) _ k) _ k) _ k; unfold aSlice at *; (repeat' split at k) <;> first | exact k.elim | exact qSliceS_mono hk' _ _ _ k | exact qSliceL_mono hk' _ _ _ _ k | exact qSliceZ_mono hk' _ k
  case fieldAddr => refine withO_mono (fun _ k => ?_) _ k; unfold aFieldAddr at *; (repeat' split at k) <;> first | exact k.elim | (rw [if_neg (by assumption)]; exact qFieldAddr_mono hk' _ _ k)
  case field => refine withO_mono (fun _ k => ?_) _ k; unfold aField aPart at *; (repeat' split at k) <;> first | exact k.elim | (rw [if_pos (by assumption)]; exact qPartA_mono hk' _ _ _ k) | (rw [if_neg (by assumption)]; exact qPart1_mono hk' _ _ k)
  case indexAddr => refine withO2_mono (fun _ _ k => ?_) _ _ k; unfold aIndexAddr at *; (repeat' split at k) <;> first | exact k.elim | exact qIndexAddr_mono hk' _ _ _ k | exact qIndexAddrA_mono hk' _ _ _ _ k
  case index => refine withO2_mono (fun _ _ k => ?_) _ _ k; unfold aIndex at *; (repeat' split at k) <;> first | exact k.elim | exact qIndexS_mono hk' _ _ k
  case extract => exact withO_mono (fun _ k => qExtract_mono hk' _ _ k) _ k
  case call c =>
    refine withL_mono (fun _ k => ?_) _ k
    split at k
    · exact withO_mono (fun _ k => ACallV_mono hk _ _ _ k) _ k
    · split at k
      · unfold aLen at *
        (repeat' split at k) <;> first | exact k.elim | exact qLenS_mono hk' _ k | exact qLenL_mono hk' _ k | exact qLenM_mono hk' _ _ k
      · exact k.elim
    · split at k
      · unfold aAppend at *
        (repeat' split at k) <;> first | exact k.elim | (rw [if_pos (by assumption)]; exact qAppend_mono hk _ _ _ _ _ k)
      · exact k.elim
    · split at k
      · exact qMax_mono hk' _ _ k
      · exact k.elim
    · split at k
      · exact qMin_mono hk' _ _ k
      · exact k.elim
    · exact k.elim
end
end Go.Proofs.YtmocchnodigmlaaGreatDoor.AL
