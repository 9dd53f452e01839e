import Derived.Test.YtmocchnodigmlaaGreatDoorAL9
set_option linter.all false
set_option autoImplicit true
set_option relaxedAutoImplicit true
set_option linter.unusedVariables false
/-! The steps as things that do not open by themselves. -/
namespace Go.Proofs.YtmocchnodigmlaaGreatDoor.AL
variable [Tabs]
def pLenS (v : AV) (K : AV → Prop) : Prop := match v with | .lit (.string s) => K (I s.size) | _ => False
def pLenL (v : AV) (K : AV → Prop) : Prop := match v with | .sl _ _ len _ => K (I len) | .snap n _ => K (I n) | .full n _ => K (I n) | _ => False
def pLenM (v : AV) (h : AHeap) (K : AV → Prop) : Prop := match v with | .map i => (match h[i]? with | some (.amap es _) => K (I es.length) | _ => False) | _ => False
def eBox (v : AV) (h : AHeap) (K : AV → AHeap → Prop) : Prop := v.isTup = false ∧ eNew v.cells h K


structure qBin (op : BinOp) (x y : AV) (K : AV → Prop) : Prop where
  mk :: (out : pBin op x y K)
theorem qBin_iff (op : BinOp) (x y : AV) (K : AV → Prop) : qBin op x y K ↔ pBin op x y K := ⟨fun h => h.out, fun h => ⟨h⟩⟩
structure qBinB (op : BinOp) (x y : AV) (K : AV → Prop) : Prop where
  mk :: (out : pBinB op x y K)
theorem qBinB_iff (op : BinOp) (x y : AV) (K : AV → Prop) : qBinB op x y K ↔ pBinB op x y K := ⟨fun h => h.out, fun h => ⟨h⟩⟩
structure qBinP (op : BinOp) (x y : AV) (K : AV → Prop) : Prop where
  mk :: (out : pBinP op x y K)
theorem qBinP_iff (op : BinOp) (x y : AV) (K : AV → Prop) : qBinP op x y K ↔ pBinP op x y K := ⟨fun h => h.out, fun h => ⟨h⟩⟩
structure qUn (op : UnOp) (x : AV) (K : AV → Prop) : Prop where
  mk :: (out : pUn op x K)
theorem qUn_iff (op : UnOp) (x : AV) (K : AV → Prop) : qUn op x K ↔ pUn op x K := ⟨fun h => h.out, fun h => ⟨h⟩⟩
structure qConvII (d : IntKind) (x : AV) (K : AV → Prop) : Prop where
  mk :: (out : pConvII d x K)
theorem qConvII_iff (d : IntKind) (x : AV) (K : AV → Prop) : qConvII d x K ↔ pConvII d x K := ⟨fun h => h.out, fun h => ⟨h⟩⟩
structure qConvIF (d : FloatKind) (x : AV) (K : AV → Prop) : Prop where
  mk :: (out : pConvIF d x K)
theorem qConvIF_iff (d : FloatKind) (x : AV) (K : AV → Prop) : qConvIF d x K ↔ pConvIF d x K := ⟨fun h => h.out, fun h => ⟨h⟩⟩
structure qConvSS (x : AV) (K : AV → Prop) : Prop where
  mk :: (out : pConvSS x K)
theorem qConvSS_iff (x : AV) (K : AV → Prop) : qConvSS x K ↔ pConvSS x K := ⟨fun h => h.out, fun h => ⟨h⟩⟩
structure qNil (x : AV) (K : AV → Prop) : Prop where
  mk :: (out : pNil x K)
theorem qNil_iff (x : AV) (K : AV → Prop) : qNil x K ↔ pNil x K := ⟨fun h => h.out, fun h => ⟨h⟩⟩
structure qFieldAddr (n : Nat) (x : AV) (K : AV → Prop) : Prop where
  mk :: (out : pFieldAddr n x K)
theorem qFieldAddr_iff (n : Nat) (x : AV) (K : AV → Prop) : qFieldAddr n x K ↔ pFieldAddr n x K := ⟨fun h => h.out, fun h => ⟨h⟩⟩
structure qLoadA (n : Nat) (x : AV) (h : AHeap) (K : AV → Prop) : Prop where
  mk :: (out : pLoadA n x h K)
theorem qLoadA_iff (n : Nat) (x : AV) (h : AHeap) (K : AV → Prop) : qLoadA n x h K ↔ pLoadA n x h K := ⟨fun h => h.out, fun h => ⟨h⟩⟩
structure qLoad1 (x : AV) (h : AHeap) (K : AV → Prop) : Prop where
  mk :: (out : pLoad1 x h K)
theorem qLoad1_iff (x : AV) (h : AHeap) (K : AV → Prop) : qLoad1 x h K ↔ pLoad1 x h K := ⟨fun h => h.out, fun h => ⟨h⟩⟩
structure qPartA (o n : Nat) (x : AV) (K : AV → Prop) : Prop where
  mk :: (out : pPartA o n x K)
theorem qPartA_iff (o n : Nat) (x : AV) (K : AV → Prop) : qPartA o n x K ↔ pPartA o n x K := ⟨fun h => h.out, fun h => ⟨h⟩⟩
structure qPart1 (o : Nat) (x : AV) (K : AV → Prop) : Prop where
  mk :: (out : pPart1 o x K)
theorem qPart1_iff (o : Nat) (x : AV) (K : AV → Prop) : qPart1 o x K ↔ pPart1 o x K := ⟨fun h => h.out, fun h => ⟨h⟩⟩
structure qIndexS (x i : AV) (K : AV → Prop) : Prop where
  mk :: (out : pIndexS x i K)
theorem qIndexS_iff (x i : AV) (K : AV → Prop) : qIndexS x i K ↔ pIndexS x i K := ⟨fun h => h.out, fun h => ⟨h⟩⟩
structure qIndexAddr (n : Nat) (x i : AV) (K : AV → Prop) : Prop where
  mk :: (out : pIndexAddr n x i K)
theorem qIndexAddr_iff (n : Nat) (x i : AV) (K : AV → Prop) : qIndexAddr n x i K ↔ pIndexAddr n x i K := ⟨fun h => h.out, fun h => ⟨h⟩⟩
structure qIndexAddrA (m n : Nat) (x i : AV) (K : AV → Prop) : Prop where
  mk :: (out : pIndexAddrA m n x i K)
theorem qIndexAddrA_iff (m n : Nat) (x i : AV) (K : AV → Prop) : qIndexAddrA m n x i K ↔ pIndexAddrA m n x i K := ⟨fun h => h.out, fun h => ⟨h⟩⟩
structure qSliceS (x : AV) (a b : Option AV) (K : AV → Prop) : Prop where
  mk :: (out : pSliceS x a b K)
theorem qSliceS_iff (x : AV) (a b : Option AV) (K : AV → Prop) : qSliceS x a b K ↔ pSliceS x a b K := ⟨fun h => h.out, fun h => ⟨h⟩⟩
structure qSliceL (n : Nat) (x : AV) (a b : Option AV) (K : AV → Prop) : Prop where
  mk :: (out : pSliceL n x a b K)
theorem qSliceL_iff (n : Nat) (x : AV) (a b : Option AV) (K : AV → Prop) : qSliceL n x a b K ↔ pSliceL n x a b K := ⟨fun h => h.out, fun h => ⟨h⟩⟩
structure qSliceZ (x : AV) (K : AV → Prop) : Prop where
  mk :: (out : pSliceZ x K)
theorem qSliceZ_iff (x : AV) (K : AV → Prop) : qSliceZ x K ↔ pSliceZ x K := ⟨fun h => h.out, fun h => ⟨h⟩⟩
structure qLenS (x : AV) (K : AV → Prop) : Prop where
  mk :: (out : pLenS x K)
theorem qLenS_iff (x : AV) (K : AV → Prop) : qLenS x K ↔ pLenS x K := ⟨fun h => h.out, fun h => ⟨h⟩⟩
structure qLenL (x : AV) (K : AV → Prop) : Prop where
  mk :: (out : pLenL x K)
theorem qLenL_iff (x : AV) (K : AV → Prop) : qLenL x K ↔ pLenL x K := ⟨fun h => h.out, fun h => ⟨h⟩⟩
structure qLenM (x : AV) (h : AHeap) (K : AV → Prop) : Prop where
  mk :: (out : pLenM x h K)
theorem qLenM_iff (x : AV) (h : AHeap) (K : AV → Prop) : qLenM x h K ↔ pLenM x h K := ⟨fun h => h.out, fun h => ⟨h⟩⟩
structure qExtract (i : Nat) (x : AV) (K : AV → Prop) : Prop where
  mk :: (out : pExtract i x K)
theorem qExtract_iff (i : Nat) (x : AV) (K : AV → Prop) : qExtract i x K ↔ pExtract i x K := ⟨fun h => h.out, fun h => ⟨h⟩⟩
structure qMax (x y : AV) (K : AV → Prop) : Prop where
  mk :: (out : pMax x y K)
theorem qMax_iff (x y : AV) (K : AV → Prop) : qMax x y K ↔ pMax x y K := ⟨fun h => h.out, fun h => ⟨h⟩⟩
structure qMin (x y : AV) (K : AV → Prop) : Prop where
  mk :: (out : pMin x y K)
theorem qMin_iff (x y : AV) (K : AV → Prop) : qMin x y K ↔ pMin x y K := ⟨fun h => h.out, fun h => ⟨h⟩⟩
structure qIface (t : TypeId) (x : AV) (K : AV → Prop) : Prop where
  mk :: (out : pIface t x K)
theorem qIface_iff (t : TypeId) (x : AV) (K : AV → Prop) : qIface t x K ↔ pIface t x K := ⟨fun h => h.out, fun h => ⟨h⟩⟩
structure qBuild (z : List AV) (ps : List (Nat × Nat × AV)) (K : AV → Prop) : Prop where
  mk :: (out : pBuild z ps K)
theorem qBuild_iff (z : List AV) (ps : List (Nat × Nat × AV)) (K : AV → Prop) : qBuild z ps K ↔ pBuild z ps K := ⟨fun h => h.out, fun h => ⟨h⟩⟩
structure qBuildSlice (n m : Nat) (vs : List AV) (K : AV → Prop) : Prop where
  mk :: (out : pBuildSlice n m vs K)
theorem qBuildSlice_iff (n m : Nat) (vs : List AV) (K : AV → Prop) : qBuildSlice n m vs K ↔ pBuildSlice n m vs K := ⟨fun h => h.out, fun h => ⟨h⟩⟩
structure qNew (cs : List AV) (h : AHeap) (K : AV → AHeap → Prop) : Prop where
  mk :: (out : eNew cs h K)
theorem qNew_iff (cs : List AV) (h : AHeap) (K : AV → AHeap → Prop) : qNew cs h K ↔ eNew cs h K := ⟨fun h => h.out, fun h => ⟨h⟩⟩
structure qBox (v : AV) (h : AHeap) (K : AV → AHeap → Prop) : Prop where
  mk :: (out : eBox v h K)
theorem qBox_iff (v : AV) (h : AHeap) (K : AV → AHeap → Prop) : qBox v h K ↔ eBox v h K := ⟨fun h => h.out, fun h => ⟨h⟩⟩
structure qStore (n : Nat) (x y : AV) (h : AHeap) (K : AHeap → Prop) : Prop where
  mk :: (out : eStore n x y h K)
theorem qStore_iff (n : Nat) (x y : AV) (h : AHeap) (K : AHeap → Prop) : qStore n x y h K ↔ eStore n x y h K := ⟨fun h => h.out, fun h => ⟨h⟩⟩
structure qAppend (n m : Nat) (x y : AV) (h : AHeap) (K : AV → AHeap → Prop) : Prop where
  mk :: (out : eAppend n m x y h K)
theorem qAppend_iff (n m : Nat) (x y : AV) (h : AHeap) (K : AV → AHeap → Prop) : qAppend n m x y h K ↔ eAppend n m x y h K := ⟨fun h => h.out, fun h => ⟨h⟩⟩
end Go.Proofs.YtmocchnodigmlaaGreatDoor.AL
