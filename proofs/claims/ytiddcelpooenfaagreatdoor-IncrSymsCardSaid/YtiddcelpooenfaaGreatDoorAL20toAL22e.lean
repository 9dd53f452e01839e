import Derived.Test.YtiddcelpooenfaaGreatDoorAL18toAL19
import Derived.IntWalk
set_option linter.all false
set_option autoImplicit true
set_option relaxedAutoImplicit true
set_option maxRecDepth 100000
namespace Go.Proofs.YtiddcelpooenfaaGreatDoor.AL
section
def bBin (op : BinOp) (x y : AV) (K : AV → Bool) : Bool :=
  match x, y with
  | .lit a, .lit b => (match binLit op a b with | some r => K (.lit r) | none => false)
  | _, _ => false
def bBinB (op : BinOp) (x y : AV) (K : AV → Bool) : Bool :=
  match x, y with
  | .lit (.bool a), .lit (.bool b) => (match op with | .eql => K (B (a == b)) | .neq => K (B (!(a == b))) | _ => false)
  | _, _ => false
def bBinP (op : BinOp) (x y : AV) (K : AV → Bool) : Bool :=
  match x, y with
  | .ptr _ _, .lit (.pointer none) => (match op with | .eql => K (B false) | .neq => K (B true) | _ => false)
  | .lit (.pointer none), .lit (.pointer none) => (match op with | .eql => K (B true) | .neq => K (B false) | _ => false)
  | _, _ => false
def bUn (op : UnOp) (x : AV) (K : AV → Bool) : Bool :=
  match op, x with
  | .neg, .lit (.int k n) => K (.lit (.int k (k.wrap (0 - n))))
  | .xor, .lit (.int k n) => K (.lit (.int k (k.wrap ((BitVec.ofInt k.bits (if k.signed then -1 else k.max) ^^^ BitVec.ofInt k.bits n).toNat : Int))))
  | .not, .lit (.bool b) => K (B !b)
  | .neg, .lit (.float k b) => K (.lit (.float k (Op.negFloat k b)))
  | _, _ => false
def bConvSS (x : AV) (K : AV → Bool) : Bool := match x with | .lit (.string s) => K (S s) | _ => false
def bNil (v : AV) (K : AV → Bool) : Bool := match v with | .ptr i o => K (.ptr i o) | .cptr cs => K (.cptr cs) | .fn (.func f) fi ca => K (.fn (.func f) fi ca) | _ => false
def bFieldAddr (off : Nat) (v : AV) (K : AV → Bool) : Bool := match v with | .ptr i o => K (.ptr i (o + off)) | .cptr cs => K (.cptr (cs.drop off)) | _ => false
def bLoadA (n : Nat) (v : AV) (h : AHeap) (K : AV → Bool) : Bool := match aload h n v with | some l => K (.agg l) | none => false
def bLoad1 (v : AV) (h : AHeap) (K : AV → Bool) : Bool := match aload h 1 v with | some [a] => K a | _ => false
def bPartA (off n : Nat) (v : AV) (K : AV → Bool) : Bool := match v with | .agg cs => K (.agg ((cs.drop off).take n)) | _ => false
def bPart1 (off : Nat) (v : AV) (K : AV → Bool) : Bool := match v with | .agg cs => (match cs[off]? with | some a => K a | none => false) | _ => false
def bIndexAddr (size : Nat) (v i : AV) (K : AV → Bool) : Bool :=
  match asI i with
  | none => false
  | some n => match v with
    | .sl j off len sz => decide (0 ≤ n ∧ n < len ∧ sz = size) && K (.ptr j (off + n.toNat * size))
    | .snap m cs => decide (0 ≤ n ∧ n < m) && K (.cptr (cs.drop (n.toNat * size)))
    | .full m cs => decide (0 ≤ n ∧ n < m) && K (.cptr (cs.drop (n.toNat * size)))
    | _ => false
def bIndexAddrA (len size : Nat) (v i : AV) (K : AV → Bool) : Bool :=
  match asI i with
  | none => false
  | some n => match v with
    | .ptr j off => decide (0 ≤ n ∧ n < len) && K (.ptr j (off + n.toNat * size))
    | .cptr cs => decide (0 ≤ n ∧ n < len) && K (.cptr (cs.drop (n.toNat * size)))
    | _ => false
def bSliceS (v : AV) (lo hi : Option AV) (K : AV → Bool) : Bool :=
  match v with
  | .lit (.string s) => (match optI lo 0, optI hi s.size with
    | some l, some h => decide (0 ≤ l ∧ l ≤ h ∧ h ≤ s.size) && K (S (s.extract l.toNat h.toNat))
    | _, _ => false)
  | _ => false
def bSliceL (size : Nat) (v : AV) (lo hi : Option AV) (K : AV → Bool) : Bool :=
  match v with
  | .sl i off len sz => (match optI lo 0, optI hi len with
    | some l, some h => decide (0 ≤ l ∧ l ≤ h ∧ h ≤ len ∧ sz = size) && K (.sl i (off + l.toNat * size) (h.toNat - l.toNat) size)
    | _, _ => false)
  | .snap n cs => (match optI lo 0, optI hi n with
    | some l, some h => decide (0 ≤ l ∧ l ≤ h ∧ h ≤ n) && K (.snap (h.toNat - l.toNat) ((cs.drop (l.toNat * size)).take ((h.toNat - l.toNat) * size)))
    | _, _ => false)
  | .full n cs => (match optI lo 0, optI hi n with
    | some l, some h => decide (0 ≤ l ∧ l ≤ h ∧ h ≤ n) && K (.snap (h.toNat - l.toNat) ((cs.drop (l.toNat * size)).take ((h.toNat - l.toNat) * size)))
    | _, _ => false)
  | _ => false
def bSliceZ (v : AV) (K : AV → Bool) : Bool := match v with | .sl _ _ _ _ => K (.full 0 []) | .snap _ _ => K (.full 0 []) | .full _ _ => K (.full 0 []) | _ => false
def bExtract (i : Nat) (v : AV) (K : AV → Bool) : Bool := match v with | .tup vs => (match vs[i]? with | some a => K a | none => false) | _ => false
def bIface (t : TypeId) (v : AV) (K : AV → Bool) : Bool := K (.iface t v)
def bBuild (zs : List AV) (ps : List (Nat × Nat × AV)) (K : AV → Bool) : Bool := match fillL zs ps with | some cs => K (.agg cs) | none => false
def bBuildSlice (n size : Nat) (vs : List AV) (K : AV → Bool) : Bool := decide (vs.length = n ∧ (vs.all fun v => !v.isTup && v.cells.length == size) = true) && K (.full n (vs.flatMap (·.cells)))
def bLookup (d : TypeDesc) (ok : Bool) (z x key : AV) (h : AHeap) (K : AV → Bool) : Bool :=
  match key with
  | .lit k => match x with
    | .lit (.map none) => if kOk d k = true then K (if ok then .tup [z, B false] else z) else false
    | .map i => match h[i]? with
      | some (.amap es _) => if (kOk d k && es.all fun e => kOk d e.1) = true then (match mfind k es 0 with
        | some (_, _, v) => K (if ok then .tup [v, B true] else v)
        | none => K (if ok then .tup [z, B false] else z)) else false
      | _ => false
    | _ => false
  | _ => false
def bMakeSlice (bytes : Nat) (z l c : AV) (h : AHeap) (K : AV → AHeap → Bool) : Bool :=
  match l, c with
  | .lit (.int _ l), .lit (.int _ c) => decide (0 ≤ l ∧ l ≤ c ∧ (bytes : Int) * c ≤ 1099511627776 ∧ c ≤ 1099511627776) && K (.sl h.length 0 l.toNat 1) (h ++ [.cells (List.replicate c.toNat z)])
  | _, _ => false
def bIsNilM (op : BinOp) (x : AV) (K : AV → Bool) : Bool :=
  match op, x with
  | .eql, .map _ => K (B false)
  | .neq, .map _ => K (B true)
  | .eql, .lit (.map none) => K (B true)
  | .neq, .lit (.map none) => K (B false)
  | _, _ => false
def bIsNilI (op : BinOp) (x : AV) (K : AV → Bool) : Bool :=
  match op, x with
  | .eql, .iface _ _ => K (B false)
  | .neq, .iface _ _ => K (B true)
  | .eql, .lit .nilIface => K (B true)
  | .neq, .lit .nilIface => K (B false)
  | _, _ => false
def bIsNilF (op : BinOp) (x : AV) (K : AV → Bool) : Bool :=
  match op, x with
  | .eql, .fn _ _ _ => K (B false)
  | .neq, .fn _ _ _ => K (B true)
  | .eql, .lit .nilFunc => K (B true)
  | .neq, .lit .nilFunc => K (B false)
  | _, _ => false
def bilK (op : BinOp) (b : Bool) (K : AV → Bool) : Bool := match op with | .eql => K (B b) | .neq => K (B !b) | _ => false
def bIsNilS (op : BinOp) (x : AV) (K : AV → Bool) : Bool :=
  match x with
  | .sl _ _ _ _ => bilK op false K
  | .full n _ => if n = 0 then bilK op true K && bilK op false K else bilK op false K
  | .snap n _ => if n = 0 then bilK op true K && bilK op false K else bilK op false K
  | _ => false
def bEqS (op : BinOp) (ds : List TypeDesc) (x y : AV) (K : AV → Bool) : Bool :=
  match x, y with
  | .agg az, .agg bs => (match eqCells ds az bs with | some b => bilK op b K | none => false)
  | _, _ => false
def bLenL (v : AV) (K : AV → Bool) : Bool := match v with | .sl _ _ len _ => K (I len) | .snap n _ => K (I n) | .full n _ => K (I n) | _ => false
def bMax (x y : AV) (K : AV → Bool) : Bool := match x, y with | .lit (.int k a), .lit (.int _ b) => K (.lit (.int k (if b > a then b else a))) | _, _ => false
def bMin (x y : AV) (K : AV → Bool) : Bool := match x, y with | .lit (.int k a), .lit (.int _ b) => K (.lit (.int k (if b < a then b else a))) | _, _ => false
theorem bilK_ok {K : AV → Bool} (op : BinOp) (b : Bool) (k : bilK op b K = true) : nilK op b (fun r => K r = true) := by
  unfold bilK at k
  unfold nilK
  (repeat' split at k) <;> first | (cases k; done) | exact k | (simp only [Bool.and_eq_true, decide_eq_true_eq] at k; exact k) | (rw [if_pos ‹_›]; exact k) | (rw [if_neg ‹_›]; exact k) | (simp only [*, ↓reduceIte, Bool.false_eq_true]; done) | (simp_all; done)
theorem bBinB_ok {K : AV → Bool} (op : BinOp) (x y : AV) (k : bBinB op x y K = true) : pBinB op x y (fun r => K r = true) := by
  unfold bBinB at k
  unfold pBinB
  (repeat' split at k) <;> first | (cases k; done) | exact k | (simp only [Bool.and_eq_true, decide_eq_true_eq] at k; exact k) | (rw [if_pos ‹_›]; exact k) | (rw [if_neg ‹_›]; exact k) | (simp only [*, ↓reduceIte, Bool.false_eq_true]; done) | (simp_all; done)
theorem bBinP_ok {K : AV → Bool} (op : BinOp) (x y : AV) (k : bBinP op x y K = true) : pBinP op x y (fun r => K r = true) := by
  unfold bBinP at k
  unfold pBinP
  (repeat' split at k) <;> first | (cases k; done) | exact k | (simp only [Bool.and_eq_true, decide_eq_true_eq] at k; exact k) | (rw [if_pos ‹_›]; exact k) | (rw [if_neg ‹_›]; exact k) | (simp only [*, ↓reduceIte, Bool.false_eq_true]; done) | (simp_all; done)
theorem bUn_ok {K : AV → Bool} (op : UnOp) (x : AV) (k : bUn op x K = true) : pUn op x (fun r => K r = true) := by
  unfold bUn at k
  unfold pUn
  (repeat' split at k) <;> first | (cases k; done) | exact k | (simp only [Bool.and_eq_true, decide_eq_true_eq] at k; exact k) | (rw [if_pos ‹_›]; exact k) | (rw [if_neg ‹_›]; exact k) | (simp only [*, ↓reduceIte, Bool.false_eq_true]; done) | (simp_all; done)
theorem bConvSS_ok {K : AV → Bool} (x : AV) (k : bConvSS x K = true) : pConvSS x (fun r => K r = true) := by
  unfold bConvSS at k
  unfold pConvSS
  (repeat' split at k) <;> first | (cases k; done) | exact k | (simp only [Bool.and_eq_true, decide_eq_true_eq] at k; exact k) | (rw [if_pos ‹_›]; exact k) | (rw [if_neg ‹_›]; exact k) | (simp only [*, ↓reduceIte, Bool.false_eq_true]; done) | (simp_all; done)
theorem bNil_ok {K : AV → Bool} (v : AV) (k : bNil v K = true) : pNil v (fun r => K r = true) := by
  unfold bNil at k
  unfold pNil
  (repeat' split at k) <;> first | (cases k; done) | exact k | (simp only [Bool.and_eq_true, decide_eq_true_eq] at k; exact k) | (rw [if_pos ‹_›]; exact k) | (rw [if_neg ‹_›]; exact k) | (simp only [*, ↓reduceIte, Bool.false_eq_true]; done) | (simp_all; done)
theorem bPartA_ok {K : AV → Bool} (off n : Nat) (v : AV) (k : bPartA off n v K = true) : pPartA off n v (fun r => K r = true) := by
  unfold bPartA at k
  unfold pPartA
  (repeat' split at k) <;> first | (cases k; done) | exact k | (simp only [Bool.and_eq_true, decide_eq_true_eq] at k; exact k) | (rw [if_pos ‹_›]; exact k) | (rw [if_neg ‹_›]; exact k) | (simp only [*, ↓reduceIte, Bool.false_eq_true]; done) | (simp_all; done)
theorem bPart1_ok {K : AV → Bool} (off : Nat) (v : AV) (k : bPart1 off v K = true) : pPart1 off v (fun r => K r = true) := by
  unfold bPart1 at k
  unfold pPart1
  (repeat' split at k) <;> first | (cases k; done) | exact k | (simp only [Bool.and_eq_true, decide_eq_true_eq] at k; exact k) | (rw [if_pos ‹_›]; exact k) | (rw [if_neg ‹_›]; exact k) | (simp only [*, ↓reduceIte, Bool.false_eq_true]; done) | (simp_all; done)
theorem bIndexAddrA_ok {K : AV → Bool} (len size : Nat) (v i : AV) (k : bIndexAddrA len size v i K = true) : pIndexAddrA len size v i (fun r => K r = true) := by
  unfold bIndexAddrA at k
  unfold pIndexAddrA
  (repeat' split at k) <;> first | (cases k; done) | exact k | (simp only [Bool.and_eq_true, decide_eq_true_eq] at k; exact k) | (rw [if_pos ‹_›]; exact k) | (rw [if_neg ‹_›]; exact k) | (simp only [*, ↓reduceIte, Bool.false_eq_true]; done) | (simp_all; done)
theorem bSliceL_ok {K : AV → Bool} (size : Nat) (v : AV) (lo hi : Option AV) (k : bSliceL size v lo hi K = true) : pSliceL size v lo hi (fun r => K r = true) := by
  unfold bSliceL at k
  unfold pSliceL
  (repeat' split at k) <;> first | (cases k; done) | exact k | (simp only [Bool.and_eq_true, decide_eq_true_eq] at k; exact k) | (rw [if_pos ‹_›]; exact k) | (rw [if_neg ‹_›]; exact k) | (simp only [*, ↓reduceIte, Bool.false_eq_true]; done) | (simp_all; done)
theorem bSliceZ_ok {K : AV → Bool} (v : AV) (k : bSliceZ v K = true) : pSliceZ v (fun r => K r = true) := by
  unfold bSliceZ at k
  unfold pSliceZ
  (repeat' split at k) <;> first | (cases k; done) | exact k | (simp only [Bool.and_eq_true, decide_eq_true_eq] at k; exact k) | (rw [if_pos ‹_›]; exact k) | (rw [if_neg ‹_›]; exact k) | (simp only [*, ↓reduceIte, Bool.false_eq_true]; done) | (simp_all; done)
theorem bExtract_ok {K : AV → Bool} (i : Nat) (v : AV) (k : bExtract i v K = true) : pExtract i v (fun r => K r = true) := by
  unfold bExtract at k
  unfold pExtract
  (repeat' split at k) <;> first | (cases k; done) | exact k | (simp only [Bool.and_eq_true, decide_eq_true_eq] at k; exact k) | (rw [if_pos ‹_›]; exact k) | (rw [if_neg ‹_›]; exact k) | (simp only [*, ↓reduceIte, Bool.false_eq_true]; done) | (simp_all; done)
theorem bIface_ok {K : AV → Bool} (t : TypeId) (v : AV) (k : bIface t v K = true) : pIface t v (fun r => K r = true) := by
  unfold bIface at k
  unfold pIface
  (repeat' split at k) <;> first | (cases k; done) | exact k | (simp only [Bool.and_eq_true, decide_eq_true_eq] at k; exact k) | (rw [if_pos ‹_›]; exact k) | (rw [if_neg ‹_›]; exact k) | (simp only [*, ↓reduceIte, Bool.false_eq_true]; done) | (simp_all; done)
theorem bBuild_ok {K : AV → Bool} (zs : List AV) (ps : List (Nat × Nat × AV)) (k : bBuild zs ps K = true) : pBuild zs ps (fun r => K r = true) := by
  unfold bBuild at k
  unfold pBuild
  (repeat' split at k) <;> first | (cases k; done) | exact k | (simp only [Bool.and_eq_true, decide_eq_true_eq] at k; exact k) | (rw [if_pos ‹_›]; exact k) | (rw [if_neg ‹_›]; exact k) | (simp only [*, ↓reduceIte, Bool.false_eq_true]; done) | (simp_all; done)
theorem bBuildSlice_ok {K : AV → Bool} (n size : Nat) (vs : List AV) (k : bBuildSlice n size vs K = true) : pBuildSlice n size vs (fun r => K r = true) := by
  unfold bBuildSlice at k
  unfold pBuildSlice
  (repeat' split at k) <;> first | (cases k; done) | exact k | (simp only [Bool.and_eq_true, decide_eq_true_eq] at k; exact k) | (rw [if_pos ‹_›]; exact k) | (rw [if_neg ‹_›]; exact k) | (simp only [*, ↓reduceIte, Bool.false_eq_true]; done) | (simp_all; done)
theorem bIsNilM_ok {K : AV → Bool} (op : BinOp) (x : AV) (k : bIsNilM op x K = true) : pIsNilM op x (fun r => K r = true) := by
  unfold bIsNilM at k
  unfold pIsNilM
  (repeat' split at k) <;> first | (cases k; done) | exact k | (simp only [Bool.and_eq_true, decide_eq_true_eq] at k; exact k) | (rw [if_pos ‹_›]; exact k) | (rw [if_neg ‹_›]; exact k) | (simp only [*, ↓reduceIte, Bool.false_eq_true]; done) | (simp_all; done)
theorem bIsNilI_ok {K : AV → Bool} (op : BinOp) (x : AV) (k : bIsNilI op x K = true) : pIsNilI op x (fun r => K r = true) := by
  unfold bIsNilI at k
  unfold pIsNilI
  (repeat' split at k) <;> first | (cases k; done) | exact k | (simp only [Bool.and_eq_true, decide_eq_true_eq] at k; exact k) | (rw [if_pos ‹_›]; exact k) | (rw [if_neg ‹_›]; exact k) | (simp only [*, ↓reduceIte, Bool.false_eq_true]; done) | (simp_all; done)
theorem bIsNilF_ok {K : AV → Bool} (op : BinOp) (x : AV) (k : bIsNilF op x K = true) : pIsNilF op x (fun r => K r = true) := by
  unfold bIsNilF at k
  unfold pIsNilF
  (repeat' split at k) <;> first | (cases k; done) | exact k | (simp only [Bool.and_eq_true, decide_eq_true_eq] at k; exact k) | (rw [if_pos ‹_›]; exact k) | (rw [if_neg ‹_›]; exact k) | (simp only [*, ↓reduceIte, Bool.false_eq_true]; done) | (simp_all; done)
theorem bIsNilS_ok {K : AV → Bool} (op : BinOp) (x : AV) (k : bIsNilS op x K = true) : pIsNilS op x (fun r => K r = true) := by
  unfold bIsNilS at k
  unfold pIsNilS
  split at k
  · exact bilK_ok _ _ k
  · split at k
    · rename_i h0; simp only [if_pos h0]; simp only [Bool.and_eq_true] at k; exact ⟨bilK_ok _ _ k.1, bilK_ok _ _ k.2⟩
    · rename_i h0; simp only [if_neg h0]; exact bilK_ok _ _ k
  · split at k
    · rename_i h0; simp only [if_pos h0]; simp only [Bool.and_eq_true] at k; exact ⟨bilK_ok _ _ k.1, bilK_ok _ _ k.2⟩
    · rename_i h0; simp only [if_neg h0]; exact bilK_ok _ _ k
  · cases k
theorem bEqS_ok {K : AV → Bool} (op : BinOp) (ds : List TypeDesc) (x y : AV) (k : bEqS op ds x y K = true) : pEqS op ds x y (fun r => K r = true) := by
  unfold bEqS at k
  unfold pEqS
  split at k
  · split at k
    · rename_i hm; simp only [hm]; exact bilK_ok _ _ k
    · cases k
  · cases k
theorem bLenL_ok {K : AV → Bool} (v : AV) (k : bLenL v K = true) : pLenL v (fun r => K r = true) := by
  unfold bLenL at k
  unfold pLenL
  (repeat' split at k) <;> first | (cases k; done) | exact k | (simp only [Bool.and_eq_true, decide_eq_true_eq] at k; exact k) | (rw [if_pos ‹_›]; exact k) | (rw [if_neg ‹_›]; exact k) | (simp only [*, ↓reduceIte, Bool.false_eq_true]; done) | (simp_all; done)
theorem bMax_ok {K : AV → Bool} (x y : AV) (k : bMax x y K = true) : pMax x y (fun r => K r = true) := by
  unfold bMax at k
  unfold pMax
  (repeat' split at k) <;> first | (cases k; done) | exact k | (simp only [Bool.and_eq_true, decide_eq_true_eq] at k; exact k) | (rw [if_pos ‹_›]; exact k) | (rw [if_neg ‹_›]; exact k) | (simp only [*, ↓reduceIte, Bool.false_eq_true]; done) | (simp_all; done)
theorem bMin_ok {K : AV → Bool} (x y : AV) (k : bMin x y K = true) : pMin x y (fun r => K r = true) := by
  unfold bMin at k
  unfold pMin
  (repeat' split at k) <;> first | (cases k; done) | exact k | (simp only [Bool.and_eq_true, decide_eq_true_eq] at k; exact k) | (rw [if_pos ‹_›]; exact k) | (rw [if_neg ‹_›]; exact k) | (simp only [*, ↓reduceIte, Bool.false_eq_true]; done) | (simp_all; done)
end
section
noncomputable section
def bI (c t e : Bool) : Bool := @Bool.casesOn (fun _ => Bool) c e t
theorem bI_eq (c t e : Bool) : bI c t e = true ↔ (c = true ∧ t = true) ∨ (c = false ∧ e = true) := by cases c <;> simp [bI]
def bA (c t : Bool) : Bool := @Bool.casesOn (fun _ => Bool) c false t
theorem bA_eq (c t : Bool) : bA c t = true ↔ c = true ∧ t = true := by cases c <;> simp [bA]
def fN (m : Nat) (K : Nat → Bool) : Bool := @Nat.casesOn (fun _ => Bool) m (K 0) (fun m => K (Nat.succ m))
theorem fN_eq (m : Nat) (K : Nat → Bool) : fN m K = K m := by cases m <;> rfl
def fI (n : Int) (K : Int → Bool) : Bool := @Int.casesOn (fun _ => Bool) n (fun m => fN m fun m => K (.ofNat m)) (fun m => fN m fun m => K (.negSucc m))
theorem fI_eq (n : Int) (K : Int → Bool) : fI n K = K n := by cases n <;> simp [fI, fN_eq]
def fB (b : Bool) (K : Bool → Bool) : Bool := @Bool.casesOn (fun _ => Bool) b (K false) (K true)
theorem fB_eq (b : Bool) (K : Bool → Bool) : fB b K = K b := by cases b <;> rfl
theorem nbF {a b : Nat} (h : ¬ a = b) : Nat.beq a b = false := by
  cases e : Nat.beq a b
  · rfl
  · exact (h (Nat.eq_of_beq_eq_true e)).elim
inductive Tr (α : Type) where
  | leaf
  | node (l : Tr α) (v : Option α) (r : Tr α)
namespace Tr
variable {α : Type}
def getI : Tr α → Nat → Option α
  | .leaf, _ => none
  | .node l v r, i => if i = 0 then v else if i % 2 = 1 then getI l (i / 2) else getI r (i / 2 - 1)
def singI (x : α) : Nat → Nat → Tr α
  | 0, _ => .leaf
  | f + 1, i => if i = 0 then .node .leaf (some x) .leaf else if i % 2 = 1 then .node (singI x f (i / 2)) none .leaf else .node .leaf none (singI x f (i / 2 - 1))
def setI (t : Tr α) (x : α) (i : Nat) : Tr α := match t with
  | .leaf => singI x (i + 1) i
  | .node l v r => if i = 0 then .node l (some x) r else if i % 2 = 1 then .node (setI l x (i / 2)) v r else .node l v (setI r x (i / 2 - 1))
def get (t : Tr α) : Nat → Option α :=
  @Tr.rec α (fun _ => Nat → Option α) (fun _ => none) (fun _ v _ gl gr i => @Bool.rec (fun _ => Option α) (@Bool.rec (fun _ => Option α) (gr (Nat.sub (Nat.div i 2) 1)) (gl (Nat.div i 2)) (Nat.beq (Nat.mod i 2) 1)) v (Nat.beq i 0)) t
def sing (x : α) : Nat → Nat → Tr α :=
  fun f => @Nat.rec (fun _ => Nat → Tr α) (fun _ => .leaf) (fun _ ih i => @Bool.rec (fun _ => Tr α) (@Bool.rec (fun _ => Tr α) (.node .leaf none (ih (Nat.sub (Nat.div i 2) 1))) (.node (ih (Nat.div i 2)) none .leaf) (Nat.beq (Nat.mod i 2) 1)) (.node .leaf (some x) .leaf) (Nat.beq i 0)) f
def set (t : Tr α) (x : α) : Nat → Tr α :=
  @Tr.rec α (fun _ => Nat → Tr α) (fun i => sing x (Nat.succ i) i) (fun l v r sl sr i => @Bool.rec (fun _ => Tr α) (@Bool.rec (fun _ => Tr α) (.node l v (sr (Nat.sub (Nat.div i 2) 1))) (.node (sl (Nat.div i 2)) v r) (Nat.beq (Nat.mod i 2) 1)) (.node l (some x) r) (Nat.beq i 0)) t
theorem get_leaf (i : Nat) : (Tr.leaf : Tr α).get i = none := rfl
theorem get_node (l : Tr α) (v : Option α) (r : Tr α) (i : Nat) : (Tr.node l v r).get i = if i = 0 then v else if i % 2 = 1 then l.get (i / 2) else r.get (i / 2 - 1) := by
  show @Bool.rec (fun _ => Option α) (@Bool.rec (fun _ => Option α) (r.get (i / 2 - 1)) (l.get (i / 2)) (Nat.beq (i % 2) 1)) v (Nat.beq i 0) = _
  by_cases h0 : i = 0
  · subst h0; rfl
  · have : Nat.beq i 0 = false := nbF h0
    rw [this, if_neg h0]
    by_cases h1 : i % 2 = 1
    · have : Nat.beq (i % 2) 1 = true := Nat.beq_eq.mpr h1
      rw [this, if_pos h1]
    · have : Nat.beq (i % 2) 1 = false := nbF h1
      rw [this, if_neg h1]
theorem sing_succ (x : α) (f i : Nat) : sing x (f + 1) i = if i = 0 then .node .leaf (some x) .leaf else if i % 2 = 1 then .node (sing x f (i / 2)) none .leaf else .node .leaf none (sing x f (i / 2 - 1)) := by
  show @Bool.rec (fun _ => Tr α) (@Bool.rec (fun _ => Tr α) (.node .leaf none (sing x f (i / 2 - 1))) (.node (sing x f (i / 2)) none .leaf) (Nat.beq (i % 2) 1)) (.node .leaf (some x) .leaf) (Nat.beq i 0) = _
  by_cases h0 : i = 0
  · subst h0; rfl
  · have : Nat.beq i 0 = false := nbF h0
    rw [this, if_neg h0]
    by_cases h1 : i % 2 = 1
    · have : Nat.beq (i % 2) 1 = true := Nat.beq_eq.mpr h1
      rw [this, if_pos h1]
    · have : Nat.beq (i % 2) 1 = false := nbF h1
      rw [this, if_neg h1]
theorem set_leaf (x : α) (i : Nat) : (Tr.leaf : Tr α).set x i = sing x (i + 1) i := rfl
theorem set_node (l : Tr α) (v : Option α) (r : Tr α) (x : α) (i : Nat) : (Tr.node l v r).set x i = if i = 0 then .node l (some x) r else if i % 2 = 1 then .node (l.set x (i / 2)) v r else .node l v (r.set x (i / 2 - 1)) := by
  show @Bool.rec (fun _ => Tr α) (@Bool.rec (fun _ => Tr α) (.node l v (r.set x (i / 2 - 1))) (.node (l.set x (i / 2)) v r) (Nat.beq (i % 2) 1)) (.node l (some x) r) (Nat.beq i 0) = _
  by_cases h0 : i = 0
  · subst h0; rfl
  · have : Nat.beq i 0 = false := nbF h0
    rw [this, if_neg h0]
    by_cases h1 : i % 2 = 1
    · have : Nat.beq (i % 2) 1 = true := Nat.beq_eq.mpr h1
      rw [this, if_pos h1]
    · have : Nat.beq (i % 2) 1 = false := nbF h1
      rw [this, if_neg h1]
theorem sing_get (x : α) : ∀ (f i j : Nat), i < f → (sing x f i).get j = if j = i then some x else none
  | 0, i, j, h => by omega
  | f + 1, i, j, h => by
    rw [sing_succ]
    by_cases h0 : i = 0
    · rw [if_pos h0, get_node]
      subst h0
      split
      · rfl
      · split <;> rfl
    · rw [if_neg h0]
      by_cases h1 : i % 2 = 1
      · rw [if_pos h1, get_node]
        by_cases hj : j = 0
        · rw [if_pos hj, if_neg (by omega)]
        · rw [if_neg hj]
          by_cases hj1 : j % 2 = 1
          · rw [if_pos hj1, sing_get x f (i / 2) (j / 2) (by omega)]
            by_cases e : j / 2 = i / 2
            · rw [if_pos e, if_pos (by omega)]
            · rw [if_neg e, if_neg (fun h => e (by rw [h]))]
          · rw [if_neg hj1, get_leaf, if_neg (fun h => by subst h; omega)]
      · rw [if_neg h1, get_node]
        by_cases hj : j = 0
        · rw [if_pos hj, if_neg (by omega)]
        · rw [if_neg hj]
          by_cases hj1 : j % 2 = 1
          · rw [if_pos hj1, get_leaf, if_neg (fun h => by subst h; omega)]
          · rw [if_neg hj1, sing_get x f (i / 2 - 1) (j / 2 - 1) (by omega)]
            by_cases e : j / 2 - 1 = i / 2 - 1
            · rw [if_pos e, if_pos (by omega)]
            · rw [if_neg e, if_neg (fun h => e (by rw [h]))]
theorem get_set (x : α) : ∀ (t : Tr α) (i j : Nat), (t.set x i).get j = if j = i then some x else t.get j
  | .leaf, i, j => by rw [set_leaf, sing_get x _ _ _ (Nat.lt_succ_self _), get_leaf]
  | .node l v r, i, j => by
    rw [set_node, get_node]
    by_cases h0 : i = 0
    · subst h0
      rw [if_pos rfl, get_node]
      by_cases hj : j = 0
      · rw [if_pos hj, if_pos hj]
      · rw [if_neg hj, if_neg hj, if_neg hj]
    · rw [if_neg h0]
      by_cases h1 : i % 2 = 1
      · rw [if_pos h1, get_node]
        by_cases hj : j = 0
        · subst hj; rw [if_pos rfl, if_neg (Ne.symm h0), if_pos rfl]
        · rw [if_neg hj, if_neg hj]
          by_cases hj1 : j % 2 = 1
          · rw [if_pos hj1, if_pos hj1, get_set x l]
            by_cases e : j / 2 = i / 2
            · rw [if_pos e, if_pos (by omega)]
            · rw [if_neg e, if_neg (fun h => e (by rw [h]))]
          · rw [if_neg hj1, if_neg hj1, if_neg (fun h => by subst h; omega)]
      · rw [if_neg h1, get_node]
        by_cases hj : j = 0
        · subst hj; rw [if_pos rfl, if_neg (Ne.symm h0), if_pos rfl]
        · rw [if_neg hj, if_neg hj]
          by_cases hj1 : j % 2 = 1
          · rw [if_pos hj1, if_pos hj1, if_neg (fun h => by subst h; omega)]
          · rw [if_neg hj1, if_neg hj1, get_set x r]
            by_cases e : j / 2 - 1 = i / 2 - 1
            · rw [if_pos e, if_pos (by omega)]
            · rw [if_neg e, if_neg (fun h => e (by rw [h]))]
end Tr
abbrev HT := Tr AObj
structure HR (t : HT) (n : Nat) (h : AHeap) : Prop where
  len : h.length = n
  at_ : ∀ i x, t.get i = some x → h[i]? = some x
theorem HR.set {t : HT} {n : Nat} {h : AHeap} (r : HR t n h) {i : Nat} {o x : AObj} (hi : t.get i = some x) : HR (t.set o i) n (h.set i o) where
  len := by simp [r.len]
  at_ := fun j y hy => by
    have hl : i < h.length := (List.getElem?_eq_some_iff.1 (r.at_ i x hi)).1
    rw [Tr.get_set] at hy
    rw [List.getElem?_set]
    by_cases e : j = i
    · subst e; rw [if_pos rfl] at hy; rw [if_pos rfl, if_pos hl]; exact hy
    · rw [if_neg e] at hy; rw [if_neg (Ne.symm e)]; exact r.at_ j y hy
theorem HR.push {t : HT} {n : Nat} {h : AHeap} (r : HR t n h) (o : AObj) : HR (t.set o n) (n + 1) (h ++ [o]) where
  len := by simp [r.len]
  at_ := fun j y hy => by
    have hl := r.len
    rw [Tr.get_set] at hy
    by_cases e : j = n
    · subst e; rw [if_pos rfl] at hy; rw [List.getElem?_append_right (by omega)]; simp [hl]; cases hy; rfl
    · rw [if_neg e] at hy
      have := r.at_ j y hy
      have hj : j < h.length := (List.getElem?_eq_some_iff.1 this).1
      rw [List.getElem?_append_left hj]; exact this
theorem HR.more {t : HT} {n : Nat} {h : AHeap} (r : HR t n h) (l : AHeap) : HR t (n + l.length) (h ++ l) where
  len := by simp [r.len]
  at_ := fun j y hy => by
    have := r.at_ j y hy
    have hj : j < h.length := (List.getElem?_eq_some_iff.1 this).1
    rw [List.getElem?_append_left hj]; exact this
theorem HR.none {n : Nat} {h : AHeap} (e : h.length = n) : HR .leaf n h := ⟨e, fun i x hx => by cases hx⟩
def KH (K : AV → HT → Nat → Bool) (r : AV) (h : AHeap) : Prop := ∃ t n, HR t n h ∧ K r t n = true
def KS (K : HT → Nat → Bool) (h : AHeap) : Prop := ∃ t n, HR t n h ∧ K t n = true
section
variable {t : HT} {n : Nat} {h : AHeap}
def tload (t : HT) (m : Nat) (v : AV) : Option (List AV) := match v with
  | .ptr i o => match t.get i with
    | some (.cells cs) => if o + m ≤ cs.length then some ((cs.drop o).take m) else none
    | _ => none
  | .cptr cs => if m ≤ cs.length then some (cs.take m) else none
  | _ => none
theorem tload_eq (r : HR t n h) {m : Nat} {v : AV} {l : List AV} (e : tload t m v = some l) : aload h m v = some l := by
  unfold tload at e
  unfold aload
  split at e
  · split at e
    · rename_i hc; simp only [r.at_ _ _ hc]; exact e
    · cases e
  · exact e
  · cases e
def tLoadA (m : Nat) (v : AV) (t : HT) (K : AV → Bool) : Bool := match tload t m v with | some l => K (.agg l) | none => false
def tLoad1 (v : AV) (t : HT) (K : AV → Bool) : Bool := match tload t 1 v with | some [a] => K a | _ => false
theorem tLoadA_ok (r : HR t n h) {m : Nat} {v : AV} {K : AV → Bool} (k : tLoadA m v t K = true) : pLoadA m v h (fun r => K r = true) := by
  unfold tLoadA at k
  unfold pLoadA
  split at k
  · rename_i hl; simp only [tload_eq r hl]; exact k
  · cases k
theorem tLoad1_ok (r : HR t n h) {v : AV} {K : AV → Bool} (k : tLoad1 v t K = true) : pLoad1 v h (fun r => K r = true) := by
  unfold tLoad1 at k
  unfold pLoad1
  split at k
  · rename_i hl; simp only [tload_eq r hl]; exact k
  · cases k
def tNew (cs : List AV) (t : HT) (n : Nat) (K : AV → HT → Nat → Bool) : Bool := fN n fun n => K (.ptr n 0) (t.set (.cells cs) n) (n + 1)
theorem tNew_ok (r : HR t n h) {cs : List AV} {K : AV → HT → Nat → Bool} (k : tNew cs t n K = true) : eNew cs h (KH K) := by
  unfold tNew at k; rw [fN_eq] at k
  unfold eNew
  rw [r.len]
  exact ⟨_, _, r.push _, k⟩
def tBox (v : AV) (t : HT) (n : Nat) (K : AV → HT → Nat → Bool) : Bool := bI v.isTup false (tNew v.cells t n K)
theorem tBox_ok (r : HR t n h) {v : AV} {K : AV → HT → Nat → Bool} (k : tBox v t n K = true) : eBox v h (KH K) := by
  unfold tBox at k
  rcases (bI_eq _ _ _).1 k with ⟨_, k⟩ | ⟨hv, k⟩
  · cases k
  · exact ⟨hv, tNew_ok r k⟩
def tStore (m : Nat) (v u : AV) (t : HT) (n : Nat) (K : HT → Nat → Bool) : Bool :=
  match v with
  | .ptr i o => (match t.get i with
    | some (.cells cs) => decide (u.isTup = false ∧ u.cells.length = m ∧ u.cells.all AV.one = true ∧ o + m ≤ cs.length) && K (t.set (.cells (splice cs o u.cells)) i) n
    | _ => false)
  | _ => false
theorem tStore_ok (r : HR t n h) {m : Nat} {v u : AV} {K : HT → Nat → Bool} (k : tStore m v u t n K = true) : eStore m v u h (KS K) := by
  unfold tStore at k
  unfold eStore
  split at k
  · rename_i i o
    skip
    split at k
    · rename_i cs hc
      simp only [r.at_ _ _ hc]
      simp only [Bool.and_eq_true, decide_eq_true_eq] at k
      exact ⟨k.1, _, _, r.set hc, k.2⟩
    · cases k
  · cases k
def tElems (t : HT) (size : Nat) (v : AV) : Option (Nat × List AV) := match v with
  | .snap n cs => if cs.length = n * size then some (n, cs) else none
  | .full n cs => if cs.length = n * size then some (n, cs) else none
  | .sl i off len sz => match t.get i with
    | some (.cells cs) => if sz = size ∧ off + len * size ≤ cs.length then some (len, (cs.drop off).take (len * size)) else none
    | _ => none
  | .lit (.string s) => if size = 1 then some (s.size, s.data.toList.map fun b => .lit (.int .u8 b.toNat)) else none
  | _ => none
theorem tElems_eq (r : HR t n h) {m : Nat} {v : AV} {x : Nat × List AV} (e : tElems t m v = some x) : aElems h m v = some x := by
  unfold tElems at e
  unfold aElems
  split at e
  · exact e
  · exact e
  · split at e
    · rename_i hc; simp only [r.at_ _ _ hc]; exact e
    · cases e
  · exact e
  · cases e
def tAppend (size bytes : Nat) (v x : AV) (t : HT) (n : Nat) (K : AV → HT → Nat → Bool) : Bool :=
  match tElems t size x with
  | none => false
  | some (m, xs) => match v with
    | .full n0 cs => decide (cs.length = n0 * size ∧ (n0 + m) * bytes ≤ 1099511627776) && (bI (Nat.beq m 0) (K (.full n0 cs) t n) (fN n fun n => fN (n0 + m) fun l => K (.sl n 0 l size) (t.set (.cells (cs ++ xs)) n) (n + 1)))
    | .sl i off len sz => (match t.get i with
      | some (.cells cs) => decide (sz = size ∧ off + len * size = cs.length ∧ xs.all AV.one = true ∧ (len + m) * bytes ≤ 1099511627776) && fN n fun n => fN (len + m) fun l => K (.sl n 0 l size) ((t.set .dead i).set (.cells (cs.drop off ++ xs)) n) (n + 1)
      | _ => false)
    | _ => false
theorem tAppend_ok (r : HR t n h) {size bytes : Nat} {v x : AV} {K : AV → HT → Nat → Bool} (k : tAppend size bytes v x t n K = true) : eAppend size bytes v x h (KH K) := by
  unfold tAppend at k
  unfold eAppend
  split at k
  · cases k
  · rename_i m xs hx
    simp only [tElems_eq r hx]
    split at k
    · simp only [Bool.and_eq_true, decide_eq_true_eq, bI_eq, fN_eq] at k
      refine ⟨k.1, ?_⟩
      rcases k.2 with ⟨h0, k⟩ | ⟨h0, k⟩
      · rw [if_pos (Nat.eq_of_beq_eq_true h0)]; exact ⟨t, n, r, k⟩
      · rw [if_neg (fun e => by rw [Nat.beq_eq.mpr e] at h0; cases h0), r.len]; exact ⟨_, _, r.push _, k⟩
    · rename_i i off len sz
      skip
      split at k
      · rename_i cs hc
        simp only [r.at_ _ _ hc]
        simp only [Bool.and_eq_true, decide_eq_true_eq, fN_eq] at k
        refine ⟨k.1, ?_⟩
        rw [r.len]
        exact ⟨_, _, (r.set hc).push _, k.2⟩
      · cases k
    · cases k
def tBytesStr (x : AV) (t : HT) (K : AV → Bool) : Bool :=
  bA (isRow x) (match tElems t 1 x with
    | some (_, xs) => (match bytesOf xs with | some l => K (S ⟨l.toArray⟩) | none => false)
    | none => false)
theorem tBytesStr_ok (r : HR t n h) {x : AV} {K : AV → Bool} (k : tBytesStr x t K = true) : pBytesStr x h (fun r => K r = true) := by
  unfold tBytesStr at k
  unfold pBytesStr
  rw [bA_eq] at k
  rw [if_pos k.1]
  have k := k.2
  split at k
  · rename_i hx
    simp only [tElems_eq r hx]
    split at k
    · simp only [*]
    · cases k
  · cases k
def tStrBytes (x : AV) (t : HT) (n : Nat) (K : AV → HT → Nat → Bool) : Bool :=
  match x with
  | .lit (.string s) => fN n fun n => fN s.size fun l => K (.sl n 0 l 1) (t.set (.cells (s.data.toList.map fun b => .lit (.int .u8 b.toNat))) n) (n + 1)
  | _ => false
theorem tStrBytes_ok (r : HR t n h) {x : AV} {K : AV → HT → Nat → Bool} (k : tStrBytes x t n K = true) : eStrBytes x h (KH K) := by
  unfold tStrBytes at k
  unfold eStrBytes
  split at k
  · simp only [fN_eq] at k
    rw [r.len]
    exact ⟨_, _, r.push _, k⟩
  · cases k
def tMakeSlice (bytes : Nat) (z l c : AV) (t : HT) (n : Nat) (K : AV → HT → Nat → Bool) : Bool :=
  match l, c with
  | .lit (.int _ l), .lit (.int _ c) => decide (0 ≤ l ∧ l ≤ c ∧ (bytes : Int) * c ≤ 1099511627776 ∧ c ≤ 1099511627776) && fN n fun n => fN l.toNat fun l => K (.sl n 0 l 1) (t.set (.cells (List.replicate c.toNat z)) n) (n + 1)
  | _, _ => false
theorem tMakeSlice_ok (r : HR t n h) {bytes : Nat} {z l c : AV} {K : AV → HT → Nat → Bool} (k : tMakeSlice bytes z l c t n K = true) : eMakeSlice bytes z l c h (KH K) := by
  unfold tMakeSlice at k
  unfold eMakeSlice
  split at k
  · simp only [fN_eq, Bool.and_eq_true, decide_eq_true_eq] at k
    rw [r.len]
    exact ⟨k.1, _, _, r.push _, k.2⟩
  · cases k
def tLenM (v : AV) (t : HT) (K : AV → Bool) : Bool := match v with | .map i => (match t.get i with | some (.amap es _) => fN es.length fun l => K (I l) | _ => false) | _ => false
theorem tLenM_ok (r : HR t n h) {v : AV} {K : AV → Bool} (k : tLenM v t K = true) : pLenM v h (fun r => K r = true) := by
  unfold tLenM at k
  unfold pLenM
  split at k
  · split at k
    · rename_i hc
      simp only [fN_eq] at k; simp only [r.at_ _ _ hc]; exact k
    · cases k
  · cases k
def uEq (a b : UInt8) : Bool := Nat.beq a.toNat b.toNat
theorem uEq_eq (a b : UInt8) : uEq a b = (a == b) := by
  rw [Bool.eq_iff_iff, uEq, Nat.beq_eq, beq_iff_eq, UInt8.toNat_inj]
def lEq : List UInt8 → List UInt8 → Bool
  | [], [] => true
  | a :: l, b :: m => bA (uEq a b) (lEq l m)
  | _, _ => false
theorem lEq_eq : ∀ a b : List UInt8, lEq a b = true ↔ a = b
  | [], [] => by simp [lEq]
  | [], b :: m => by simp [lEq]
  | a :: l, [] => by simp [lEq]
  | a :: l, b :: m => by simp only [lEq, bA_eq, uEq_eq, beq_iff_eq, lEq_eq l m, List.cons.injEq]
def sEq (a b : ByteArray) : Bool := lEq a.data.toList b.data.toList
theorem sEq_iff (a b : ByteArray) : sEq a b = true ↔ a = b := by
  unfold sEq
  rw [lEq_eq]
  constructor
  · intro h
    rcases a with ⟨⟨a⟩⟩; rcases b with ⟨⟨b⟩⟩
    simp at h; subst h; rfl
  · rintro rfl; rfl
theorem sEq_eq (a b : ByteArray) : sEq a b = (a == b) := by
  rw [Bool.eq_iff_iff, sEq_iff]
  show a = b ↔ (a.data == b.data) = true
  rw [beq_iff_eq]
  exact ⟨fun h => by rw [h], fun h => by cases a; cases b; simp at h; rw [h]⟩
def iEq (a b : Int) : Bool := @Int.casesOn (fun _ => Bool) a (fun m => @Int.casesOn (fun _ => Bool) b (fun k => Nat.beq m k) (fun _ => false)) (fun m => @Int.casesOn (fun _ => Bool) b (fun _ => false) (fun k => Nat.beq m k))
theorem iEq_iff (a b : Int) : iEq a b = true ↔ a = b := by
  cases a <;> cases b <;> simp [iEq]
  exact ⟨fun h => by rw [h], fun h => Int.ofNat.inj h⟩
theorem iEq_eq (a b : Int) : iEq a b = (a == b) := by
  rw [Bool.eq_iff_iff, iEq_iff, beq_iff_eq]
def tkeq : Value → Value → Bool
  | .string a, .string b => sEq a b
  | .int _ a, .int _ b => iEq a b
  | _, _ => false
theorem tkeq_eq (a b : Value) : tkeq a b = keq a b := by
  unfold tkeq keq
  split <;> simp_all [sEq_eq, iEq_eq]
def tfind (k : Value) : MEnts → Nat → Option (Nat × Nat × AV)
  | [], _ => none
  | (k', n, v) :: r, i => match tkeq k k' with
    | true => some (i, n, v)
    | false => tfind k r (i + 1)
theorem tfind_eq (k : Value) : ∀ (es : MEnts) (i : Nat), tfind k es i = mfind k es i
  | [], _ => rfl
  | (k', n, v) :: r, i => by
    simp only [tfind, mfind]
    rw [tkeq_eq]
    cases h : keq k k'
    · simp [tfind_eq k r]
    · simp
def tput (k : Value) (v : AV) (clock : Nat) (es : MEnts) : AObj :=
  match tfind k es 0 with
  | some (i, n, _) => .amap (es.set i (k, n, v)) clock
  | none => .amap (es ++ [(k, clock, v)]) (clock + 1)
theorem tput_eq (k : Value) (v : AV) (clock : Nat) (es : MEnts) : tput k v clock es = mput k v clock es := by
  unfold tput mput; rw [tfind_eq]
  split <;> simp_all
def kAll (d : TypeDesc) : MEnts → Bool
  | [] => true
  | e :: es => bA (kOk d e.1) (kAll d es)
theorem kAll_eq (d : TypeDesc) : ∀ es : MEnts, kAll d es = es.all fun e => kOk d e.1
  | [] => rfl
  | e :: es => by
    simp only [kAll, List.all_cons, ← kAll_eq d es]
    cases kOk d e.1 <;> rfl
def tLookup (d : TypeDesc) (ok : Bool) (z x key : AV) (t : HT) (K : AV → Bool) : Bool :=
  match key with
  | .lit k => match x with
    | .lit (.map none) => bA (kOk d k) (K (if ok then .tup [z, B false] else z))
    | .map i => match t.get i with
      | some (.amap es _) => bA (kOk d k) (bA (kAll d es) (match tfind k es 0 with
        | some (_, _, v) => K (if ok then .tup [v, B true] else v)
        | none => K (if ok then .tup [z, B false] else z)))
      | _ => false
    | _ => false
  | _ => false
theorem tLookup_ok (r : HR t n h) {d : TypeDesc} {ok : Bool} {z x key : AV} {K : AV → Bool} (k : tLookup d ok z x key t K = true) : pLookup d ok z x key h (fun r => K r = true) := by
  unfold tLookup at k
  unfold pLookup
  split at k
  · split at k
    · rw [bA_eq] at k; simp only [if_pos k.1]; exact k.2
    · split at k
      · rename_i hc
        simp only [r.at_ _ _ hc]
        rw [bA_eq, bA_eq, kAll_eq, tfind_eq] at k
        rw [if_pos (by simp [k.1, k.2.1])]
        have k := k.2.2
        split at k <;> simp only [*]
      · cases k
    · cases k
  · cases k
def tMapUpdate (d : TypeDesc) (x key v : AV) (t : HT) (n : Nat) (K : HT → Nat → Bool) : Bool :=
  match key, x with
  | .lit k, .map i => (match t.get i with
    | some (.amap es clock) => bA (kOk d k) (bA (kAll d es) (K (t.set (tput k v clock es) i) n))
    | _ => false)
  | _, _ => false
theorem tMapUpdate_ok (r : HR t n h) {d : TypeDesc} {x key v : AV} {K : HT → Nat → Bool} (k : tMapUpdate d x key v t n K = true) : eMapUpdate d x key v h (KS K) := by
  unfold tMapUpdate at k
  unfold eMapUpdate
  split at k
  · skip
    split at k
    · rename_i hc
      simp only [r.at_ _ _ hc]
      rw [bA_eq, bA_eq, kAll_eq, tput_eq] at k
      rw [if_pos (by simp [k.1, k.2.1])]
      exact ⟨_, _, r.set hc, k.2.2⟩
    · cases k
  · cases k
def tMapEntry (d : TypeDesc) (z x key : AV) (t : HT) (n : Nat) (K : AV → HT → Nat → Bool) : Bool :=
  match key, x with
  | .lit k, .map i => (match t.get i with
    | some (.amap es clock) => bA (kOk d k) (bA (kAll d es) (match tfind k es 0 with
      | some (_, m, v) => K (.tup [v, I m]) t n
      | none => K (.tup [z, I clock]) (t.set (.amap (es ++ [(k, clock, z)]) (clock + 1)) i) n))
    | _ => false)
  | _, _ => false
theorem tMapEntry_ok (r : HR t n h) {d : TypeDesc} {z x key : AV} {K : AV → HT → Nat → Bool} (k : tMapEntry d z x key t n K = true) : eMapEntry d z x key h (KH K) := by
  unfold tMapEntry at k
  unfold eMapEntry
  split at k
  · skip
    split at k
    · rename_i hc
      simp only [r.at_ _ _ hc]
      rw [bA_eq, bA_eq, kAll_eq, tfind_eq] at k
      rw [if_pos (by simp [k.1, k.2.1])]
      have k := k.2.2
      split at k
      · simp only [*]; exact ⟨_, _, r, k⟩
      · simp only [*]; exact ⟨_, _, r.set hc, k⟩
    · cases k
  · cases k
def tEntryStore (x st v : AV) (t : HT) (n : Nat) (K : HT → Nat → Bool) : Bool :=
  match st, x with
  | .lit (.int .i64 m), .map i => (match t.get i with
    | some (.amap es clock) => (match bornAt m es 0 with
      | some (j, k, b) => K (t.set (.amap (es.set j (k, b, v)) clock) i) n
      | none => false)
    | _ => false)
  | _, _ => false
theorem tEntryStore_ok (r : HR t n h) {x st v : AV} {K : HT → Nat → Bool} (k : tEntryStore x st v t n K = true) : eEntryStore x st v h (KS K) := by
  unfold tEntryStore at k
  unfold eEntryStore
  split at k
  · skip
    split at k
    · rename_i hc
      simp only [r.at_ _ _ hc]
      split at k
      · simp only [*]; exact ⟨_, _, r.set hc, k⟩
      · cases k
    · cases k
  · cases k
def tDelete (d : TypeDesc) (x key : AV) (t : HT) (n : Nat) (K : HT → Nat → Bool) : Bool :=
  match key with
  | .lit k => match x with
    | .lit (.map none) => bA (kOk d k) (K t n)
    | .map i => (match t.get i with
      | some (.amap es clock) => bA (kOk d k) (bA (kAll d es) (match tfind k es 0 with
        | some (j, _, _) => K (t.set (.amap (es.eraseIdx j) clock) i) n
        | none => K t n))
      | _ => false)
    | _ => false
  | _ => false
theorem tDelete_ok (r : HR t n h) {d : TypeDesc} {x key : AV} {K : HT → Nat → Bool} (k : tDelete d x key t n K = true) : eDelete d x key h (KS K) := by
  unfold tDelete at k
  unfold eDelete
  split at k
  · split at k
    · rw [bA_eq] at k; simp only [if_pos k.1]; exact ⟨_, _, r, k.2⟩
    · skip
      split at k
      · rename_i hc
        simp only [r.at_ _ _ hc]
        rw [bA_eq, bA_eq, kAll_eq, tfind_eq] at k
        rw [if_pos (by simp [k.1, k.2.1])]
        have k := k.2.2
        split at k
        · simp only [*]; exact ⟨_, _, r.set hc, k⟩
        · simp only [*]; exact ⟨_, _, r, k⟩
      · cases k
    · cases k
  · cases k
def tMakeMap (t : HT) (n : Nat) (K : AV → HT → Nat → Bool) : Bool := fN n fun n => K (.map n) (t.set (.amap [] 0) n) (n + 1)
theorem tMakeMap_ok (r : HR t n h) {K : AV → HT → Nat → Bool} (k : tMakeMap t n K = true) : eMakeMap h (KH K) := by
  unfold tMakeMap at k; rw [fN_eq] at k
  unfold eMakeMap
  rw [r.len]
  exact ⟨_, _, r.push _, k⟩
def tRangeS (x : AV) (t : HT) (n : Nat) (K : AV → HT → Nat → Bool) : Bool :=
  match x with
  | .lit (.string s) => fN n fun n => K (.ptr n 0) (t.set (.siter s 0) n) (n + 1)
  | _ => false
theorem tRangeS_ok (r : HR t n h) {x : AV} {K : AV → HT → Nat → Bool} (k : tRangeS x t n K = true) : eRangeS x h (KH K) := by
  unfold tRangeS at k
  unfold eRangeS
  split at k
  · rw [fN_eq] at k; rw [r.len]; exact ⟨_, _, r.push _, k⟩
  · cases k
def tNextS (x : AV) (t : HT) (n : Nat) (K : AV → HT → Nat → Bool) : Bool :=
  match x with
  | .ptr i 0 => (match t.get i with
    | some (.siter s pos) => bI (Nat.blt pos s.size) (K (.tup [B true, I pos, .lit (.int .i32 (Utf8.decode s pos).1)]) (t.set (.siter s (pos + (Utf8.decode s pos).2)) i) n) (K (.tup [B false]) t n)
    | _ => false)
  | _ => false
theorem tNextS_ok (r : HR t n h) {x : AV} {K : AV → HT → Nat → Bool} (k : tNextS x t n K = true) : eNextS x h (KH K) := by
  unfold tNextS at k
  unfold eNextS
  split at k
  · skip
    split at k
    · rename_i hc
      simp only [r.at_ _ _ hc]
      rw [bI_eq] at k
      rcases k with ⟨hp, k⟩ | ⟨hp, k⟩
      · rw [if_pos (by rw [Nat.blt_eq] at hp; exact hp)]; exact ⟨_, _, r.set hc, k⟩
      · rw [if_neg (fun e => by rw [← Nat.blt_eq, hp] at e; cases e)]; exact ⟨_, _, r, k⟩
    · cases k
  · cases k
def tRangeM (x : AV) (t : HT) (n : Nat) (K : AV → HT → Nat → Bool) : Bool :=
  match x with
  | .lit (.map none) => fN n fun n => K (.ptr n 0) (t.set (.miter none 0 [] 0) n) (n + 1)
  | .map i => (match t.get i with
    | some (.amap es clock) => fN n fun n => K (.ptr n 0) (t.set (.miter (some i) clock [] clock) n) (n + 1)
    | _ => false)
  | _ => false
theorem tRangeM_ok (r : HR t n h) {x : AV} {K : AV → HT → Nat → Bool} (k : tRangeM x t n K = true) : eRangeM x h (KH K) := by
  unfold tRangeM at k
  unfold eRangeM
  split at k
  · rw [fN_eq] at k; rw [r.len]; exact ⟨_, _, r.push _, k⟩
  · skip
    split at k
    · rename_i hc
      simp only [r.at_ _ _ hc]
      rw [fN_eq] at k; rw [r.len]; exact ⟨_, _, r.push _, k⟩
    · cases k
  · cases k
def tNextM (x : AV) (t : HT) (n : Nat) (K : AV → HT → Nat → Bool) : Bool :=
  match x with
  | .ptr i 0 => (match t.get i with
    | some (.miter none _ _ _) => K (.tup [B false]) t n
    | some (.miter (some j) since seen last) => (match t.get j with
      | some (.amap es clock) =>
        decide ((es.all fun e => e.1.oneCell') = true ∧ (!seen.isEmpty && !es.isEmpty && es.all fun e => decide (e.2.1 ≥ last)) = false) &&
        ((!(es.all fun e => seen.contains e.2.1 || decide (since ≤ e.2.1)) || K (.tup [B false]) t n) &&
        es.all fun e => seen.contains e.2.1 || K (.tup [B true, .lit e.1, e.2.2]) (t.set (.miter (some j) since (seen ++ [e.2.1]) clock) i) n)
      | _ => false)
    | _ => false)
  | _ => false
theorem tNextM_ok (r : HR t n h) {x : AV} {K : AV → HT → Nat → Bool} (k : tNextM x t n K = true) : eNextM x h (KH K) := by
  unfold tNextM at k
  unfold eNextM
  split at k
  · skip
    split at k
    · rename_i hes; simp only [r.at_ _ _ hes]; exact ⟨_, _, r, k⟩
    · rename_i hes
      split at k
      · rename_i hm
        simp only [r.at_ _ _ hes, r.at_ _ _ hm]
        simp only [Bool.and_eq_true, decide_eq_true_eq, Bool.or_eq_true, Bool.not_eq_true', List.all_eq_true, List.all_eq_false] at k
        obtain ⟨k0, k1, k2⟩ := k
        refine ⟨⟨List.all_eq_true.2 k0.1, k0.2⟩, fun ha => ?_, fun e he hs => ?_⟩
        · rcases k1 with ⟨x, hx, hn⟩ | k1
          · exfalso
            rcases ha x hx with h1 | h1
            · exact hn (by simp [h1])
            · exact hn (by simp [h1])
          · exact ⟨_, _, r, k1⟩
        · rcases k2 e he with h1 | h1
          · exact (hs (by simpa using h1)).elim
          · exact ⟨_, _, r.set hes, h1⟩
      · cases k
    · cases k
  · cases k
def tEntry (x : AV) (t : HT) (K : AV → Bool) : Bool :=
  match x with
  | .ptr i 0 => (match t.get i with
    | some (.miter (some j) _ seen last) => (match t.get j, seen.getLast? with
      | some (.amap es clock), some n => (match bornFind n es with
        | some (k, v) => bA (k.oneCell' && clock == last) (K (.tup [.lit k, v]))
        | none => false)
      | _, _ => false)
    | _ => false)
  | _ => false
theorem tEntry_ok (r : HR t n h) {x : AV} {K : AV → Bool} (k : tEntry x t K = true) : pEntry x h (fun r => K r = true) := by
  unfold tEntry at k
  unfold pEntry
  split at k
  · split at k
    · rename_i hc
      simp only [r.at_ _ _ hc]
      split at k
      · rename_i h1 h2
        simp only [r.at_ _ _ h1, h2]
        split at k
        · rw [bA_eq] at k; simp only [*, if_true]
        · cases k
      · cases k
    · cases k
  · cases k
end
end
end
section
noncomputable section
def kNo (k : IntKind) : Nat := match k with | .i8 => 0 | .i16 => 1 | .i32 => 2 | .i64 => 3 | .u8 => 4 | .u16 => 5 | .u32 => 6 | .u64 => 7
def kEq (j k : IntKind) : Bool := Nat.beq (kNo j) (kNo k)
theorem kEq_iff (j k : IntKind) : kEq j k = true ↔ j = k := by cases j <;> cases k <;> decide
def in64 (n : Int) : Bool := @Int.casesOn (fun _ => Bool) n (fun m => Nat.ble m 9223372036854775807) (fun m => Nat.ble m 9223372036854775807)
theorem in64_wrap {n : Int} (h : in64 n = true) : IntKind.i64.wrap n = n := by
  have hb : -9223372036854775808 ≤ n ∧ n ≤ 9223372036854775807 := by
    cases n with
    | ofNat m => have : m ≤ 9223372036854775807 := Nat.le_of_ble_eq_true h; constructor <;> simp <;> omega
    | negSucc m => have : m ≤ 9223372036854775807 := Nat.le_of_ble_eq_true h; constructor <;> omega
  exact IntWalk.i64_in _ hb
def wI (k : IntKind) (n : Int) (K : Int → Bool) : Bool := bI (bA (Nat.beq (kNo k) 3) (in64 n)) (fI n K) (fI (k.wrap n) K)
theorem wI_eq (k : IntKind) (n : Int) (K : Int → Bool) : wI k n K = K (k.wrap n) := by
  unfold wI
  cases h : bA (Nat.beq (kNo k) 3) (in64 n)
  · simp [bI, fI_eq]
  · rw [bA_eq] at h
    have hk : k = .i64 := by
      have h1 := Nat.eq_of_beq_eq_true h.1
      cases k <;> simp_all [kNo]
    subst hk
    simp [bI, fI_eq, in64_wrap h.2]
def iLt (a b : Int) : Bool := @Int.casesOn (fun _ => Bool) a (fun m => @Int.casesOn (fun _ => Bool) b (fun k => Nat.blt m k) (fun _ => false)) (fun m => @Int.casesOn (fun _ => Bool) b (fun _ => true) (fun k => Nat.blt k m))
theorem blt_iff (a b : Nat) : Nat.blt a b = true ↔ a < b := by simp
theorem iLt_iff (a b : Int) : iLt a b = true ↔ a < b := by
  cases a <;> cases b
  · exact (blt_iff _ _).trans ⟨fun h => by simpa using h, fun h => by simpa using h⟩
  · exact ⟨fun h => (by cases h), fun h => by simp at h; omega⟩
  · exact ⟨fun h => by simp; omega, fun h => rfl⟩
  · exact (blt_iff _ _).trans ⟨fun h => by omega, fun h => by omega⟩
def fS : List UInt8 → (List UInt8 → Bool) → Bool
  | [], K => K []
  | a :: l, K => fS l fun l => K (a :: l)
theorem fS_eq : ∀ (l : List UInt8) (K : List UInt8 → Bool), fS l K = K l
  | [], K => rfl
  | a :: l, K => by simp only [fS, fS_eq l]
def uLt (a b : UInt8) : Bool := Nat.blt a.toNat b.toNat
def lLt : List UInt8 → List UInt8 → Bool
  | _, [] => false
  | [], _ :: _ => true
  | a :: x, b :: y => bI (uLt a b) true (bA (uEq a b) (lLt x y))
theorem lLt_eq : ∀ a b : List UInt8, lLt a b = Op.bytesLess a b
  | [], [] => rfl
  | a :: x, [] => rfl
  | [], b :: y => rfl
  | a :: x, b :: y => by
    simp only [lLt, Op.bytesLess, lLt_eq x y, uEq_eq]
    have : uLt a b = decide (a < b) := by
      rw [Bool.eq_iff_iff, uLt, blt_iff, decide_eq_true_eq, UInt8.lt_iff_toNat_lt]
    rw [this]
    cases decide (a < b) <;> cases (a == b) <;> rfl
def oV (o : Option Value) (K : AV → Bool) : Bool := match o with
  | some (.int k r) => fI r fun r => K (.lit (.int k r))
  | some (.bool b) => fB b fun b => K (.lit (.bool b))
  | some (.float k r) => fN r fun r => K (.lit (.float k r))
  | some r => K (.lit r)
  | none => false
theorem oV_eq (o : Option Value) (K : AV → Bool) (h : oV o K = true) : ∃ r, o = some r ∧ K (.lit r) = true := by
  unfold oV at h
  split at h
  · rw [fI_eq] at h; exact ⟨_, rfl, h⟩
  · rw [fB_eq] at h; exact ⟨_, rfl, h⟩
  · rw [fN_eq] at h; exact ⟨_, rfl, h⟩
  · exact ⟨_, rfl, h⟩
  · cases h
def tInt (op : BinOp) (k k' : IntKind) (a b : Int) (K : AV → Bool) : Bool :=
  match op with
  | .add => bA (kEq k k') (wI k (Int.add a b) fun r => K (.lit (.int k r)))
  | .sub => bA (kEq k k') (wI k (Int.sub a b) fun r => K (.lit (.int k r)))
  | .mul => bA (kEq k k') (wI k (Int.mul a b) fun r => K (.lit (.int k r)))
  | .eql => bA (kEq k k') (fB (iEq a b) fun r => K (B r))
  | .neq => bA (kEq k k') (fB (iEq a b) fun r => K (B !r))
  | .lss => bA (kEq k k') (fB (iLt a b) fun r => K (B r))
  | .leq => bA (kEq k k') (fB (iLt b a) fun r => K (B !r))
  | .gtr => bA (kEq k k') (fB (iLt b a) fun r => K (B r))
  | .geq => bA (kEq k k') (fB (iLt a b) fun r => K (B !r))
  | op => oV (binLit op (.int k a) (.int k' b)) K
def tStr (op : BinOp) (x y : ByteArray) (K : AV → Bool) : Bool :=
  match op with
  | .add => bA (Nat.ble (Nat.add x.data.toList.length y.data.toList.length) 1099511627776) (fS (x.data.toList ++ y.data.toList) fun l => K (S ⟨⟨l⟩⟩))
  | .eql => fB (sEq x y) fun r => K (B r)
  | .neq => fB (sEq x y) fun r => K (B !r)
  | .lss => fB (lLt x.data.toList y.data.toList) fun r => K (B r)
  | .leq => fB (bI (lLt x.data.toList y.data.toList) true (sEq x y)) fun r => K (B r)
  | .gtr => fB (bI (lLt x.data.toList y.data.toList) true (sEq x y)) fun r => K (B !r)
  | .geq => fB (lLt x.data.toList y.data.toList) fun r => K (B !r)
  | _ => false
def tBin (op : BinOp) (x y : AV) (K : AV → Bool) : Bool :=
  match x, y with
  | .lit (.int k a), .lit (.int k' b) => tInt op k k' a b K
  | .lit (.string a), .lit (.string b) => tStr op a b K
  | .lit a, .lit b => oV (binLit op a b) K
  | _, _ => false
theorem tInt_ok {op : BinOp} {k k' : IntKind} {a b : Int} {K : AV → Bool} (h : tInt op k k' a b K = true) : ∃ r, binLit op (.int k a) (.int k' b) = some r ∧ K (.lit r) = true := by
  unfold tInt at h
  have h1 : decide (b < a) = !decide (a ≤ b) := by by_cases hh : a ≤ b <;> simp [hh] <;> omega
  have h2 : decide (a < b) = !decide (b ≤ a) := by by_cases hh : b ≤ a <;> simp [hh] <;> omega
  have e1 : iLt a b = decide (a < b) := by rw [Bool.eq_iff_iff, iLt_iff, decide_eq_true_eq]
  have e2 : iLt b a = decide (b < a) := by rw [Bool.eq_iff_iff, iLt_iff, decide_eq_true_eq]
  split at h
  case h_10 => exact oV_eq _ _ h
  all_goals
    rw [bA_eq, kEq_iff] at h
    obtain ⟨rfl, h⟩ := h
    first | rw [wI_eq] at h | rw [fB_eq] at h
    refine ⟨_, by simp only [binLit, intBin, if_true]; rfl, ?_⟩
    first
      | exact h
      | (rw [iEq_eq] at h; exact h)
      | (rw [e1] at h; exact h)
      | (rw [e2] at h; exact h)
      | (rw [e1, h2, Bool.not_not] at h; exact h)
      | (rw [e2, h1, Bool.not_not] at h; exact h)
theorem tStr_ok {op : BinOp} {x y : ByteArray} {K : AV → Bool} (h : tStr op x y K = true) : ∃ r, binLit op (.string x) (.string y) = some r ∧ K (.lit r) = true := by
  have he : (x.toList == y.toList) = sEq x y := by
    rw [Bool.eq_iff_iff, sEq_iff, beq_iff_eq, ByteArray.toList_eq, ByteArray.toList_eq]
    exact ⟨fun h => by rcases x with ⟨⟨x⟩⟩; rcases y with ⟨⟨y⟩⟩; simp at h; rw [h], fun h => by rw [h]⟩
  have hl : Op.bytesLess x.toList y.toList = lLt x.data.toList y.data.toList := by rw [ByteArray.toList_eq, ByteArray.toList_eq, lLt_eq]
  have hor : ∀ a b : Bool, bI a true b = (a || b) := fun a b => by cases a <;> rfl
  have hbl : binLit op (.string x) (.string y) = strBin op x y := by cases op <;> rfl
  rw [hbl]
  unfold tStr at h
  unfold strBin
  simp only [he, hl]
  split at h
  · rw [bA_eq, fS_eq] at h
    have hs := Nat.le_of_ble_eq_true h.1
    have hsz : ¬ ((x.size + y.size : Nat) : Int) > IntKind.i64.max := by
      have h1 : x.data.toList.length = x.size := rfl
      have h2 : y.data.toList.length = y.size := rfl
      have h3 : Nat.add x.data.toList.length y.data.toList.length = x.size + y.size := rfl
      rw [h3] at hs
      have : IntKind.i64.max = 9223372036854775807 := by decide
      rw [this]; omega
    refine ⟨_, by rw [if_neg hsz], ?_⟩
    have : (x ++ y : ByteArray) = ⟨⟨x.data.toList ++ y.data.toList⟩⟩ := by
      have : (x ++ y).data = x.data ++ y.data := by simp
      rcases h : x ++ y with ⟨⟨l⟩⟩
      rw [h] at this
      congr 1
      apply Array.toList_inj.1
      have h2 := congrArg Array.toList this
      simpa using h2
    rw [this]
    exact h.2
  all_goals first
    | cases h; done
    | (rw [fB_eq] at h; exact ⟨_, rfl, h⟩)
    | (rw [fB_eq, hor] at h; exact ⟨_, rfl, h⟩)
theorem tBin_ok {op : BinOp} {x y : AV} {K : AV → Bool} (h : tBin op x y K = true) : pBin op x y (fun r => K r = true) := by
  unfold tBin at h
  unfold pBin
  split at h
  · obtain ⟨r, e, k⟩ := tInt_ok h; simp only [e]; exact k
  · obtain ⟨r, e, k⟩ := tStr_ok h; simp only [e]; exact k
  · obtain ⟨r, e, k⟩ := oV_eq _ _ h; simp only [e]; exact k
  · cases h
def tConvIF (kd : FloatKind) (x : AV) (K : AV → Bool) : Bool := match x with | .lit (.int _ n) => fN (kd.nearest n) fun r => K (.lit (.float kd r)) | _ => false
theorem tConvIF_ok {kd : FloatKind} {x : AV} {K : AV → Bool} (h : tConvIF kd x K = true) : pConvIF kd x (fun r => K r = true) := by
  unfold tConvIF at h
  unfold pConvIF
  split at h
  · rw [fN_eq] at h; exact h
  · cases h
def tConvII (kd : IntKind) (x : AV) (K : AV → Bool) : Bool := match x with | .lit (.int _ n) => wI kd n fun r => K (.lit (.int kd r)) | _ => false
theorem tConvII_ok {kd : IntKind} {x : AV} {K : AV → Bool} (h : tConvII kd x K = true) : pConvII kd x (fun r => K r = true) := by
  unfold tConvII at h
  unfold pConvII
  split at h
  · rw [wI_eq] at h; exact h
  · cases h
def tUn (op : UnOp) (x : AV) (K : AV → Bool) : Bool := bUn op x fun v => match v with | .lit r => oV (some r) K | v => K v
theorem tUn_ok {op : UnOp} {x : AV} {K : AV → Bool} (h : tUn op x K = true) : pUn op x (fun r => K r = true) := by
  have hk : ∀ v : AV, (match v with | .lit r => oV (some r) K | v => K v) = true → K v = true := fun v k => by
    split at k
    · obtain ⟨r', e, k⟩ := oV_eq _ _ k; cases e; exact k
    · exact k
  have k := bUn_ok _ _ h
  unfold pUn at k ⊢
  split at k <;> first | exact k.elim | exact hk _ k
def nthB : List UInt8 → Nat → Option UInt8
  | [], _ => none
  | b :: l, i => @Nat.casesOn (fun _ => Option UInt8) i (some b) (fun i => nthB l i)
theorem nthB_eq : ∀ (l : List UInt8) (i : Nat), nthB l i = l[i]?
  | [], i => by simp [nthB]
  | b :: l, 0 => rfl
  | b :: l, i + 1 => by show nthB l i = _; rw [nthB_eq l i]; simp
def tIndexS (v i : AV) (K : AV → Bool) : Bool := match v, i with
  | .lit (.string s), .lit (.int _ (.ofNat n)) => (match nthB s.data.toList n with | some b => fN b.toNat fun c => K (.lit (.int .u8 (.ofNat c))) | none => false)
  | _, _ => false
theorem tIndexS_ok {v i : AV} {K : AV → Bool} (h : tIndexS v i K = true) : pIndexS v i (fun r => K r = true) := by
  unfold tIndexS at h
  unfold pIndexS
  split at h
  · rename_i s k n
    rw [nthB_eq] at h
    split at h
    · rename_i b hb
      rw [fN_eq] at h
      have hl : n < s.size := (List.getElem?_eq_some_iff.1 hb).1
      refine ⟨⟨by simp, by simpa using hl⟩, ?_⟩
      have : bAt s (Int.ofNat n) = Int.ofNat b.toNat := by
        unfold bAt
        have : s.data[n]? = some b := by rw [← Array.getElem?_toList]; exact hb
        simp [this]
      rw [this]; exact h
    · cases h
  · cases h
def optN (o : Option AV) (d : Nat) : Option Nat := match o with | none => some d | some (.lit (.int _ (.ofNat n))) => some n | _ => none
theorem optN_eq {o : Option AV} {d m : Nat} (h : optN o d = some m) : optI o d = some (m : Int) := by
  unfold optN at h
  split at h
  · cases h; rfl
  · cases h; rfl
  · cases h
def tSliceS (v : AV) (lo hi : Option AV) (K : AV → Bool) : Bool :=
  match v with
  | .lit (.string s) => (match optN lo 0, optN hi s.data.toList.length with
    | some l, some h => bA (Nat.ble l h) (bA (Nat.ble h s.data.toList.length) (fS ((s.data.toList.drop l).take (Nat.sub h l)) fun r => K (S ⟨⟨r⟩⟩)))
    | _, _ => false)
  | _ => false
theorem extract_mk (s : ByteArray) (l h : Nat) : s.extract l h = ⟨⟨(s.data.toList.drop l).take (h - l)⟩⟩ := by
  have h1 : (s.extract l h).data = s.data.extract l h := by simp
  rcases he : s.extract l h with ⟨d⟩
  rw [he] at h1
  congr 1
  apply Array.toList_inj.1
  have h2 := congrArg Array.toList h1
  simpa [Array.toList_extract, List.extract_eq_take_drop] using h2
theorem tSliceS_ok {v : AV} {lo hi : Option AV} {K : AV → Bool} (k : tSliceS v lo hi K = true) : pSliceS v lo hi (fun r => K r = true) := by
  unfold tSliceS at k
  unfold pSliceS
  split at k
  · rename_i s
    split at k
    · rename_i l h h1 h2
      rw [bA_eq, bA_eq, fS_eq] at k
      have a1 := Nat.le_of_ble_eq_true k.1
      have a2 := Nat.le_of_ble_eq_true k.2.1
      have h2' : optI hi s.size = some (h : Int) := optN_eq h2
      have h1' : optI lo 0 = some (l : Int) := optN_eq h1
      simp only [h1', h2']
      have hz : s.data.toList.length = s.size := rfl
      rw [hz] at a2
      refine ⟨⟨by omega, by omega, by omega⟩, ?_⟩
      simp only [Int.toNat_natCast]
      rw [extract_mk]
      exact k.2.2
    · cases k
  · cases k
def tLenS (v : AV) (K : AV → Bool) : Bool := match v with | .lit (.string s) => fN s.data.toList.length fun n => K (I (.ofNat n)) | _ => false
theorem tLenS_ok {v : AV} {K : AV → Bool} (h : tLenS v K = true) : pLenS v (fun r => K r = true) := by
  unfold tLenS at h
  unfold pLenS
  split at h
  · rw [fN_eq] at h; exact h
  · cases h
def tFieldAddr (off : Nat) (v : AV) (K : AV → Bool) : Bool := match v with | .ptr i o => fN (Nat.add o off) fun o => K (.ptr i o) | .cptr cs => K (.cptr (cs.drop off)) | _ => false
theorem tFieldAddr_ok {off : Nat} {v : AV} {K : AV → Bool} (h : tFieldAddr off v K = true) : pFieldAddr off v (fun r => K r = true) := by
  unfold tFieldAddr at h
  unfold pFieldAddr
  split at h
  · rw [fN_eq] at h; exact h
  · exact h
  · cases h
def tIndexAddr (size : Nat) (v i : AV) (K : AV → Bool) : Bool :=
  match i with
  | .lit (.int _ (.ofNat n)) => match v with
    | .sl j off len sz => bA (Nat.blt n len) (bA (Nat.beq sz size) (fN (Nat.add off (Nat.mul n size)) fun o => K (.ptr j o)))
    | .snap m cs => bA (Nat.blt n m) (K (.cptr (cs.drop (Nat.mul n size))))
    | .full m cs => bA (Nat.blt n m) (K (.cptr (cs.drop (Nat.mul n size))))
    | _ => false
  | _ => false
theorem tIndexAddr_ok {size : Nat} {v i : AV} {K : AV → Bool} (h : tIndexAddr size v i K = true) : pIndexAddr size v i (fun r => K r = true) := by
  unfold tIndexAddr at h
  unfold pIndexAddr
  split at h
  · rename_i k n
    simp only [asI]
    split at h
    · rw [bA_eq, bA_eq, fN_eq, blt_iff] at h
      exact ⟨⟨by simp, by simpa using h.1, Nat.eq_of_beq_eq_true h.2.1⟩, h.2.2⟩
    · rw [bA_eq, blt_iff] at h
      exact ⟨⟨by simp, by simpa using h.1⟩, h.2⟩
    · rw [bA_eq, blt_iff] at h
      exact ⟨⟨by simp, by simpa using h.1⟩, h.2⟩
    · cases h
  · cases h
end
end
section
noncomputable section
structure V16 where
  (a0 a1 a2 a3 a4 a5 a6 a7 a8 a9 a10 a11 a12 a13 a14 a15 : Option AV)
structure E16 where
  (b0 b1 b2 b3 b4 b5 b6 b7 b8 b9 b10 b11 b12 b13 b14 b15 : V16)
structure LensV where
  g : V16 → Option AV
  s : V16 → AV → V16
structure Lens where
  g : E16 → Option AV
  s : E16 → AV → E16
def v0 : V16 := ⟨none, none, none, none, none, none, none, none, none, none, none, none, none, none, none, none⟩
def ee0 : E16 := ⟨v0, v0, v0, v0, v0, v0, v0, v0, v0, v0, v0, v0, v0, v0, v0, v0⟩
def lensV (i : Nat) : LensV := match i with
  | 0 => ⟨fun v => v.a0, fun v x => match v with | ⟨a0, a1, a2, a3, a4, a5, a6, a7, a8, a9, a10, a11, a12, a13, a14, a15⟩ => ⟨some x, a1, a2, a3, a4, a5, a6, a7, a8, a9, a10, a11, a12, a13, a14, a15⟩⟩
  | 1 => ⟨fun v => v.a1, fun v x => match v with | ⟨a0, a1, a2, a3, a4, a5, a6, a7, a8, a9, a10, a11, a12, a13, a14, a15⟩ => ⟨a0, some x, a2, a3, a4, a5, a6, a7, a8, a9, a10, a11, a12, a13, a14, a15⟩⟩
  | 2 => ⟨fun v => v.a2, fun v x => match v with | ⟨a0, a1, a2, a3, a4, a5, a6, a7, a8, a9, a10, a11, a12, a13, a14, a15⟩ => ⟨a0, a1, some x, a3, a4, a5, a6, a7, a8, a9, a10, a11, a12, a13, a14, a15⟩⟩
  | 3 => ⟨fun v => v.a3, fun v x => match v with | ⟨a0, a1, a2, a3, a4, a5, a6, a7, a8, a9, a10, a11, a12, a13, a14, a15⟩ => ⟨a0, a1, a2, some x, a4, a5, a6, a7, a8, a9, a10, a11, a12, a13, a14, a15⟩⟩
  | 4 => ⟨fun v => v.a4, fun v x => match v with | ⟨a0, a1, a2, a3, a4, a5, a6, a7, a8, a9, a10, a11, a12, a13, a14, a15⟩ => ⟨a0, a1, a2, a3, some x, a5, a6, a7, a8, a9, a10, a11, a12, a13, a14, a15⟩⟩
  | 5 => ⟨fun v => v.a5, fun v x => match v with | ⟨a0, a1, a2, a3, a4, a5, a6, a7, a8, a9, a10, a11, a12, a13, a14, a15⟩ => ⟨a0, a1, a2, a3, a4, some x, a6, a7, a8, a9, a10, a11, a12, a13, a14, a15⟩⟩
  | 6 => ⟨fun v => v.a6, fun v x => match v with | ⟨a0, a1, a2, a3, a4, a5, a6, a7, a8, a9, a10, a11, a12, a13, a14, a15⟩ => ⟨a0, a1, a2, a3, a4, a5, some x, a7, a8, a9, a10, a11, a12, a13, a14, a15⟩⟩
  | 7 => ⟨fun v => v.a7, fun v x => match v with | ⟨a0, a1, a2, a3, a4, a5, a6, a7, a8, a9, a10, a11, a12, a13, a14, a15⟩ => ⟨a0, a1, a2, a3, a4, a5, a6, some x, a8, a9, a10, a11, a12, a13, a14, a15⟩⟩
  | 8 => ⟨fun v => v.a8, fun v x => match v with | ⟨a0, a1, a2, a3, a4, a5, a6, a7, a8, a9, a10, a11, a12, a13, a14, a15⟩ => ⟨a0, a1, a2, a3, a4, a5, a6, a7, some x, a9, a10, a11, a12, a13, a14, a15⟩⟩
  | 9 => ⟨fun v => v.a9, fun v x => match v with | ⟨a0, a1, a2, a3, a4, a5, a6, a7, a8, a9, a10, a11, a12, a13, a14, a15⟩ => ⟨a0, a1, a2, a3, a4, a5, a6, a7, a8, some x, a10, a11, a12, a13, a14, a15⟩⟩
  | 10 => ⟨fun v => v.a10, fun v x => match v with | ⟨a0, a1, a2, a3, a4, a5, a6, a7, a8, a9, a10, a11, a12, a13, a14, a15⟩ => ⟨a0, a1, a2, a3, a4, a5, a6, a7, a8, a9, some x, a11, a12, a13, a14, a15⟩⟩
  | 11 => ⟨fun v => v.a11, fun v x => match v with | ⟨a0, a1, a2, a3, a4, a5, a6, a7, a8, a9, a10, a11, a12, a13, a14, a15⟩ => ⟨a0, a1, a2, a3, a4, a5, a6, a7, a8, a9, a10, some x, a12, a13, a14, a15⟩⟩
  | 12 => ⟨fun v => v.a12, fun v x => match v with | ⟨a0, a1, a2, a3, a4, a5, a6, a7, a8, a9, a10, a11, a12, a13, a14, a15⟩ => ⟨a0, a1, a2, a3, a4, a5, a6, a7, a8, a9, a10, a11, some x, a13, a14, a15⟩⟩
  | 13 => ⟨fun v => v.a13, fun v x => match v with | ⟨a0, a1, a2, a3, a4, a5, a6, a7, a8, a9, a10, a11, a12, a13, a14, a15⟩ => ⟨a0, a1, a2, a3, a4, a5, a6, a7, a8, a9, a10, a11, a12, some x, a14, a15⟩⟩
  | 14 => ⟨fun v => v.a14, fun v x => match v with | ⟨a0, a1, a2, a3, a4, a5, a6, a7, a8, a9, a10, a11, a12, a13, a14, a15⟩ => ⟨a0, a1, a2, a3, a4, a5, a6, a7, a8, a9, a10, a11, a12, a13, some x, a15⟩⟩
  | 15 => ⟨fun v => v.a15, fun v x => match v with | ⟨a0, a1, a2, a3, a4, a5, a6, a7, a8, a9, a10, a11, a12, a13, a14, a15⟩ => ⟨a0, a1, a2, a3, a4, a5, a6, a7, a8, a9, a10, a11, a12, a13, a14, some x⟩⟩
  | _ => ⟨fun _ => none, fun v _ => v⟩
def lensE (j : Nat) (l : LensV) : Lens := match j with
  | 0 => ⟨fun e => l.g e.b0, fun e x => match e with | ⟨b0, b1, b2, b3, b4, b5, b6, b7, b8, b9, b10, b11, b12, b13, b14, b15⟩ => ⟨l.s b0 x, b1, b2, b3, b4, b5, b6, b7, b8, b9, b10, b11, b12, b13, b14, b15⟩⟩
  | 1 => ⟨fun e => l.g e.b1, fun e x => match e with | ⟨b0, b1, b2, b3, b4, b5, b6, b7, b8, b9, b10, b11, b12, b13, b14, b15⟩ => ⟨b0, l.s b1 x, b2, b3, b4, b5, b6, b7, b8, b9, b10, b11, b12, b13, b14, b15⟩⟩
  | 2 => ⟨fun e => l.g e.b2, fun e x => match e with | ⟨b0, b1, b2, b3, b4, b5, b6, b7, b8, b9, b10, b11, b12, b13, b14, b15⟩ => ⟨b0, b1, l.s b2 x, b3, b4, b5, b6, b7, b8, b9, b10, b11, b12, b13, b14, b15⟩⟩
  | 3 => ⟨fun e => l.g e.b3, fun e x => match e with | ⟨b0, b1, b2, b3, b4, b5, b6, b7, b8, b9, b10, b11, b12, b13, b14, b15⟩ => ⟨b0, b1, b2, l.s b3 x, b4, b5, b6, b7, b8, b9, b10, b11, b12, b13, b14, b15⟩⟩
  | 4 => ⟨fun e => l.g e.b4, fun e x => match e with | ⟨b0, b1, b2, b3, b4, b5, b6, b7, b8, b9, b10, b11, b12, b13, b14, b15⟩ => ⟨b0, b1, b2, b3, l.s b4 x, b5, b6, b7, b8, b9, b10, b11, b12, b13, b14, b15⟩⟩
  | 5 => ⟨fun e => l.g e.b5, fun e x => match e with | ⟨b0, b1, b2, b3, b4, b5, b6, b7, b8, b9, b10, b11, b12, b13, b14, b15⟩ => ⟨b0, b1, b2, b3, b4, l.s b5 x, b6, b7, b8, b9, b10, b11, b12, b13, b14, b15⟩⟩
  | 6 => ⟨fun e => l.g e.b6, fun e x => match e with | ⟨b0, b1, b2, b3, b4, b5, b6, b7, b8, b9, b10, b11, b12, b13, b14, b15⟩ => ⟨b0, b1, b2, b3, b4, b5, l.s b6 x, b7, b8, b9, b10, b11, b12, b13, b14, b15⟩⟩
  | 7 => ⟨fun e => l.g e.b7, fun e x => match e with | ⟨b0, b1, b2, b3, b4, b5, b6, b7, b8, b9, b10, b11, b12, b13, b14, b15⟩ => ⟨b0, b1, b2, b3, b4, b5, b6, l.s b7 x, b8, b9, b10, b11, b12, b13, b14, b15⟩⟩
  | 8 => ⟨fun e => l.g e.b8, fun e x => match e with | ⟨b0, b1, b2, b3, b4, b5, b6, b7, b8, b9, b10, b11, b12, b13, b14, b15⟩ => ⟨b0, b1, b2, b3, b4, b5, b6, b7, l.s b8 x, b9, b10, b11, b12, b13, b14, b15⟩⟩
  | 9 => ⟨fun e => l.g e.b9, fun e x => match e with | ⟨b0, b1, b2, b3, b4, b5, b6, b7, b8, b9, b10, b11, b12, b13, b14, b15⟩ => ⟨b0, b1, b2, b3, b4, b5, b6, b7, b8, l.s b9 x, b10, b11, b12, b13, b14, b15⟩⟩
  | 10 => ⟨fun e => l.g e.b10, fun e x => match e with | ⟨b0, b1, b2, b3, b4, b5, b6, b7, b8, b9, b10, b11, b12, b13, b14, b15⟩ => ⟨b0, b1, b2, b3, b4, b5, b6, b7, b8, b9, l.s b10 x, b11, b12, b13, b14, b15⟩⟩
  | 11 => ⟨fun e => l.g e.b11, fun e x => match e with | ⟨b0, b1, b2, b3, b4, b5, b6, b7, b8, b9, b10, b11, b12, b13, b14, b15⟩ => ⟨b0, b1, b2, b3, b4, b5, b6, b7, b8, b9, b10, l.s b11 x, b12, b13, b14, b15⟩⟩
  | 12 => ⟨fun e => l.g e.b12, fun e x => match e with | ⟨b0, b1, b2, b3, b4, b5, b6, b7, b8, b9, b10, b11, b12, b13, b14, b15⟩ => ⟨b0, b1, b2, b3, b4, b5, b6, b7, b8, b9, b10, b11, l.s b12 x, b13, b14, b15⟩⟩
  | 13 => ⟨fun e => l.g e.b13, fun e x => match e with | ⟨b0, b1, b2, b3, b4, b5, b6, b7, b8, b9, b10, b11, b12, b13, b14, b15⟩ => ⟨b0, b1, b2, b3, b4, b5, b6, b7, b8, b9, b10, b11, b12, l.s b13 x, b14, b15⟩⟩
  | 14 => ⟨fun e => l.g e.b14, fun e x => match e with | ⟨b0, b1, b2, b3, b4, b5, b6, b7, b8, b9, b10, b11, b12, b13, b14, b15⟩ => ⟨b0, b1, b2, b3, b4, b5, b6, b7, b8, b9, b10, b11, b12, b13, l.s b14 x, b15⟩⟩
  | 15 => ⟨fun e => l.g e.b15, fun e x => match e with | ⟨b0, b1, b2, b3, b4, b5, b6, b7, b8, b9, b10, b11, b12, b13, b14, b15⟩ => ⟨b0, b1, b2, b3, b4, b5, b6, b7, b8, b9, b10, b11, b12, b13, b14, l.s b15 x⟩⟩
  | _ => ⟨fun _ => none, fun e _ => e⟩
def lens (s : Nat) : Lens := lensE (Nat.div s 16) (lensV (Nat.mod s 16))
theorem lt16 {i : Nat} (h : i < 16) : i = 0 ∨ i = 1 ∨ i = 2 ∨ i = 3 ∨ i = 4 ∨ i = 5 ∨ i = 6 ∨ i = 7 ∨ i = 8 ∨ i = 9 ∨ i = 10 ∨ i = 11 ∨ i = 12 ∨ i = 13 ∨ i = 14 ∨ i = 15 := by omega
theorem lensV_same {i : Nat} (h : i < 16) (v : V16) (x : AV) : (lensV i).g ((lensV i).s v x) = some x := by
  rcases lt16 h with rfl|rfl|rfl|rfl|rfl|rfl|rfl|rfl|rfl|rfl|rfl|rfl|rfl|rfl|rfl|rfl <;> rfl
theorem lensV_other {i j : Nat} (h : i < 16) (hj : j < 16) (e : i ≠ j) (v : V16) (x : AV) : (lensV i).g ((lensV j).s v x) = (lensV i).g v := by
  rcases lt16 h with rfl|rfl|rfl|rfl|rfl|rfl|rfl|rfl|rfl|rfl|rfl|rfl|rfl|rfl|rfl|rfl <;> rcases lt16 hj with rfl|rfl|rfl|rfl|rfl|rfl|rfl|rfl|rfl|rfl|rfl|rfl|rfl|rfl|rfl|rfl <;> first | exact absurd rfl e | rfl
def bAtE (j : Nat) (e : E16) : V16 := match j with
  | 0 => e.b0
  | 1 => e.b1
  | 2 => e.b2
  | 3 => e.b3
  | 4 => e.b4
  | 5 => e.b5
  | 6 => e.b6
  | 7 => e.b7
  | 8 => e.b8
  | 9 => e.b9
  | 10 => e.b10
  | 11 => e.b11
  | 12 => e.b12
  | 13 => e.b13
  | 14 => e.b14
  | 15 => e.b15
  | _ => v0
theorem lensE_g {j : Nat} (h : j < 16) (l : LensV) (e : E16) : (lensE j l).g e = l.g (bAtE j e) := by
  rcases lt16 h with rfl|rfl|rfl|rfl|rfl|rfl|rfl|rfl|rfl|rfl|rfl|rfl|rfl|rfl|rfl|rfl <;> rfl
theorem bAtE_same {j : Nat} (h : j < 16) (m : LensV) (e : E16) (x : AV) : bAtE j ((lensE j m).s e x) = m.s (bAtE j e) x := by
  rcases lt16 h with rfl|rfl|rfl|rfl|rfl|rfl|rfl|rfl|rfl|rfl|rfl|rfl|rfl|rfl|rfl|rfl <;> rfl
theorem bAtE_other {j k : Nat} (h : j < 16) (hk : k < 16) (ne : j ≠ k) (m : LensV) (e : E16) (x : AV) : bAtE j ((lensE k m).s e x) = bAtE j e := by
  rcases lt16 h with rfl|rfl|rfl|rfl|rfl|rfl|rfl|rfl|rfl|rfl|rfl|rfl|rfl|rfl|rfl|rfl <;> rcases lt16 hk with rfl|rfl|rfl|rfl|rfl|rfl|rfl|rfl|rfl|rfl|rfl|rfl|rfl|rfl|rfl|rfl <;> first | exact absurd rfl ne | rfl
theorem lensE_far {j : Nat} (h : ¬ j < 16) (l : LensV) : lensE j l = ⟨fun _ => none, fun e _ => e⟩ := by
  unfold lensE
  split <;> first | (exfalso; omega) | rfl
theorem lens_get {k d : Nat} {e : E16} {x v : AV} (h : (lens k).g ((lens d).s e x) = some v) : (k = d ∧ v = x) ∨ (k ≠ d ∧ (lens k).g e = some v) := by
  unfold lens at *
  have hk : Nat.mod k 16 < 16 := Nat.mod_lt _ (by omega)
  have hd : Nat.mod d 16 < 16 := Nat.mod_lt _ (by omega)
  by_cases hK : Nat.div k 16 < 16
  · by_cases hD : Nat.div d 16 < 16
    · rw [lensE_g hK] at h ⊢
      by_cases e1 : Nat.div k 16 = Nat.div d 16
      · rw [e1] at h ⊢
        rw [bAtE_same hD] at h
        by_cases e2 : Nat.mod k 16 = Nat.mod d 16
        · rw [e2, lensV_same hd] at h
          cases h
          refine .inl ⟨?_, rfl⟩
          have a1 : k / 16 = d / 16 := e1
          have a2 : k % 16 = d % 16 := e2
          omega
        · rw [lensV_other hk hd e2] at h
          exact .inr ⟨fun e => e2 (by rw [e]), h⟩
      · rw [bAtE_other hK hD e1] at h
        exact .inr ⟨fun e => e1 (by rw [e]), h⟩
    · rw [lensE_far hD] at h
      exact .inr ⟨fun e => hD (by rw [← e]; exact hK), h⟩
  · rw [lensE_far hK] at h
    cases h
theorem ee0_get (k : Nat) : (lens k).g ee0 = none := by
  unfold lens
  have hk : Nat.mod k 16 < 16 := Nat.mod_lt _ (by omega)
  by_cases hK : Nat.div k 16 < 16
  · rw [lensE_g hK]
    have : bAtE (Nat.div k 16) ee0 = v0 := by rcases lt16 hK with h|h|h|h|h|h|h|h|h|h|h|h|h|h|h|h <;> rw [h] <;> rfl
    rw [this]
    rcases lt16 hk with h|h|h|h|h|h|h|h|h|h|h|h|h|h|h|h <;> rw [h] <;> rfl
  · rw [lensE_far hK]
end
end
end Go.Proofs.YtiddcelpooenfaaGreatDoor.AL
