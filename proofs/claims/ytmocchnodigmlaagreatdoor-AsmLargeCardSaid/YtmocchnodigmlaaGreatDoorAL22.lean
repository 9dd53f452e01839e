import Derived.Test.YtmocchnodigmlaaGreatDoorAL21
import Derived.IntWalk
set_option linter.all false
set_option autoImplicit true
set_option relaxedAutoImplicit true
set_option linter.unusedVariables false
set_option linter.unusedSimpArgs false
/-! Quiet steps that are quick. -/
namespace Go.Proofs.YtmocchnodigmlaaGreatDoor.AL
noncomputable section

def kNo (k : IntKind) : Nat := match k with | .i8 => 0 | .i16 => 1 | .i32 => 2 | .i64 => 3 | .u8 => 4 | .u16 => 5 | .u32 => 6 | .u64 => 7
def kEq (j k : IntKind) : Bool := Nat.beq (kNo j) (kNo k)
theorem kEq_iff (j k : IntKind) : kEq j k = true ↔ j = k := by cases j <;> cases k <;> decide
def in64 (n : Int) : Bool := @Int.casesOn (fun _ => Bool) n (fun m => Nat.ble m 9223372036854775807) (fun m => Nat.ble m 9223372036854775807)
theorem in64_wrap {n : Int} (h : in64 n = true) : IntKind.i64.wrap n = n := by
  have hb : -9223372036854775808 ≤ n ∧ n ≤ 9223372036854775807 := by
    cases n with
    | ofNat m => have : m ≤ 9223372036854775807 := Nat.le_of_ble_eq_true h; constructor <;> simp <;> omega
    | negSucc m => have : m ≤ 9223372036854775807 := Nat.le_of_ble_eq_true h; constructor <;> omega
  exact IntWalk.i64_in _ hb
/-- A number of a kind, brought in. -/
def wI (k : IntKind) (n : Int) (K : Int → Bool) : Bool := bI (bA (Nat.beq (kNo k) 3) (in64 n)) (fI n K) (fI (k.wrap n) K)
theorem wI_eq (k : IntKind) (n : Int) (K : Int → Bool) : wI k n K = K (k.wrap n) := by
  unfold wI
  cases h : bA (Nat.beq (kNo k) 3) (in64 n)
  · simp [bI, fI_eq]
  · rw [bA_eq] at h
    have hk : k = .i64 := by
      have h1 := Nat.eq_of_beq_eq_true h.1
      cases k <;> simp_all [kNo]
    subst hk
    simp [bI, fI_eq, in64_wrap h.2]
def iLt (a b : Int) : Bool := @Int.casesOn (fun _ => Bool) a (fun m => @Int.casesOn (fun _ => Bool) b (fun k => Nat.blt m k) (fun _ => false)) (fun m => @Int.casesOn (fun _ => Bool) b (fun _ => true) (fun k => Nat.blt k m))
theorem blt_iff (a b : Nat) : Nat.blt a b = true ↔ a < b := by simp
theorem iLt_iff (a b : Int) : iLt a b = true ↔ a < b := by
  cases a <;> cases b
  · exact (blt_iff _ _).trans ⟨fun h => by simpa using h, fun h => by simpa using h⟩
  · exact ⟨fun h => (by cases h), fun h => by simp at h; omega⟩
  · exact ⟨fun h => by simp; omega, fun h => rfl⟩
  · exact (blt_iff _ _).trans ⟨fun h => by omega, fun h => by omega⟩
/-- Not below 0, below a number. -/
def iLtN (n : Int) (m : Nat) : Bool := @Int.casesOn (fun _ => Bool) n (fun a => Nat.blt a m) (fun _ => false)
theorem iLtN_iff (n : Int) (m : Nat) : iLtN n m = true ↔ 0 ≤ n ∧ n < m := by
  cases n
  · refine (blt_iff _ _).trans ⟨fun h => ⟨by simp, by simpa using h⟩, fun h => by simpa using h.2⟩
  · exact ⟨fun h => (by cases h), fun h => by omega⟩
def fS : List UInt8 → (List UInt8 → Bool) → Bool
  | [], K => K []
  | a :: l, K => fS l fun l => K (a :: l)
theorem fS_eq : ∀ (l : List UInt8) (K : List UInt8 → Bool), fS l K = K l
  | [], K => rfl
  | a :: l, K => by simp only [fS, fS_eq l]

def uLt (a b : UInt8) : Bool := Nat.blt a.toNat b.toNat
def lLt : List UInt8 → List UInt8 → Bool
  | _, [] => false
  | [], _ :: _ => true
  | a :: x, b :: y => bI (uLt a b) true (bA (uEq a b) (lLt x y))
theorem lLt_eq : ∀ a b : List UInt8, lLt a b = Op.bytesLess a b
  | [], [] => rfl
  | a :: x, [] => rfl
  | [], b :: y => rfl
  | a :: x, b :: y => by
    simp only [lLt, Op.bytesLess, lLt_eq x y, uEq_eq]
    have : uLt a b = decide (a < b) := by
      rw [Bool.eq_iff_iff, uLt, blt_iff, decide_eq_true_eq, UInt8.lt_iff_toNat_lt]
    rw [this]
    cases decide (a < b) <;> cases (a == b) <;> rfl

def oV (o : Option Value) (K : AV → Bool) : Bool := match o with
  | some (.int k r) => fI r fun r => K (.lit (.int k r))
  | some (.bool b) => fB b fun b => K (.lit (.bool b))
  | some (.float k r) => fN r fun r => K (.lit (.float k r))
  | some r => K (.lit r)
  | none => false
theorem oV_eq (o : Option Value) (K : AV → Bool) (h : oV o K = true) : ∃ r, o = some r ∧ K (.lit r) = true := by
  unfold oV at h
  split at h
  · rw [fI_eq] at h; exact ⟨_, rfl, h⟩
  · rw [fB_eq] at h; exact ⟨_, rfl, h⟩
  · rw [fN_eq] at h; exact ⟨_, rfl, h⟩
  · exact ⟨_, rfl, h⟩
  · cases h
def tInt (op : BinOp) (k k' : IntKind) (a b : Int) (K : AV → Bool) : Bool :=
  match op with
  | .add => bA (kEq k k') (wI k (Int.add a b) fun r => K (.lit (.int k r)))
  | .sub => bA (kEq k k') (wI k (Int.sub a b) fun r => K (.lit (.int k r)))
  | .mul => bA (kEq k k') (wI k (Int.mul a b) fun r => K (.lit (.int k r)))
  | .eql => bA (kEq k k') (fB (iEq a b) fun r => K (B r))
  | .neq => bA (kEq k k') (fB (iEq a b) fun r => K (B !r))
  | .lss => bA (kEq k k') (fB (iLt a b) fun r => K (B r))
  | .leq => bA (kEq k k') (fB (iLt b a) fun r => K (B !r))
  | .gtr => bA (kEq k k') (fB (iLt b a) fun r => K (B r))
  | .geq => bA (kEq k k') (fB (iLt a b) fun r => K (B !r))
  | op => oV (binLit op (.int k a) (.int k' b)) K
def tStr (op : BinOp) (x y : ByteArray) (K : AV → Bool) : Bool :=
  match op with
  | .add => bA (Nat.ble (Nat.add x.data.toList.length y.data.toList.length) 1099511627776) (fS (x.data.toList ++ y.data.toList) fun l => K (S ⟨⟨l⟩⟩))
  | .eql => fB (sEq x y) fun r => K (B r)
  | .neq => fB (sEq x y) fun r => K (B !r)
  | .lss => fB (lLt x.data.toList y.data.toList) fun r => K (B r)
  | .leq => fB (bI (lLt x.data.toList y.data.toList) true (sEq x y)) fun r => K (B r)
  | .gtr => fB (bI (lLt x.data.toList y.data.toList) true (sEq x y)) fun r => K (B !r)
  | .geq => fB (lLt x.data.toList y.data.toList) fun r => K (B !r)
  | _ => false
def tBin (op : BinOp) (x y : AV) (K : AV → Bool) : Bool :=
  match x, y with
  | .lit (.int k a), .lit (.int k' b) => tInt op k k' a b K
  | .lit (.string a), .lit (.string b) => tStr op a b K
  | .lit a, .lit b => oV (binLit op a b) K
  | _, _ => false
theorem tInt_ok {op : BinOp} {k k' : IntKind} {a b : Int} {K : AV → Bool} (h : tInt op k k' a b K = true) : ∃ r, binLit op (.int k a) (.int k' b) = some r ∧ K (.lit r) = true := by
  unfold tInt at h
  have h1 : decide (b < a) = !decide (a ≤ b) := by by_cases hh : a ≤ b <;> simp [hh] <;> omega
  have h2 : decide (a < b) = !decide (b ≤ a) := by by_cases hh : b ≤ a <;> simp [hh] <;> omega
  have e1 : iLt a b = decide (a < b) := by rw [Bool.eq_iff_iff, iLt_iff, decide_eq_true_eq]
  have e2 : iLt b a = decide (b < a) := by rw [Bool.eq_iff_iff, iLt_iff, decide_eq_true_eq]
  split at h
  case h_10 => exact oV_eq _ _ h
  all_goals
    rw [bA_eq, kEq_iff] at h
    obtain ⟨rfl, h⟩ := h
    first | rw [wI_eq] at h | rw [fB_eq] at h
    refine ⟨_, by simp only [binLit, intBin, if_true]; rfl, ?_⟩
    first
      | exact h
      | (rw [iEq_eq] at h; exact h)
      | (rw [e1] at h; exact h)
      | (rw [e2] at h; exact h)
      | (rw [e1, h2, Bool.not_not] at h; exact h)
      | (rw [e2, h1, Bool.not_not] at h; exact h)
theorem tStr_ok {op : BinOp} {x y : ByteArray} {K : AV → Bool} (h : tStr op x y K = true) : ∃ r, binLit op (.string x) (.string y) = some r ∧ K (.lit r) = true := by
  have he : (x.toList == y.toList) = sEq x y := by
    rw [Bool.eq_iff_iff, sEq_iff, beq_iff_eq, ByteArray.toList_eq, ByteArray.toList_eq]
    exact ⟨fun h => by rcases x with ⟨⟨x⟩⟩; rcases y with ⟨⟨y⟩⟩; simp at h; rw [h], fun h => by rw [h]⟩
  have hl : Op.bytesLess x.toList y.toList = lLt x.data.toList y.data.toList := by rw [ByteArray.toList_eq, ByteArray.toList_eq, lLt_eq]
  have hor : ∀ a b : Bool, bI a true b = (a || b) := fun a b => by cases a <;> rfl
  have hbl : binLit op (.string x) (.string y) = strBin op x y := by cases op <;> rfl
  rw [hbl]
  unfold tStr at h
  unfold strBin
  simp only [he, hl]
  split at h
  · rw [bA_eq, fS_eq] at h
    have hs := Nat.le_of_ble_eq_true h.1
    have hsz : ¬ ((x.size + y.size : Nat) : Int) > IntKind.i64.max := by
      have h1 : x.data.toList.length = x.size := rfl
      have h2 : y.data.toList.length = y.size := rfl
      have h3 : Nat.add x.data.toList.length y.data.toList.length = x.size + y.size := rfl
      rw [h3] at hs
      have : IntKind.i64.max = 9223372036854775807 := by decide
      rw [this]; omega
    refine ⟨_, by rw [if_neg hsz], ?_⟩
    have : (x ++ y : ByteArray) = ⟨⟨x.data.toList ++ y.data.toList⟩⟩ := by
      have : (x ++ y).data = x.data ++ y.data := by simp
      rcases h : x ++ y with ⟨⟨l⟩⟩
      rw [h] at this
      congr 1
      apply Array.toList_inj.1
      have h2 := congrArg Array.toList this
      simpa using h2
    rw [this]
    exact h.2
  all_goals first
    | cases h; done
    | (rw [fB_eq] at h; exact ⟨_, rfl, h⟩)
    | (rw [fB_eq, hor] at h; exact ⟨_, rfl, h⟩)
theorem tBin_ok {op : BinOp} {x y : AV} {K : AV → Bool} (h : tBin op x y K = true) : pBin op x y (fun r => K r = true) := by
  unfold tBin at h
  unfold pBin
  split at h
  · obtain ⟨r, e, k⟩ := tInt_ok h; simp only [e]; exact k
  · obtain ⟨r, e, k⟩ := tStr_ok h; simp only [e]; exact k
  · obtain ⟨r, e, k⟩ := oV_eq _ _ h; simp only [e]; exact k
  · cases h
def tConvIF (kd : FloatKind) (x : AV) (K : AV → Bool) : Bool := match x with | .lit (.int _ n) => fN (kd.nearest n) fun r => K (.lit (.float kd r)) | _ => false
theorem tConvIF_ok {kd : FloatKind} {x : AV} {K : AV → Bool} (h : tConvIF kd x K = true) : pConvIF kd x (fun r => K r = true) := by
  unfold tConvIF at h
  unfold pConvIF
  split at h
  · rw [fN_eq] at h; exact h
  · cases h
def tConvII (kd : IntKind) (x : AV) (K : AV → Bool) : Bool := match x with | .lit (.int _ n) => wI kd n fun r => K (.lit (.int kd r)) | _ => false
theorem tConvII_ok {kd : IntKind} {x : AV} {K : AV → Bool} (h : tConvII kd x K = true) : pConvII kd x (fun r => K r = true) := by
  unfold tConvII at h
  unfold pConvII
  split at h
  · rw [wI_eq] at h; exact h
  · cases h
def tUn (op : UnOp) (x : AV) (K : AV → Bool) : Bool := bUn op x fun v => match v with | .lit r => oV (some r) K | v => K v
theorem tUn_ok {op : UnOp} {x : AV} {K : AV → Bool} (h : tUn op x K = true) : pUn op x (fun r => K r = true) := by
  have hk : ∀ v : AV, (match v with | .lit r => oV (some r) K | v => K v) = true → K v = true := fun v k => by
    split at k
    · obtain ⟨r', e, k⟩ := oV_eq _ _ k; cases e; exact k
    · exact k
  have k := bUn_ok _ _ h
  unfold pUn at k ⊢
  split at k <;> first | exact k.elim | exact hk _ k
def nthB : List UInt8 → Nat → Option UInt8
  | [], _ => none
  | b :: l, i => @Nat.casesOn (fun _ => Option UInt8) i (some b) (fun i => nthB l i)
theorem nthB_eq : ∀ (l : List UInt8) (i : Nat), nthB l i = l[i]?
  | [], i => by simp [nthB]
  | b :: l, 0 => rfl
  | b :: l, i + 1 => by show nthB l i = _; rw [nthB_eq l i]; simp
def tIndexS (v i : AV) (K : AV → Bool) : Bool := match v, i with
  | .lit (.string s), .lit (.int _ (.ofNat n)) => (match nthB s.data.toList n with | some b => fN b.toNat fun c => K (.lit (.int .u8 (.ofNat c))) | none => false)
  | _, _ => false
theorem tIndexS_ok {v i : AV} {K : AV → Bool} (h : tIndexS v i K = true) : pIndexS v i (fun r => K r = true) := by
  unfold tIndexS at h
  unfold pIndexS
  split at h
  · rename_i s k n
    rw [nthB_eq] at h
    split at h
    · rename_i b hb
      rw [fN_eq] at h
      have hl : n < s.size := (List.getElem?_eq_some_iff.1 hb).1
      refine ⟨⟨by simp, by simpa using hl⟩, ?_⟩
      have : bAt s (Int.ofNat n) = Int.ofNat b.toNat := by
        unfold bAt
        have : s.data[n]? = some b := by rw [← Array.getElem?_toList]; exact hb
        simp [this]
      rw [this]; exact h
    · cases h
  · cases h
def optN (o : Option AV) (d : Nat) : Option Nat := match o with | none => some d | some (.lit (.int _ (.ofNat n))) => some n | _ => none
theorem optN_eq {o : Option AV} {d m : Nat} (h : optN o d = some m) : optI o d = some (m : Int) := by
  unfold optN at h
  split at h
  · cases h; rfl
  · cases h; rfl
  · cases h
def tSliceS (v : AV) (lo hi : Option AV) (K : AV → Bool) : Bool :=
  match v with
  | .lit (.string s) => (match optN lo 0, optN hi s.data.toList.length with
    | some l, some h => bA (Nat.ble l h) (bA (Nat.ble h s.data.toList.length) (fS ((s.data.toList.drop l).take (Nat.sub h l)) fun r => K (S ⟨⟨r⟩⟩)))
    | _, _ => false)
  | _ => false
theorem extract_mk (s : ByteArray) (l h : Nat) : s.extract l h = ⟨⟨(s.data.toList.drop l).take (h - l)⟩⟩ := by
  have h1 : (s.extract l h).data = s.data.extract l h := by simp
  rcases he : s.extract l h with ⟨d⟩
  rw [he] at h1
  congr 1
  apply Array.toList_inj.1
  have h2 := congrArg Array.toList h1
  simpa [Array.toList_extract, List.extract_eq_take_drop] using h2
theorem tSliceS_ok {v : AV} {lo hi : Option AV} {K : AV → Bool} (k : tSliceS v lo hi K = true) : pSliceS v lo hi (fun r => K r = true) := by
  unfold tSliceS at k
  unfold pSliceS
  split at k
  · rename_i s
    split at k
    · rename_i l h h1 h2
      rw [bA_eq, bA_eq, fS_eq] at k
      have a1 := Nat.le_of_ble_eq_true k.1
      have a2 := Nat.le_of_ble_eq_true k.2.1
      have h2' : optI hi s.size = some (h : Int) := optN_eq h2
      have h1' : optI lo 0 = some (l : Int) := optN_eq h1
      simp only [h1', h2']
      have hz : s.data.toList.length = s.size := rfl
      rw [hz] at a2
      refine ⟨⟨by omega, by omega, by omega⟩, ?_⟩
      simp only [Int.toNat_natCast]
      rw [extract_mk]
      exact k.2.2
    · cases k
  · cases k
def tLenS (v : AV) (K : AV → Bool) : Bool := match v with | .lit (.string s) => fN s.data.toList.length fun n => K (I (.ofNat n)) | _ => false
theorem tLenS_ok {v : AV} {K : AV → Bool} (h : tLenS v K = true) : pLenS v (fun r => K r = true) := by
  unfold tLenS at h
  unfold pLenS
  split at h
  · rw [fN_eq] at h; exact h
  · cases h
def tFieldAddr (off : Nat) (v : AV) (K : AV → Bool) : Bool := match v with | .ptr i o => fN (Nat.add o off) fun o => K (.ptr i o) | .cptr cs => K (.cptr (cs.drop off)) | _ => false
theorem tFieldAddr_ok {off : Nat} {v : AV} {K : AV → Bool} (h : tFieldAddr off v K = true) : pFieldAddr off v (fun r => K r = true) := by
  unfold tFieldAddr at h
  unfold pFieldAddr
  split at h
  · rw [fN_eq] at h; exact h
  · exact h
  · cases h
def tIndexAddr (size : Nat) (v i : AV) (K : AV → Bool) : Bool :=
  match i with
  | .lit (.int _ (.ofNat n)) => match v with
    | .sl j off len sz => bA (Nat.blt n len) (bA (Nat.beq sz size) (fN (Nat.add off (Nat.mul n size)) fun o => K (.ptr j o)))
    | .snap m cs => bA (Nat.blt n m) (K (.cptr (cs.drop (Nat.mul n size))))
    | .full m cs => bA (Nat.blt n m) (K (.cptr (cs.drop (Nat.mul n size))))
    | _ => false
  | _ => false
theorem tIndexAddr_ok {size : Nat} {v i : AV} {K : AV → Bool} (h : tIndexAddr size v i K = true) : pIndexAddr size v i (fun r => K r = true) := by
  unfold tIndexAddr at h
  unfold pIndexAddr
  split at h
  · rename_i k n
    simp only [asI]
    split at h
    · rw [bA_eq, bA_eq, fN_eq, blt_iff] at h
      exact ⟨⟨by simp, by simpa using h.1, Nat.eq_of_beq_eq_true h.2.1⟩, h.2.2⟩
    · rw [bA_eq, blt_iff] at h
      exact ⟨⟨by simp, by simpa using h.1⟩, h.2⟩
    · rw [bA_eq, blt_iff] at h
      exact ⟨⟨by simp, by simpa using h.1⟩, h.2⟩
    · cases h
  · cases h
end
end Go.Proofs.YtmocchnodigmlaaGreatDoor.AL
