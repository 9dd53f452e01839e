import Derived.Test.YtmocchnodigmlaaGreatDoorAL3
import Derived.Laws.Entries
set_option linter.all false
set_option autoImplicit true
set_option relaxedAutoImplicit true
set_option linter.unusedVariables false
/-! Steps that leave memory alone. -/
namespace Go.Proofs.YtmocchnodigmlaaGreatDoor.AL
variable [Tabs]
section
variable {P : Program} {G : Gh} {h : AHeap} {w : World}

def withO (o : Option AV) (K : AV → Prop) : Prop := match o with | some v => K v | none => False
def ifB (v : AV) (X Y : Prop) : Prop := match v with | .lit (.bool true) => X | .lit (.bool false) => Y | _ => False

/-! ### Numbers, texts -/
def intBin (op : BinOp) (k : IntKind) (a b : Int) : Option Value :=
  match op with
  | .add => some (.int k (k.wrap (a + b)))
  | .sub => some (.int k (k.wrap (a - b)))
  | .mul => some (.int k (k.wrap (a * b)))
  | .quo => if b = 0 then none else some (.int k (k.wrap (a.tdiv b)))
  | .rem => if b = 0 then none else some (.int k (a.tmod b))
  | .and => some (.int k (k.wrap ((BitVec.ofInt k.bits a &&& BitVec.ofInt k.bits b).toNat : Int)))
  | .or => some (.int k (k.wrap ((BitVec.ofInt k.bits a ||| BitVec.ofInt k.bits b).toNat : Int)))
  | .xor => some (.int k (k.wrap ((BitVec.ofInt k.bits a ^^^ BitVec.ofInt k.bits b).toNat : Int)))
  | .andNot => some (.int k (k.wrap ((BitVec.ofInt k.bits a &&& ~~~ BitVec.ofInt k.bits b).toNat : Int)))
  | .eql => some (.bool (a == b))
  | .neq => some (.bool (a != b))
  | .lss => some (.bool (a < b))
  | .leq => some (.bool (a ≤ b))
  | .gtr => some (.bool (a > b))
  | .geq => some (.bool (a ≥ b))
  | _ => none
def strBin (op : BinOp) (x y : ByteArray) : Option Value :=
  let eq := x.toList == y.toList
  let lt := Op.bytesLess x.toList y.toList
  match op with
  | .add => if ((x.size + y.size : Nat) : Int) > IntKind.i64.max then none else some (.string (x ++ y))
  | .eql => some (.bool eq)
  | .neq => some (.bool !eq)
  | .lss => some (.bool lt)
  | .leq => some (.bool (lt || eq))
  | .gtr => some (.bool !(lt || eq))
  | .geq => some (.bool !lt)
  | _ => none
def floatBin (op : BinOp) (k : FloatKind) (x y : Nat) : Option Value :=
  let c := k.format.order x y
  match op with
  | .eql => some (.bool (c == some .eq))
  | .neq => some (.bool (c != some .eq))
  | .lss => some (.bool (c == some .lt))
  | .leq => some (.bool (c == some .lt || c == some .eq))
  | .gtr => some (.bool (c == some .gt))
  | .geq => some (.bool (c == some .gt || c == some .eq))
  | .add => (k.format.add x y).map (.float k)
  | .sub => (k.format.sub x y).map (.float k)
  | .mul => (k.format.mul x y).map (.float k)
  | .quo => (k.format.div x y).map (.float k)
  | _ => none
def binLit (op : BinOp) (x y : Value) : Option Value :=
  match x, y with
  | .int k a, .int k' b =>
    match op with
    | .shl => if b < 0 then none else some (.int k (k.wrap (a * 2 ^ (min b.toNat k.bits))))
    | .shr => if b < 0 then none else some (.int k (a.fdiv (2 ^ (min b.toNat k.bits))))
    | _ => if k = k' then intBin op k a b else none
  | .string a, .string b => strBin op a b
  | .float k a, .float k' b => if k = k' then floatBin op k a b else none
  | _, _ => none
def pBin (op : BinOp) (x y : AV) (K : AV → Prop) : Prop :=
  match x, y with
  | .lit a, .lit b => (match binLit op a b with | some r => K (.lit r) | none => False)
  | _, _ => False

theorem binLit_one {op : BinOp} {a b r : Value} (h : binLit op a b = some r) : r.oneCell' = true := by
  unfold binLit at h
  split at h
  · split at h
    · split at h <;> simp at h; subst h; rfl
    · split at h <;> simp at h; subst h; rfl
    · split at h
      · unfold intBin at h
        split at h <;> (try split at h) <;> simp at h <;> subst h <;> rfl
      · cases h
  · unfold strBin at h
    simp only at h
    split at h <;> (try split at h) <;> simp at h <;> subst h <;> rfl
  · split at h
    · unfold floatBin at h
      simp only at h
      split at h <;> simp at h <;> first | (subst h; rfl) | (obtain ⟨_, _, rfl⟩ := h; rfl)
    · cases h
  · cases h

theorem binLit_run {op : BinOp} {t : TypeId} {xo yo : Operand} {a b r : Value} (h : binLit op a b = some r) :
    (do eqGuard op t xo yo a b; binOp op t a b : Sem Value).run P w = .ok r w := by
  unfold binLit at h
  split at h
  · rename_i k x k' y
    have hg : eqGuard op t xo yo (.int k x) (.int k' y) = pure () := by unfold eqGuard; split <;> rfl
    rw [hg]
    split at h
    · split at h
      · cases h
      · rename_i hb
        cases h
        simp [binOp, Op.shift, hb]
    · split at h
      · cases h
      · rename_i hb
        cases h
        simp [binOp, Op.shift, hb]
    · rename_i h1 h2
      split at h
      · rename_i hk
        subst hk
        unfold intBin at h
        cases op <;> simp at h <;> (try (obtain ⟨hz, h⟩ := h)) <;> (try subst h) <;> simp_all [binOp, Op.intArith, Op.intDiv, Op.intBits, Op.intCmp]
      · cases h
  · rename_i x y
    have hg : eqGuard op t xo yo (.string x) (.string y) = pure () := by unfold eqGuard; split <;> rfl
    rw [hg]
    unfold strBin at h
    cases op <;> simp at h <;> (try (obtain ⟨hz, h⟩ := h)) <;> (try subst h) <;> simp_all [binOp, Op.stringOp]
  · rename_i k x k' y
    have hg : eqGuard op t xo yo (.float k x) (.float k' y) = pure () := by unfold eqGuard; split <;> rfl
    rw [hg]
    split at h
    · rename_i hk
      subst hk
      unfold floatBin at h
      cases op <;> simp at h <;> first | (subst h; simp_all [binOp, Op.floatCmp]; done) | (obtain ⟨r, hr, rfl⟩ := h; simp [binOp, Op.floatArith, hr])
    · cases h
  · cases h

theorem pBin_ok {op : BinOp} {t : TypeId} {xo yo : Operand} {x y : AV} {a b : Value} {K : AV → Prop} (hx : Rep G x a) (hy : Rep G y b) (k : pBin op x y K) :
    Yl P G w (do eqGuard op t xo yo a b; binOp op t a b) K := by
  unfold pBin at k
  split at k
  · simp only [Rep] at hx hy
    obtain ⟨rfl, _⟩ := hx
    obtain ⟨rfl, _⟩ := hy
    split at k
    · rename_i r hr
      exact ⟨_, r, binLit_run hr, by simp [Rep, binLit_one hr], k⟩
    · exact k.elim
  · exact k.elim

theorem equal_bool {t : TypeId} (ht : P.underlying t = some .bool) (a b : Bool) : (Op.equal t (.bool a) (.bool b)).run P w = .ok (a == b) w := by
  have : ∀ d, (Op.equalIn (d + 1) t (.bool a) (.bool b)).run P w = .ok (a == b) w := fun d => by simp [Op.equalIn, run_underlying ht]
  exact this 9999
theorem equal_ptr_nil {t e : TypeId} (ht : P.underlying t = some (.pointer e)) (a : Addr) : (Op.equal t (.pointer (some a)) (.pointer none)).run P w = .ok false w := by
  have : ∀ d, (Op.equalIn (d + 1) t (.pointer (some a)) (.pointer none)).run P w = .ok false w := fun d => by simp [Op.equalIn, run_underlying ht]
  exact this 9999
theorem equal_nil_nil {t e : TypeId} (ht : P.underlying t = some (.pointer e)) : (Op.equal t (.pointer none) (.pointer none)).run P w = .ok true w := by
  have : ∀ d, (Op.equalIn (d + 1) t (.pointer none) (.pointer none)).run P w = .ok true w := fun d => by simp [Op.equalIn, run_underlying ht]
  exact this 9999
/-- Bools. -/
def pBinB (op : BinOp) (x y : AV) (K : AV → Prop) : Prop :=
  match x, y with
  | .lit (.bool a), .lit (.bool b) => (match op with | .eql => K (B (a == b)) | .neq => K (B (!(a == b))) | _ => False)
  | _, _ => False
theorem pBinB_ok {op : BinOp} {t : TypeId} {xo yo : Operand} {x y : AV} {a b : Value} {K : AV → Prop} (ht : P.underlying t = some .bool) (hx : Rep G x a) (hy : Rep G y b) (k : pBinB op x y K) :
    Yl P G w (do eqGuard op t xo yo a b; binOp op t a b) K := by
  unfold pBinB at k
  split at k
  · rename_i p q
    simp only [Rep] at hx hy
    obtain ⟨rfl, _⟩ := hx
    obtain ⟨rfl, _⟩ := hy
    have hg : eqGuard op t xo yo (.bool p) (.bool q) = pure () := by unfold eqGuard; split <;> rfl
    rw [hg]
    cases op <;> simp only at k
    case eql => exact ⟨_, .bool (p == q), by simp [binOp, equal_bool ht], by simp [Rep, Value.oneCell'], k⟩
    case neq => exact ⟨_, .bool (!(p == q)), by simp [binOp, equal_bool ht], by simp [Rep, Value.oneCell'], k⟩
  · exact k.elim

/-- A pointer against nil. -/
def pBinP (op : BinOp) (x y : AV) (K : AV → Prop) : Prop :=
  match x, y with
  | .ptr _ _, .lit (.pointer none) => (match op with | .eql => K (B false) | .neq => K (B true) | _ => False)
  | .lit (.pointer none), .lit (.pointer none) => (match op with | .eql => K (B true) | .neq => K (B false) | _ => False)
  | _, _ => False
theorem pBinP_ok {op : BinOp} {t e : TypeId} {xo yo : Operand} {x y : AV} {a b : Value} {K : AV → Prop} (ht : P.underlying t = some (.pointer e)) (hx : Rep G x a) (hy : Rep G y b) (k : pBinP op x y K) :
    Yl P G w (do eqGuard op t xo yo a b; binOp op t a b) K := by
  unfold pBinP at k
  split at k
  · rename_i j off
    simp only [Rep] at hx hy
    obtain ⟨bb, o, _, rfl⟩ := hx
    obtain ⟨rfl, _⟩ := hy
    have hg : eqGuard op t xo yo (.pointer (some ⟨bb, o + off, none⟩)) (.pointer none) = pure () := by unfold eqGuard; split <;> rfl
    rw [hg]
    cases op <;> simp only at k
    case eql => exact ⟨_, .bool false, by simp [binOp, equal_ptr_nil ht], by simp [Rep, Value.oneCell'], k⟩
    case neq => exact ⟨_, .bool true, by simp [binOp, equal_ptr_nil ht], by simp [Rep, Value.oneCell'], k⟩
  · simp only [Rep] at hx hy
    obtain ⟨rfl, _⟩ := hx
    obtain ⟨rfl, _⟩ := hy
    have hg : eqGuard op t xo yo (.pointer none) (.pointer none) = pure () := by unfold eqGuard; split <;> rfl
    rw [hg]
    cases op <;> simp only at k
    case eql => exact ⟨_, .bool true, by simp [binOp, equal_nil_nil ht], by simp [Rep, Value.oneCell'], k⟩
    case neq => exact ⟨_, .bool false, by simp [binOp, equal_nil_nil ht], by simp [Rep, Value.oneCell'], k⟩
  · exact k.elim

def pUn (op : UnOp) (x : AV) (K : AV → Prop) : Prop :=
  match op, x with
  | .neg, .lit (.int k n) => K (.lit (.int k (k.wrap (0 - n))))
  | .xor, .lit (.int k n) => K (.lit (.int k (k.wrap ((BitVec.ofInt k.bits (if k.signed then -1 else k.max) ^^^ BitVec.ofInt k.bits n).toNat : Int))))
  | .not, .lit (.bool b) => K (B !b)
  | .neg, .lit (.float k b) => K (.lit (.float k (Op.negFloat k b)))
  | _, _ => False
theorem pUn_ok {op : UnOp} {x : AV} {a : Value} {K : AV → Prop} (hx : Rep G x a) (k : pUn op x K) : Yl P G w (Op.unary op a) K := by
  unfold pUn at k
  split at k
  · simp only [Rep] at hx
    obtain ⟨rfl, _⟩ := hx
    exact ⟨_, _, by simp [Op.unary, Op.intArith]; rfl, by simp [Rep, Value.oneCell'], k⟩
  · simp only [Rep] at hx
    obtain ⟨rfl, _⟩ := hx
    exact ⟨_, _, by simp [Op.unary, Op.intBits]; rfl, by simp [Rep, Value.oneCell'], k⟩
  · simp only [Rep] at hx
    obtain ⟨rfl, _⟩ := hx
    exact ⟨_, _, by simp [Op.unary]; rfl, by simp [Rep, Value.oneCell'], k⟩
  · simp only [Rep] at hx
    obtain ⟨rfl, _⟩ := hx
    exact ⟨_, _, by simp [Op.unary]; rfl, by simp [Rep, Value.oneCell'], k⟩
  · exact k.elim

/-! ### Conversions -/
def pConvII (kd : IntKind) (x : AV) (K : AV → Prop) : Prop := match x with | .lit (.int _ n) => K (.lit (.int kd (kd.wrap n))) | _ => False
def pConvIF (kd : FloatKind) (x : AV) (K : AV → Prop) : Prop := match x with | .lit (.int _ n) => K (.lit (.float kd (kd.nearest n))) | _ => False
def pConvSS (x : AV) (K : AV → Prop) : Prop := match x with | .lit (.string s) => K (S s) | _ => False
theorem pConvII_ok {s d : TypeId} {ks kd : IntKind} (hs : P.underlying s = some (.int ks)) (hd : P.underlying d = some (.int kd)) {x : AV} {a : Value} {K : AV → Prop} (hx : Rep G x a) (k : pConvII kd x K) : Yl P G w (convert s d a) K := by
  unfold pConvII at k
  split at k
  · simp only [Rep] at hx
    obtain ⟨rfl, _⟩ := hx
    exact ⟨_, _, by simp [convert, run_underlying hs, run_underlying hd, Conv.intToInt]; rfl, by simp [Rep, Value.oneCell'], k⟩
  · exact k.elim
theorem pConvIF_ok {s d : TypeId} {ks : IntKind} {kd : FloatKind} (hs : P.underlying s = some (.int ks)) (hd : P.underlying d = some (.float kd)) {x : AV} {a : Value} {K : AV → Prop} (hx : Rep G x a) (k : pConvIF kd x K) : Yl P G w (convert s d a) K := by
  unfold pConvIF at k
  split at k
  · simp only [Rep] at hx
    obtain ⟨rfl, _⟩ := hx
    exact ⟨_, _, by simp [convert, run_underlying hs, run_underlying hd, Conv.intToFloat]; rfl, by simp [Rep, Value.oneCell'], k⟩
  · exact k.elim
theorem pConvSS_ok {s d : TypeId} (hs : P.underlying s = some .string) (hd : P.underlying d = some .string) {x : AV} {a : Value} {K : AV → Prop} (hx : Rep G x a) (k : pConvSS x K) : Yl P G w (convert s d a) K := by
  unfold pConvSS at k
  split at k
  · simp only [Rep] at hx
    obtain ⟨rfl, _⟩ := hx
    exact ⟨_, _, by simp [convert, run_underlying hs, run_underlying hd]; rfl, by simp [Rep, Value.oneCell'], k⟩
  · exact k.elim

/-! ### Addresses, fields, reads -/
def pNil (v : AV) (K : AV → Prop) : Prop := match v with | .ptr i o => K (.ptr i o) | .cptr cs => K (.cptr cs) | .fn (.func f) fi ca => K (.fn (.func f) fi ca) | _ => False

def pFieldAddr (off : Nat) (v : AV) (K : AV → Prop) : Prop := match v with | .ptr i o => K (.ptr i (o + off)) | .cptr cs => K (.cptr (cs.drop off)) | _ => False
theorem pFieldAddr_ok {t : TypeId} {fs : Array Field} {f : Nat} {fd : Field} {i : TypeInfo} (ht : P.underlying t = some (.struct fs)) (hf : fs[f]? = some fd) (hi : P.info? fd.type = some i) (hz : i.size ≠ 0)
    {v : AV} {x : Value} {K : AV → Prop} (hx : Rep G v x) (k : pFieldAddr fd.offset v K) : Yl P G w (Instr.fieldAt t x f) K := by
  unfold pFieldAddr at k
  split at k
  · simp only [Rep] at hx
    obtain ⟨b, o, h1, rfl⟩ := hx
    refine ⟨_, _, by simp [Instr.fieldAt, run_underlying ht, hf, Instr.sureAddr, fieldPlace, sizeOf, typeInfo, hi, hz]; rfl, ?_, k⟩
    simp only [Rep]
    exact ⟨b, o, h1, by rw [add_plain, Nat.add_assoc]⟩
  · simp only [Rep] at hx
    obtain ⟨b, o, rfl, h1⟩ := hx
    refine ⟨_, _, by simp [Instr.fieldAt, run_underlying ht, hf, Instr.sureAddr, fieldPlace, sizeOf, typeInfo, hi, hz]; rfl, ?_, k⟩
    simp only [Rep]
    exact ⟨b, o + fd.offset, by rw [add_plain], h1.drop _⟩
  · exact k.elim

def aload (h : AHeap) (n : Nat) : AV → Option (List AV)
  | .ptr i o => match h[i]? with
    | some (.cells cs) => if o + n ≤ cs.length then some ((cs.drop o).take n) else none
    | _ => none
  | .cptr cs => if n ≤ cs.length then some (cs.take n) else none
  | _ => none
theorem aload_ok (s : Sim G h w) {n : Nat} {v : AV} {x : Value} (hx : Rep G v x) {l : List AV} (e : aload h n v = some l) :
    ∃ b o vs, x = .pointer (some ⟨b, o, none⟩) ∧ l.length = n ∧ RepL G l vs ∧ ∀ j u, vs[j]? = some u → w.cell? ⟨b, o + j, none⟩ = some u := by
  unfold aload at e
  split at e
  · rename_i i o
    split at e
    · rename_i cs hcs
      split at e
      · rename_i hle
        cases e
        simp only [Rep] at hx
        obtain ⟨b, o', h1, rfl⟩ := hx
        obtain ⟨b2, o2, arr, el, lo, hi, e1, e2, e3, e4, e5, e6⟩ := s.obj i _ hcs
        rw [h1] at e1
        cases e1
        refine ⟨b, o' + o, (arr.toList.drop (o' + o)).take n, rfl, by simp; omega, ?_, ?_⟩
        · refine repL_of_at (by simp; omega) fun j a ha => ?_
          rw [List.getElem?_take] at ha ⊢
          split at ha
          · rename_i hj
            rw [if_pos hj]
            rw [List.getElem?_drop] at ha ⊢
            obtain ⟨v, h2, h3⟩ := e6 (o + j) a ha
            exact ⟨v, by rw [Array.getElem?_toList, ← h2]; congr 1; omega, h3⟩
          · cases ha
        · intro j u hu
          rw [List.getElem?_take] at hu
          split at hu
          · rw [List.getElem?_drop, Array.getElem?_toList] at hu
            simp [World.cell?, e2, hu]
          · cases hu
      · cases e
    · cases e
  · rename_i cs
    split at e
    · rename_i hle
      cases e
      simp only [Rep] at hx
      obtain ⟨b, o, rfl, h1⟩ := hx
      have hat := (h1.take n)
      -- the values
      have : ∀ j, j < n → ∃ u, G.F b (o + j) = some u ∧ ∀ a, cs[j]? = some a → Rep G a u := fun j hj => by
        have hl : j < cs.length := by omega
        obtain ⟨u, h2, h3⟩ := h1.at j cs[j] (by simp [hl])
        exact ⟨u, h2, fun a ha => by simp [hl] at ha; subst ha; exact h3⟩
      refine ⟨b, o, (List.range n).map fun j => (G.F b (o + j)).getD undef, rfl, by simp; omega, ?_, ?_⟩
      · refine repL_of_at (by simp; omega) fun j a ha => ?_
        rw [List.getElem?_take] at ha
        split at ha
        · rename_i hj
          obtain ⟨u, h2, h3⟩ := this j hj
          exact ⟨u, by simp [hj, h2], h3 a ha⟩
        · cases ha
      · intro j u hu
        by_cases hj : j < n
        · obtain ⟨u', h2, _⟩ := this j hj
          simp [hj, h2] at hu
          subst hu
          exact s.frz b (o + j) _ h2
        · simp [hj] at hu
    · cases e
  · cases e

def pLoadA (n : Nat) (v : AV) (h : AHeap) (K : AV → Prop) : Prop := match aload h n v with | some l => K (.agg l) | none => False
def pLoad1 (v : AV) (h : AHeap) (K : AV → Prop) : Prop := match aload h 1 v with | some [a] => K a | _ => False

def isAggD : TypeDesc → Bool
  | .struct _ => true
  | .array _ _ => true
  | _ => false
theorem run_isAgg {t : TypeId} {d : TypeDesc} (h : P.underlying t = some d) : (isAgg t).run P w = .ok (isAggD d) w := by
  unfold isAgg isAggD
  simp only [Sem.run_bind, run_underlying h, Result.andThen_ok]
  cases d <;> rfl

theorem pLoadA_ok (s : Sim G h w) {t : TypeId} {d : TypeDesc} {i : TypeInfo} (ht : P.underlying t = some d) (hd : isAggD d = true) (hi : P.info? t = some i) {v : AV} {x : Value} {K : AV → Prop} (hx : Rep G v x) (k : pLoadA i.size v h K) :
    Yl P G w (Instr.loadAt t x) K := by
  unfold pLoadA at k
  split at k
  · rename_i l hl
    obtain ⟨b, o, vs, rfl, h1, h2, h3⟩ := aload_ok s hx hl
    have hlen : vs.length = i.size := by rw [h2.length, h1]
    have hc := run_loadCells_list (P := P) w ⟨b, o, none⟩ vs (fun j v hj => by rw [add_plain]; exact h3 j v hj)
    rw [hlen] at hc
    refine ⟨_, .agg vs.toArray, ?_, ?_, k⟩
    · simp [Instr.loadAt, Instr.sureAddr, loadVar, run_isAgg ht, hd, sizeOf, typeInfo, hi, hc]
    · simp only [Rep]; exact ⟨vs, rfl, h2⟩
  · exact k.elim
theorem pLoad1_ok (s : Sim G h w) {t : TypeId} {d : TypeDesc} (ht : P.underlying t = some d) (hd : isAggD d = false) {v : AV} {x : Value} {K : AV → Prop} (hx : Rep G v x) (k : pLoad1 v h K) :
    Yl P G w (Instr.loadAt t x) K := by
  unfold pLoad1 at k
  split at k
  · rename_i a hl
    obtain ⟨b, o, vs, rfl, h1, h2, h3⟩ := aload_ok s hx hl
    simp only [RepL] at h2
    obtain ⟨u, ws, rfl, h4, rfl⟩ := h2
    have hc := h3 0 u (by simp)
    rw [Nat.add_zero] at hc
    refine ⟨a, u, ?_, h4, k⟩
    simp [Instr.loadAt, Instr.sureAddr, loadVar, run_isAgg ht, hd, hc]
  · exact k.elim

/-- A part of a value. -/
def pPartA (off n : Nat) (v : AV) (K : AV → Prop) : Prop := match v with | .agg cs => K (.agg ((cs.drop off).take n)) | _ => False
def pPart1 (off : Nat) (v : AV) (K : AV → Prop) : Prop := match v with | .agg cs => (match cs[off]? with | some a => K a | none => False) | _ => False
theorem pPartA_ok {t : TypeId} {d : TypeDesc} {i : TypeInfo} {off : Nat} (ht : P.underlying t = some d) (hd : isAggD d = true) (hi : P.info? t = some i) {v : AV} {x : Value} {K : AV → Prop} (hx : Rep G v x) (k : pPartA off i.size v K) :
    Yl P G w (do part t (← asAgg x) off) K := by
  unfold pPartA at k
  split at k
  · simp only [Rep] at hx
    obtain ⟨vs, rfl, h1⟩ := hx
    refine ⟨_, .agg ((vs.drop off).take i.size).toArray, ?_, ?_, k⟩
    · simp [asAgg, part, run_isAgg ht, hd, sizeOf, typeInfo, hi, List.extract_eq_take_drop]
    · simp only [Rep]; exact ⟨_, rfl, (h1.drop off).take _⟩
  · exact k.elim
theorem pPart1_ok {t : TypeId} {d : TypeDesc} {off : Nat} (ht : P.underlying t = some d) (hd : isAggD d = false) {v : AV} {x : Value} {K : AV → Prop} (hx : Rep G v x) (k : pPart1 off v K) :
    Yl P G w (do part t (← asAgg x) off) K := by
  unfold pPart1 at k
  split at k
  · simp only [Rep] at hx
    obtain ⟨vs, rfl, h1⟩ := hx
    split at k
    · rename_i a ha
      obtain ⟨u, h2, h3⟩ := h1.at _ a ha
      refine ⟨a, u, ?_, h3, k⟩
      simp [asAgg, part, run_isAgg ht, hd, h2]
    · exact k.elim
  · exact k.elim
end
end Go.Proofs.YtmocchnodigmlaaGreatDoor.AL
