import Derived.Test.YtmocchnodigmlaaGreatDoorAL22e
import Derived.Test.YtmocchnodigmlaaGreatDoorAL10x
set_option linter.all false
set_option autoImplicit true
set_option relaxedAutoImplicit true
set_option linter.unusedVariables false
set_option linter.unusedSimpArgs false
/-! Operations, made ready to be run. -/
namespace Go.Proofs.YtmocchnodigmlaaGreatDoor.AL
noncomputable section
abbrev ET := E16
abbrev CallB := FuncId → List AV → HT → Nat → (AV → HT → Nat → Bool) → Bool
structure ClX where
  f : ET → (AV → Bool) → Bool
structure ClL where
  f : ET → (List AV → Bool) → Bool
structure ClP where
  f : ET → (Option AV → Bool) → Bool
structure ClO where
  f : CallB → ET → HT → Nat → (AV → HT → Nat → Bool) → Bool
def oM (o : Option AV) (K : AV → Bool) : Bool := match o with | some v => K v | none => false
def compX (x : Operand) : ClX := match x with
  | .tmp s => ⟨fun e K => oM ((lens s).g e) K⟩
  | .const v => match okV v with
    | true => ⟨fun _ K => K (ofV v)⟩
    | false => ⟨fun _ _ => false⟩
  | .global _ => ⟨fun _ _ => false⟩
  | .func f => ⟨fun _ K => K (.fn (.func f) [] [])⟩
def compXs (l : List Operand) : ClL := match l with
  | [] => ⟨fun _ K => K []⟩
  | x :: xs => ⟨fun e K => (compX x).f e fun v => (compXs xs).f e fun vs => K (v :: vs)⟩
def compXo (x : Option Operand) : ClP := match x with
  | none => ⟨fun _ K => K none⟩
  | some x => ⟨fun e K => (compX x).f e fun v => K (some v)⟩
def noO : ClO := ⟨fun _ _ _ _ _ => false⟩
/-- A step that changes nothing, of one value. -/
def q1 (x : Operand) (g : AV → (AV → Bool) → Bool) : ClO := ⟨fun _ e t n K => (compX x).f e fun v => g v fun r => K r t n⟩
def q1t (x : Operand) (g : AV → HT → (AV → Bool) → Bool) : ClO := ⟨fun _ e t n K => (compX x).f e fun v => g v t fun r => K r t n⟩
def q2 (x y : Operand) (g : AV → AV → (AV → Bool) → Bool) : ClO := ⟨fun _ e t n K => (compX x).f e fun v => (compX y).f e fun u => g v u fun r => K r t n⟩
def q2t (x y : Operand) (g : AV → AV → HT → (AV → Bool) → Bool) : ClO := ⟨fun _ e t n K => (compX x).f e fun v => (compX y).f e fun u => g v u t fun r => K r t n⟩
def e1 (x : Operand) (g : AV → HT → Nat → (AV → HT → Nat → Bool) → Bool) : ClO := ⟨fun _ e t n K => (compX x).f e fun v => g v t n K⟩
def e2 (x y : Operand) (g : AV → AV → HT → Nat → (AV → HT → Nat → Bool) → Bool) : ClO := ⟨fun _ e t n K => (compX x).f e fun v => (compX y).f e fun u => g v u t n K⟩
def s2 (x y : Operand) (g : AV → AV → HT → Nat → (HT → Nat → Bool) → Bool) : ClO := ⟨fun _ e t n K => (compX x).f e fun v => (compX y).f e fun u => g v u t n fun t n => K (.tup []) t n⟩
def s3 (x y z : Operand) (g : AV → AV → AV → HT → Nat → (HT → Nat → Bool) → Bool) : ClO := ⟨fun _ e t n K => (compX x).f e fun v => (compX y).f e fun u => (compX z).f e fun w => g v u w t n fun t n => K (.tup []) t n⟩

def pickB (c a b : AV) (K : AV → Bool) : Bool := match c with | .lit (.bool true) => K a | .lit (.bool false) => K b | _ => false
def cBuild (P : Program) (t : TypeId) (is : List Nat) (xs : List Operand) : ClO :=
  match P.underlying t, P.info? t with
  | some (.struct fs), some i => (match i.zero, fieldPlaces P fs.toList with
    | some z, some l => (match okV z with
      | true => ⟨fun _ e t n K => (compXs xs).f e fun vs => match placed (fun j => l[j]?) (is.zip vs) with | some qs => bBuild (ofV z).cells qs fun r => K r t n | none => false⟩
      | false => noO)
    | _, _ => noO)
  | _, _ => noO
def cBuildSlice (P : Program) (t : TypeId) (m : Nat) (is : List Nat) (xs : List Operand) : ClO :=
  match P.underlying t with
  | some (.slice e) => (match P.info? e with
    | some i => (match i.zero with
      | some _ => (match is == List.range m && decide (m * i.size ≤ 16777216) with
        | true => ⟨fun _ e t n K => (compXs xs).f e fun vs => bBuildSlice m i.size vs fun r => K r t n⟩
        | false => noO)
      | none => noO)
    | none => noO)
  | _ => noO
def cLoad (P : Program) (t : TypeId) (x : Operand) : ClO :=
  match P.underlying t, P.info? t with
  | some d, some i => (match isAggD d with | true => q1t x (tLoadA i.size) | false => q1t x tLoad1)
  | _, _ => noO
def cBin (P : Program) (op : BinOp) (t : TypeId) (x y : Operand) : ClO :=
  match P.underlying t with
  | some .bool => q2 x y (bBinB op)
  | some (.pointer _) => q2 x y (bBinP op)
  | some (.int _) => q2 x y (tBin op)
  | some .string => q2 x y (tBin op)
  | some (.float _) => q2 x y (tBin op)
  | _ => noO
def cConv (P : Program) (s d : TypeId) (x : Operand) : ClO :=
  match P.underlying s, P.underlying d with
  | some (.int _), some (.int k) => q1 x (tConvII k)
  | some (.int _), some (.float k) => q1 x (tConvIF k)
  | some .string, some .string => q1 x bConvSS
  | _, _ => noO
def cSlice (P : Program) (t : TypeId) (x : Operand) (lo hi mx : Option Operand) : ClO :=
  match P.underlying t, mx with
  | some .string, none => ⟨fun _ e t n K => (compX x).f e fun v => (compXo lo).f e fun l => (compXo hi).f e fun u => tSliceS v l u fun r => K r t n⟩
  | some (.slice el), none => (match P.info? el with | some i => ⟨fun _ e t n K => (compX x).f e fun v => (compXo lo).f e fun l => (compXo hi).f e fun u => bSliceL i.size v l u fun r => K r t n⟩ | none => noO)
  | some (.slice el), some m => ⟨fun _ e t n K => (compX x).f e fun v => (compXo lo).f e fun l => (compXo hi).f e fun u => (compX m).f e fun mv => (match P.info? el, l, u, mv with | some _, none, some (.lit (.int _ 0)), .lit (.int _ 0) => bSliceZ v fun r => K r t n | _, _, _, _ => false)⟩
  | _, _ => noO
def cFieldAddr (P : Program) (t : TypeId) (x : Operand) (f : Nat) : ClO :=
  match P.underlying t with
  | some (.struct fs) => (match fs[f]? with
    | some fd => (match P.info? fd.type with | some i => (match i.size with | 0 => noO | _ + 1 => q1 x (tFieldAddr fd.offset)) | none => noO)
    | none => noO)
  | _ => noO
def cPart (P : Program) (t : TypeId) (off : Nat) (x : Operand) : ClO :=
  match P.underlying t, P.info? t with
  | some d, some i => (match isAggD d with | true => q1 x (bPartA off i.size) | false => q1 x (bPart1 off))
  | _, _ => noO
def cField (P : Program) (t : TypeId) (x : Operand) (f : Nat) : ClO :=
  match P.underlying t with
  | some (.struct fs) => (match fs[f]? with | some fd => cPart P fd.type fd.offset x | none => noO)
  | _ => noO
def cIndexAddr (P : Program) (t : TypeId) (x i : Operand) : ClO :=
  match P.underlying t with
  | some (.slice e) => (match P.info? e with | some ei => q2 x i (tIndexAddr ei.size) | none => noO)
  | some (.array m e) => (match P.info? e with | some ei => q2 x i (bIndexAddrA m ei.size) | none => noO)
  | _ => noO
def cIndex (P : Program) (t : TypeId) (x i : Operand) : ClO :=
  match P.underlying t with
  | some .string => q2 x i tIndexS
  | _ => noO
def cLen (P : Program) (t : TypeId) (x : Operand) : ClO :=
  match P.underlying t with
  | some .string => q1 x tLenS
  | some (.slice _) => q1 x bLenL
  | some (.map _ _) => q1t x tLenM
  | _ => noO
def cAppend (P : Program) (t t2 : TypeId) (x y : Operand) : ClO :=
  match P.underlying t, P.underlying t2 with
  | some (.slice e), some d2 => (match P.info? e with
    | some i => (match appOk i d2 with | true => e2 x y (tAppend i.size i.bytes) | false => noO)
    | none => noO)
  | _, _ => noO
def cNew (P : Program) (t : TypeId) : ClO :=
  match P.info? t with
  | some i => (match i.zero with | some z => (match okV z with | true => ⟨fun _ _ t n K => tNew (ofV z).cells t n K⟩ | false => noO) | none => noO)
  | none => noO
def cStore (P : Program) (t : TypeId) (x u : Operand) : ClO :=
  match P.info? t with
  | some i => s2 x u (tStore i.size)
  | none => noO
def cIface (P : Program) (t : TypeId) (x : Operand) : ClO :=
  match P.underlying t with
  | some (.interface _) => noO
  | some _ => q1 x (bIface t)
  | none => noO
def callV (c : CallB) (v : AV) (vs : List AV) (t : HT) (n : Nat) (K : AV → HT → Nat → Bool) : Bool :=
  match v with
  | .fn (.func f) fi ca => c f (fi ++ vs ++ ca) t n K
  | _ => false
def cCall (P : Program) (c : Call) : ClO := match c.callee with
  | .value f => ⟨fun call e t n K => (compXs c.args.toList).f e fun vs => (compX f).f e fun v => callV call v vs t n K⟩
  | .builtin .len => (match c.args.toList, c.argTypes.toList with | [x], [t] => cLen P t x | _, _ => noO)
  | .builtin .append => (match c.args.toList, c.argTypes.toList with | [x, y], [t, t2] => cAppend P t t2 x y | _, _ => noO)
  | .builtin .max => (match c.args.toList with | [x, y] => q2 x y bMax | _ => noO)
  | .builtin .min => (match c.args.toList with | [x, y] => q2 x y bMin | _ => noO)
  | _ => noO
/-- The first operations. -/
def comp1 (P : Program) (op : Op) : ClO := match op with
  | .move x => ⟨fun _ e t n K => (compX x).f e fun v => K v t n⟩
  | .assign x => ⟨fun _ e t n K => (compX x).f e fun v => K v t n⟩
  | .pick c a b => ⟨fun _ e t n K => (compX c).f e fun cv => (compX a).f e fun av => (compX b).f e fun bv => pickB cv av bv fun r => K r t n⟩
  | .alloc e => cNew P e
  | .box _ x => e1 x tBox
  | .build t ps => cBuild P t (ps.toList.map (·.1)) (ps.toList.map (·.2))
  | .buildSlice t m ps => cBuildSlice P t m (ps.toList.map (·.1)) (ps.toList.map (·.2))
  | .load t x => cLoad P t x
  | .store t x u => cStore P t x u
  | .nilCheck x => q1 x bNil
  | .binOp op t x y _ => cBin P op t x y
  | .unOp op _ x => q1 x (tUn op)
  | .convert s d x => cConv P s d x
  | .makeInterface t x => cIface P t x
  | .makeFunc f fi ca => ⟨fun _ e t n K => (compXs fi.toList).f e fun vs => (compXs ca.toList).f e fun ws => K (.fn f vs ws) t n⟩
  | .slice t x lo hi mx => cSlice P t x lo hi mx
  | .fieldAddr t x f => cFieldAddr P t x f
  | .field t x f => cField P t x f
  | .indexAddr t x i => cIndexAddr P t x i
  | .index t x i => cIndex P t x i
  | .extract x i => q1 x (bExtract i)
  | .call c => cCall P c
  | _ => noO

/-! ### The others -/
def cMapT (P : Program) (t : TypeId) (g : TypeDesc → Value → ClO) : ClO :=
  match P.underlying t with
  | some (.map kt et) => (match P.underlying kt, P.info? et with
    | some d, some i => (match i.zero with | some z => (match okV z with | true => g d z | false => noO) | none => noO)
    | _, _ => noO)
  | _ => noO
def cKeyT (P : Program) (t : TypeId) (g : TypeDesc → ClO) : ClO :=
  match P.underlying t with
  | some (.map kt _) => (match P.underlying kt with | some d => g d | none => noO)
  | _ => noO
def cNilCmp (P : Program) (op : BinOp) (t : TypeId) (x y : Operand) : ClO :=
  match P.underlying t, y with
  | some (.slice _), .const (.slice none 0 0) => q1 x (bIsNilS op)
  | some (.map _ _), .const (.map none) => q1 x (bIsNilM op)
  | some (.interface _), .const .nilIface => q1 x (bIsNilI op)
  | some (.func _ _ _), .const .nilFunc => q1 x (bIsNilF op)
  | _, _ => noO
def compN (P : Program) (op : Op) : ClO := match op with
  | .makeMap _ none => ⟨fun _ _ t n K => tMakeMap t n K⟩
  | .lookup t x i ok => cMapT P t fun d z => q2t x i (tLookup d ok (ofV z))
  | .mapUpdate t m k v => cKeyT P t fun d => s3 m k v (tMapUpdate d)
  | .insert t m k v => cKeyT P t fun d => s3 m k v (tMapUpdate d)
  | .mapEntry t m k => cMapT P t fun d z => e2 m k (tMapEntry d (ofV z))
  | .entryStore t m s v => s3 m s v tEntryStore
  | .range t x => (match P.underlying t with
    | some .string => e1 x tRangeS
    | some (.map _ _) => e1 x tRangeM
    | _ => noO)
  | .next x b => (match b with | true => e1 x tNextS | false => e1 x tNextM)
  | .entry x => q1t x tEntry
  | .makeSlice t l c => (match P.underlying t with
    | some (.slice e) => (match P.info? e with
      | some i => (match i.zero with | some z => (match i.size == 1 && z.oneCell' with | true => e2 l c (tMakeSlice i.bytes (ofV1 z)) | false => noO) | none => noO)
      | none => noO)
    | _ => noO)
  | .convert s d x => (match P.underlying s, P.underlying d with
    | some (.slice e), some .string => (match isByteT P e with | true => q1t x tBytesStr | false => noO)
    | some .string, some (.slice e) => (match isByteT P e with | true => e1 x tStrBytes | false => noO)
    | _, _ => noO)
  | .binOp op t x y _ => (match P.underlying t with
    | some (.struct fs) => (match flatS P fs.toList 0 with
      | some ds => (match !P.stoodInHeld t && !P.eqGuardType P.depth t with | true => q2 x y (bEqS op ds) | false => noO)
      | none => noO)
    | _ => cNilCmp P op t x y)
  | .call c => (match c.callee with
    | .builtin .delete => (match c.args.toList, c.argTypes.toList with
      | [m, k], t :: _ => cKeyT P t fun d => s2 m k (tDelete d)
      | _, _ => noO)
    | _ => noO)
  | _ => noO
def compB (P : Program) (op : Op) : ClO := match isNew P op with
  | true => compN P op
  | false => comp1 P op
def idxL : List UInt8 → UInt8 → Nat → Int
  | [], _, _ => .negSucc 0
  | b :: l, c, i => @Bool.casesOn (fun _ => Int) (uEq b c) (idxL l c (Nat.succ i)) (.ofNat i)
def cntL : List UInt8 → UInt8 → Nat → Nat
  | [], _, n => n
  | b :: l, c, n => cntL l c (@Bool.casesOn (fun _ => Nat) (uEq b c) n (Nat.succ n))
def tExt (e : Ext) (vs : List AV) (K : AV → Bool) : Bool :=
  match e, vs with
  | .index, [.lit (.string s), .lit (.int .u8 c)] => fI (idxL s.data.toList c.toNat.toUInt8 0) fun r => K (I r)
  | .count, [.lit (.string s), .lit (.int .u8 c)] => fN (cntL s.data.toList c.toNat.toUInt8 0) fun r => K (I (.ofNat r))
  | .bits, [.lit (.float .f64 b)] => K (.lit (.int .u64 (.ofNat b)))
  | .frombits, [.lit (.int .u64 n)] => fN n.toNat fun m => K (.lit (.float .f64 m))
  | _, _ => false
def minN (m n : Nat) : Nat := @Bool.casesOn (fun _ => Nat) (Nat.ble m n) n m
def tCopy (size : Nat) (v x : AV) (t : HT) (n : Nat) (K : AV → HT → Nat → Bool) : Bool :=
  match tElems t size x with
  | none => false
  | some (m, xs) => match v with
    | .sl i off len sz => (match t.get i with
      | some (.cells cs) => decide (sz = size ∧ off + len * size ≤ cs.length ∧ xs.all AV.one = true) && fN (minN m len) fun l => K (I (.ofNat l)) (t.set (.cells (splice cs off (xs.take (l * size)))) i) n
      | _ => false)
    | .full n0 _ => bA (Nat.beq (minN m n0) 0) (K (I 0) t n)
    | .snap n0 _ => bA (Nat.beq (minN m n0) 0) (K (I 0) t n)
    | _ => false
def tClear (size : Nat) (u v : AV) (t : HT) (n : Nat) (K : HT → Nat → Bool) : Bool :=
  match v with
  | .sl i off len sz => (match t.get i with
    | some (.cells cs) => decide (u.isTup = false ∧ u.cells.length = size ∧ sz = size ∧ off + len * size ≤ cs.length ∧ u.cells.all AV.one = true) && K (t.set (.cells (splice cs off (List.replicate len u.cells).flatten)) i) n
    | _ => false)
  | .full 0 _ => K t n
  | .snap 0 _ => K t n
  | _ => false
def cRowT (P : Program) (ts : Array TypeId) (K : Value → TypeInfo → ClO) : ClO :=
  match ts.toList with
  | t :: _ => (match P.underlying t with
    | some (.slice e) => (match P.info? e with
      | some i => (match i.zero with | some z => (match okV z with | true => K z i | false => noO) | none => noO)
      | none => noO)
    | _ => noO)
  | _ => noO
abbrev TabB := Nat → Option (List AV)
def cLoadC (P : Program) (t : TypeId) (cs : List AV) : ClO :=
  match P.underlying t, P.info? t with
  | some d, some i => (match isAggD d with | true => ⟨fun _ _ t n K => tLoadA i.size (.cptr cs) t fun r => K r t n⟩ | false => ⟨fun _ _ t n K => tLoad1 (.cptr cs) t fun r => K r t n⟩)
  | _, _ => noO
def compXX (P : Program) (tb : TabB) (op : Op) : ClO := match op with
  | .call c => (match c.callee with
    | .value (.func f) => (match extOf P f with
      | some x => ⟨fun _ e t n K => (compXs c.args.toList).f e fun vs => tExt x vs fun r => K r t n⟩
      | none => noO)
    | .builtin .copy => cRowT P c.argTypes fun _ i => (match c.args.toList with | [x, y] => e2 x y (tCopy i.size) | _ => noO)
    | .builtin .clear => cRowT P c.argTypes fun z i => (match c.args.toList with | [x] => ⟨fun _ e t n K => (compX x).f e fun v => tClear i.size (ofV z) v t n fun t n => K (.tup []) t n⟩ | _ => noO)
    | _ => noO)
  | .indexAddr t (.global g) i => (match tb g with
    | some cs => (match P.underlying t with
      | some (.array m e) => (match P.info? e with | some ei => q1 i fun iv => bIndexAddrA m ei.size (.cptr cs) iv | none => noO)
      | _ => noO)
    | none => noO)
  | .load t (.global g) => (match tb g with
    | some cs => cLoadC P t cs
    | none => noO)
  | _ => noO
def compO (P : Program) (tb : TabB) (op : Op) : ClO := match isX P op with
  | true => compXX P tb op
  | false => compB P op

/-! ### They are what they are -/
def ER (e : ET) (env : Env) : Prop := ∀ k v, (lens k).g e = some v → AL.get env k = some v
theorem ER.put {e : ET} {env : Env} (r : ER e env) (d : Nat) (v : AV) : ER ((lens d).s e v) ((d, v) :: env) := fun k u h => by
  simp only [AL.get]
  rcases lens_get h with ⟨rfl, rfl⟩ | ⟨hn, h⟩
  · rw [if_pos rfl]
  · rw [if_neg (Ne.symm hn)]; exact r k u h
theorem compX_ok {e : ET} {env : Env} (r : ER e env) {x : Operand} {K : AV → Bool} (k : (compX x).f e K = true) : ∃ v, opv env x = some v ∧ K v = true := by
  cases x with
  | tmp s =>
    simp only [compX, oM] at k
    split at k
    · rename_i v hv; exact ⟨v, by rw [opv]; exact r s v hv, k⟩
    · cases k
  | const v =>
    simp only [compX] at k
    cases h : okV v
    · rw [h] at k; cases k
    · rw [h] at k; exact ⟨_, by simp [opv, h], k⟩
  | global g => cases k
  | func f => exact ⟨_, rfl, k⟩
theorem compXs_ok {e : ET} {env : Env} (r : ER e env) : ∀ {xs : List Operand} {K : List AV → Bool}, (compXs xs).f e K = true → ∃ vs, opvs env xs = some vs ∧ K vs = true
  | [], K, k => ⟨[], rfl, k⟩
  | x :: xs, K, k => by
    simp only [compXs] at k
    obtain ⟨v, h1, k⟩ := compX_ok r k
    obtain ⟨vs, h2, k⟩ := compXs_ok r k
    exact ⟨_, by simp [opvs, h1, h2], k⟩
theorem compXo_ok {e : ET} {env : Env} (r : ER e env) {x : Option Operand} {K : Option AV → Bool} (k : (compXo x).f e K = true) : ∃ v, optO env x = some v ∧ K v = true := by
  cases x with
  | none => exact ⟨none, rfl, k⟩
  | some x =>
    simp only [compXo] at k
    obtain ⟨v, h1, k⟩ := compX_ok r k
    exact ⟨some v, by simp [optO, h1], k⟩
end
end Go.Proofs.YtmocchnodigmlaaGreatDoor.AL
