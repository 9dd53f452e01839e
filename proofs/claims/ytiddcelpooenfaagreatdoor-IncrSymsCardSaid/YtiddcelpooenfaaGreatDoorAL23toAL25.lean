import Derived.Test.YtiddcelpooenfaaGreatDoorAL20toAL22e
import Derived.Test.YtiddcelpooenfaaGreatDoorAL10ntoAL13v
import Derived.ScopeJumps
set_option linter.all false
set_option autoImplicit true
set_option relaxedAutoImplicit true
set_option maxRecDepth 100000
namespace Go.Proofs.YtiddcelpooenfaaGreatDoor.AL
section
noncomputable section
abbrev ET := E16
abbrev CallB := FuncId → List AV → HT → Nat → (AV → HT → Nat → Bool) → Bool
structure ClX where
  f : ET → (AV → Bool) → Bool
structure ClL where
  f : ET → (List AV → Bool) → Bool
structure ClP where
  f : ET → (Option AV → Bool) → Bool
structure ClO where
  f : CallB → ET → HT → Nat → (AV → HT → Nat → Bool) → Bool
def oM (o : Option AV) (K : AV → Bool) : Bool := match o with | some v => K v | none => false
def compX (x : Operand) : ClX := match x with
  | .tmp s => ⟨fun e K => oM ((lens s).g e) K⟩
  | .const v => match okV v with
    | true => ⟨fun _ K => K (ofV v)⟩
    | false => ⟨fun _ _ => false⟩
  | .global _ => ⟨fun _ _ => false⟩
  | .func f => ⟨fun _ K => K (.fn (.func f) [] [])⟩
def compXs (l : List Operand) : ClL := match l with
  | [] => ⟨fun _ K => K []⟩
  | x :: xs => ⟨fun e K => (compX x).f e fun v => (compXs xs).f e fun vs => K (v :: vs)⟩
def compXo (x : Option Operand) : ClP := match x with
  | none => ⟨fun _ K => K none⟩
  | some x => ⟨fun e K => (compX x).f e fun v => K (some v)⟩
def noO : ClO := ⟨fun _ _ _ _ _ => false⟩
def q1 (x : Operand) (g : AV → (AV → Bool) → Bool) : ClO := ⟨fun _ e t n K => (compX x).f e fun v => g v fun r => K r t n⟩
def q1t (x : Operand) (g : AV → HT → (AV → Bool) → Bool) : ClO := ⟨fun _ e t n K => (compX x).f e fun v => g v t fun r => K r t n⟩
def q2 (x y : Operand) (g : AV → AV → (AV → Bool) → Bool) : ClO := ⟨fun _ e t n K => (compX x).f e fun v => (compX y).f e fun u => g v u fun r => K r t n⟩
def q2t (x y : Operand) (g : AV → AV → HT → (AV → Bool) → Bool) : ClO := ⟨fun _ e t n K => (compX x).f e fun v => (compX y).f e fun u => g v u t fun r => K r t n⟩
def e1 (x : Operand) (g : AV → HT → Nat → (AV → HT → Nat → Bool) → Bool) : ClO := ⟨fun _ e t n K => (compX x).f e fun v => g v t n K⟩
def e2 (x y : Operand) (g : AV → AV → HT → Nat → (AV → HT → Nat → Bool) → Bool) : ClO := ⟨fun _ e t n K => (compX x).f e fun v => (compX y).f e fun u => g v u t n K⟩
def s2 (x y : Operand) (g : AV → AV → HT → Nat → (HT → Nat → Bool) → Bool) : ClO := ⟨fun _ e t n K => (compX x).f e fun v => (compX y).f e fun u => g v u t n fun t n => K (.tup []) t n⟩
def s3 (x y z : Operand) (g : AV → AV → AV → HT → Nat → (HT → Nat → Bool) → Bool) : ClO := ⟨fun _ e t n K => (compX x).f e fun v => (compX y).f e fun u => (compX z).f e fun w => g v u w t n fun t n => K (.tup []) t n⟩
def pickB (c a b : AV) (K : AV → Bool) : Bool := match c with | .lit (.bool true) => K a | .lit (.bool false) => K b | _ => false
def cBuild (P : Program) (t : TypeId) (is : List Nat) (xs : List Operand) : ClO :=
  match P.underlying t, P.info? t with
  | some (.struct fs), some i => (match i.zero, fieldPlaces P fs.toList with
    | some z, some l => (match okV z with
      | true => ⟨fun _ e t n K => (compXs xs).f e fun vs => match placed (fun j => l[j]?) (is.zip vs) with | some qs => bBuild (ofV z).cells qs fun r => K r t n | none => false⟩
      | false => noO)
    | _, _ => noO)
  | _, _ => noO
def cBuildSlice (P : Program) (t : TypeId) (m : Nat) (is : List Nat) (xs : List Operand) : ClO :=
  match P.underlying t with
  | some (.slice e) => (match P.info? e with
    | some i => (match i.zero with
      | some _ => (match is == List.range m && decide (m * i.size ≤ 16777216) with
        | true => ⟨fun _ e t n K => (compXs xs).f e fun vs => bBuildSlice m i.size vs fun r => K r t n⟩
        | false => noO)
      | none => noO)
    | none => noO)
  | _ => noO
def cLoad (P : Program) (t : TypeId) (x : Operand) : ClO :=
  match P.underlying t, P.info? t with
  | some d, some i => (match isAggD d with | true => q1t x (tLoadA i.size) | false => q1t x tLoad1)
  | _, _ => noO
def cBin (P : Program) (op : BinOp) (t : TypeId) (x y : Operand) : ClO :=
  match P.underlying t with
  | some .bool => q2 x y (bBinB op)
  | some (.pointer _) => q2 x y (bBinP op)
  | some (.int _) => q2 x y (tBin op)
  | some .string => q2 x y (tBin op)
  | some (.float _) => q2 x y (tBin op)
  | _ => noO
def cConv (P : Program) (s d : TypeId) (x : Operand) : ClO :=
  match P.underlying s, P.underlying d with
  | some (.int _), some (.int k) => q1 x (tConvII k)
  | some (.int _), some (.float k) => q1 x (tConvIF k)
  | some .string, some .string => q1 x bConvSS
  | _, _ => noO
def cSlice (P : Program) (t : TypeId) (x : Operand) (lo hi mx : Option Operand) : ClO :=
  match P.underlying t, mx with
  | some .string, none => ⟨fun _ e t n K => (compX x).f e fun v => (compXo lo).f e fun l => (compXo hi).f e fun u => tSliceS v l u fun r => K r t n⟩
  | some (.slice el), none => (match P.info? el with | some i => ⟨fun _ e t n K => (compX x).f e fun v => (compXo lo).f e fun l => (compXo hi).f e fun u => bSliceL i.size v l u fun r => K r t n⟩ | none => noO)
  | some (.slice el), some m => ⟨fun _ e t n K => (compX x).f e fun v => (compXo lo).f e fun l => (compXo hi).f e fun u => (compX m).f e fun mv => (match P.info? el, l, u, mv with | some _, none, some (.lit (.int _ 0)), .lit (.int _ 0) => bSliceZ v fun r => K r t n | _, _, _, _ => false)⟩
  | _, _ => noO
def cFieldAddr (P : Program) (t : TypeId) (x : Operand) (f : Nat) : ClO :=
  match P.underlying t with
  | some (.struct fs) => (match fs[f]? with
    | some fd => (match P.info? fd.type with | some i => (match i.size with | 0 => noO | _ + 1 => q1 x (tFieldAddr fd.offset)) | none => noO)
    | none => noO)
  | _ => noO
def cPart (P : Program) (t : TypeId) (off : Nat) (x : Operand) : ClO :=
  match P.underlying t, P.info? t with
  | some d, some i => (match isAggD d with | true => q1 x (bPartA off i.size) | false => q1 x (bPart1 off))
  | _, _ => noO
def cField (P : Program) (t : TypeId) (x : Operand) (f : Nat) : ClO :=
  match P.underlying t with
  | some (.struct fs) => (match fs[f]? with | some fd => cPart P fd.type fd.offset x | none => noO)
  | _ => noO
def cIndexAddr (P : Program) (t : TypeId) (x i : Operand) : ClO :=
  match P.underlying t with
  | some (.slice e) => (match P.info? e with | some ei => q2 x i (tIndexAddr ei.size) | none => noO)
  | some (.array m e) => (match P.info? e with | some ei => q2 x i (bIndexAddrA m ei.size) | none => noO)
  | _ => noO
def cIndex (P : Program) (t : TypeId) (x i : Operand) : ClO :=
  match P.underlying t with
  | some .string => q2 x i tIndexS
  | _ => noO
def cLen (P : Program) (t : TypeId) (x : Operand) : ClO :=
  match P.underlying t with
  | some .string => q1 x tLenS
  | some (.slice _) => q1 x bLenL
  | some (.map _ _) => q1t x tLenM
  | _ => noO
def cAppend (P : Program) (t t2 : TypeId) (x y : Operand) : ClO :=
  match P.underlying t, P.underlying t2 with
  | some (.slice e), some d2 => (match P.info? e with
    | some i => (match appOk i d2 with | true => e2 x y (tAppend i.size i.bytes) | false => noO)
    | none => noO)
  | _, _ => noO
def cNew (P : Program) (t : TypeId) : ClO :=
  match P.info? t with
  | some i => (match i.zero with | some z => (match okV z with | true => ⟨fun _ _ t n K => tNew (ofV z).cells t n K⟩ | false => noO) | none => noO)
  | none => noO
def cStore (P : Program) (t : TypeId) (x u : Operand) : ClO :=
  match P.info? t with
  | some i => s2 x u (tStore i.size)
  | none => noO
def cIface (P : Program) (t : TypeId) (x : Operand) : ClO :=
  match P.underlying t with
  | some (.interface _) => noO
  | some _ => q1 x (bIface t)
  | none => noO
def callV (c : CallB) (v : AV) (vs : List AV) (t : HT) (n : Nat) (K : AV → HT → Nat → Bool) : Bool :=
  match v with
  | .fn (.func f) fi ca => c f (fi ++ vs ++ ca) t n K
  | _ => false
def cCall (P : Program) (c : Call) : ClO := match c.callee with
  | .value f => ⟨fun call e t n K => (compXs c.args.toList).f e fun vs => (compX f).f e fun v => callV call v vs t n K⟩
  | .builtin .len => (match c.args.toList, c.argTypes.toList with | [x], [t] => cLen P t x | _, _ => noO)
  | .builtin .append => (match c.args.toList, c.argTypes.toList with | [x, y], [t, t2] => cAppend P t t2 x y | _, _ => noO)
  | .builtin .max => (match c.args.toList with | [x, y] => q2 x y bMax | _ => noO)
  | .builtin .min => (match c.args.toList with | [x, y] => q2 x y bMin | _ => noO)
  | _ => noO
def comp1 (P : Program) (op : Op) : ClO := match op with
  | .move x => ⟨fun _ e t n K => (compX x).f e fun v => K v t n⟩
  | .assign x => ⟨fun _ e t n K => (compX x).f e fun v => K v t n⟩
  | .pick c a b => ⟨fun _ e t n K => (compX c).f e fun cv => (compX a).f e fun av => (compX b).f e fun bv => pickB cv av bv fun r => K r t n⟩
  | .alloc e => cNew P e
  | .box _ x => e1 x tBox
  | .build t ps => cBuild P t (ps.toList.map (·.1)) (ps.toList.map (·.2))
  | .buildSlice t m ps => cBuildSlice P t m (ps.toList.map (·.1)) (ps.toList.map (·.2))
  | .load t x => cLoad P t x
  | .store t x u => cStore P t x u
  | .nilCheck x => q1 x bNil
  | .binOp op t x y _ => cBin P op t x y
  | .unOp op _ x => q1 x (tUn op)
  | .convert s d x => cConv P s d x
  | .makeInterface t x => cIface P t x
  | .makeFunc f fi ca => ⟨fun _ e t n K => (compXs fi.toList).f e fun vs => (compXs ca.toList).f e fun ws => K (.fn f vs ws) t n⟩
  | .slice t x lo hi mx => cSlice P t x lo hi mx
  | .fieldAddr t x f => cFieldAddr P t x f
  | .field t x f => cField P t x f
  | .indexAddr t x i => cIndexAddr P t x i
  | .index t x i => cIndex P t x i
  | .extract x i => q1 x (bExtract i)
  | .call c => cCall P c
  | _ => noO
def cMapT (P : Program) (t : TypeId) (g : TypeDesc → Value → ClO) : ClO :=
  match P.underlying t with
  | some (.map kt et) => (match P.underlying kt, P.info? et with
    | some d, some i => (match i.zero with | some z => (match okV z with | true => g d z | false => noO) | none => noO)
    | _, _ => noO)
  | _ => noO
def cKeyT (P : Program) (t : TypeId) (g : TypeDesc → ClO) : ClO :=
  match P.underlying t with
  | some (.map kt _) => (match P.underlying kt with | some d => g d | none => noO)
  | _ => noO
def cNilCmp (P : Program) (op : BinOp) (t : TypeId) (x y : Operand) : ClO :=
  match P.underlying t, y with
  | some (.slice _), .const (.slice none 0 0) => q1 x (bIsNilS op)
  | some (.map _ _), .const (.map none) => q1 x (bIsNilM op)
  | some (.interface _), .const .nilIface => q1 x (bIsNilI op)
  | some (.func _ _ _), .const .nilFunc => q1 x (bIsNilF op)
  | _, _ => noO
def compN (P : Program) (op : Op) : ClO := match op with
  | .makeMap _ none => ⟨fun _ _ t n K => tMakeMap t n K⟩
  | .lookup t x i ok => cMapT P t fun d z => q2t x i (tLookup d ok (ofV z))
  | .mapUpdate t m k v => cKeyT P t fun d => s3 m k v (tMapUpdate d)
  | .insert t m k v => cKeyT P t fun d => s3 m k v (tMapUpdate d)
  | .mapEntry t m k => cMapT P t fun d z => e2 m k (tMapEntry d (ofV z))
  | .entryStore t m s v => s3 m s v tEntryStore
  | .range t x => (match P.underlying t with
    | some .string => e1 x tRangeS
    | some (.map _ _) => e1 x tRangeM
    | _ => noO)
  | .next x b => (match b with | true => e1 x tNextS | false => e1 x tNextM)
  | .entry x => q1t x tEntry
  | .makeSlice t l c => (match P.underlying t with
    | some (.slice e) => (match P.info? e with
      | some i => (match i.zero with | some z => (match i.size == 1 && z.oneCell' with | true => e2 l c (tMakeSlice i.bytes (ofV1 z)) | false => noO) | none => noO)
      | none => noO)
    | _ => noO)
  | .convert s d x => (match P.underlying s, P.underlying d with
    | some (.slice e), some .string => (match isByteT P e with | true => q1t x tBytesStr | false => noO)
    | some .string, some (.slice e) => (match isByteT P e with | true => e1 x tStrBytes | false => noO)
    | _, _ => noO)
  | .binOp op t x y _ => (match P.underlying t with
    | some (.struct fs) => (match flatS P fs.toList 0 with
      | some ds => (match !P.stoodInHeld t && !P.eqGuardType P.depth t with | true => q2 x y (bEqS op ds) | false => noO)
      | none => noO)
    | _ => cNilCmp P op t x y)
  | .call c => (match c.callee with
    | .builtin .delete => (match c.args.toList, c.argTypes.toList with
      | [m, k], t :: _ => cKeyT P t fun d => s2 m k (tDelete d)
      | _, _ => noO)
    | _ => noO)
  | _ => noO
def compB (P : Program) (op : Op) : ClO := match isNew P op with
  | true => compN P op
  | false => comp1 P op
def idxL : List UInt8 → UInt8 → Nat → Int
  | [], _, _ => .negSucc 0
  | b :: l, c, i => @Bool.casesOn (fun _ => Int) (uEq b c) (idxL l c (Nat.succ i)) (.ofNat i)
def cntL : List UInt8 → UInt8 → Nat → Nat
  | [], _, n => n
  | b :: l, c, n => cntL l c (@Bool.casesOn (fun _ => Nat) (uEq b c) n (Nat.succ n))
def tExt (e : Ext) (vs : List AV) (K : AV → Bool) : Bool :=
  match e, vs with
  | .index, [.lit (.string s), .lit (.int .u8 c)] => fI (idxL s.data.toList c.toNat.toUInt8 0) fun r => K (I r)
  | .count, [.lit (.string s), .lit (.int .u8 c)] => fN (cntL s.data.toList c.toNat.toUInt8 0) fun r => K (I (.ofNat r))
  | .bits, [.lit (.float .f64 b)] => K (.lit (.int .u64 (.ofNat b)))
  | .frombits, [.lit (.int .u64 n)] => fN n.toNat fun m => K (.lit (.float .f64 m))
  | _, _ => false
def minN (m n : Nat) : Nat := @Bool.casesOn (fun _ => Nat) (Nat.ble m n) n m
def tCopy (size : Nat) (v x : AV) (t : HT) (n : Nat) (K : AV → HT → Nat → Bool) : Bool :=
  match tElems t size x with
  | none => false
  | some (m, xs) => match v with
    | .sl i off len sz => (match t.get i with
      | some (.cells cs) => decide (sz = size ∧ off + len * size ≤ cs.length ∧ xs.all AV.one = true) && fN (minN m len) fun l => K (I (.ofNat l)) (t.set (.cells (splice cs off (xs.take (l * size)))) i) n
      | _ => false)
    | .full n0 _ => bA (Nat.beq (minN m n0) 0) (K (I 0) t n)
    | .snap n0 _ => bA (Nat.beq (minN m n0) 0) (K (I 0) t n)
    | _ => false
def tClear (size : Nat) (u v : AV) (t : HT) (n : Nat) (K : HT → Nat → Bool) : Bool :=
  match v with
  | .sl i off len sz => (match t.get i with
    | some (.cells cs) => decide (u.isTup = false ∧ u.cells.length = size ∧ sz = size ∧ off + len * size ≤ cs.length ∧ u.cells.all AV.one = true) && K (t.set (.cells (splice cs off (List.replicate len u.cells).flatten)) i) n
    | _ => false)
  | .full 0 _ => K t n
  | .snap 0 _ => K t n
  | _ => false
def cRowT (P : Program) (ts : Array TypeId) (K : Value → TypeInfo → ClO) : ClO :=
  match ts.toList with
  | t :: _ => (match P.underlying t with
    | some (.slice e) => (match P.info? e with
      | some i => (match i.zero with | some z => (match okV z with | true => K z i | false => noO) | none => noO)
      | none => noO)
    | _ => noO)
  | _ => noO
abbrev TabB := Nat → Option (List AV)
def cLoadC (P : Program) (t : TypeId) (cs : List AV) : ClO :=
  match P.underlying t, P.info? t with
  | some d, some i => (match isAggD d with | true => ⟨fun _ _ t n K => tLoadA i.size (.cptr cs) t fun r => K r t n⟩ | false => ⟨fun _ _ t n K => tLoad1 (.cptr cs) t fun r => K r t n⟩)
  | _, _ => noO
def compXX (P : Program) (tb : TabB) (op : Op) : ClO := match op with
  | .call c => (match c.callee with
    | .value (.func f) => (match extOf P f with
      | some x => ⟨fun _ e t n K => (compXs c.args.toList).f e fun vs => tExt x vs fun r => K r t n⟩
      | none => noO)
    | .builtin .copy => cRowT P c.argTypes fun _ i => (match c.args.toList with | [x, y] => e2 x y (tCopy i.size) | _ => noO)
    | .builtin .clear => cRowT P c.argTypes fun z i => (match c.args.toList with | [x] => ⟨fun _ e t n K => (compX x).f e fun v => tClear i.size (ofV z) v t n fun t n => K (.tup []) t n⟩ | _ => noO)
    | _ => noO)
  | .indexAddr t (.global g) i => (match tb g with
    | some cs => (match P.underlying t with
      | some (.array m e) => (match P.info? e with | some ei => q1 i fun iv => bIndexAddrA m ei.size (.cptr cs) iv | none => noO)
      | _ => noO)
    | none => noO)
  | .load t (.global g) => (match tb g with
    | some cs => cLoadC P t cs
    | none => noO)
  | _ => noO
def compO (P : Program) (tb : TabB) (op : Op) : ClO := match isX P op with
  | true => compXX P tb op
  | false => compB P op
def ER (e : ET) (env : Env) : Prop := ∀ k v, (lens k).g e = some v → AL.get env k = some v
theorem ER.put {e : ET} {env : Env} (r : ER e env) (d : Nat) (v : AV) : ER ((lens d).s e v) ((d, v) :: env) := fun k u h => by
  simp only [AL.get]
  rcases lens_get h with ⟨rfl, rfl⟩ | ⟨hn, h⟩
  · rw [if_pos rfl]
  · rw [if_neg (Ne.symm hn)]; exact r k u h
theorem compX_ok {e : ET} {env : Env} (r : ER e env) {x : Operand} {K : AV → Bool} (k : (compX x).f e K = true) : ∃ v, opv env x = some v ∧ K v = true := by
  cases x with
  | tmp s =>
    simp only [compX, oM] at k
    split at k
    · rename_i v hv; exact ⟨v, by rw [opv]; exact r s v hv, k⟩
    · cases k
  | const v =>
    simp only [compX] at k
    cases h : okV v
    · rw [h] at k; cases k
    · rw [h] at k; exact ⟨_, by simp [opv, h], k⟩
  | global g => cases k
  | func f => exact ⟨_, rfl, k⟩
theorem compXs_ok {e : ET} {env : Env} (r : ER e env) : ∀ {xs : List Operand} {K : List AV → Bool}, (compXs xs).f e K = true → ∃ vs, opvs env xs = some vs ∧ K vs = true
  | [], K, k => ⟨[], rfl, k⟩
  | x :: xs, K, k => by
    simp only [compXs] at k
    obtain ⟨v, h1, k⟩ := compX_ok r k
    obtain ⟨vs, h2, k⟩ := compXs_ok r k
    exact ⟨_, by simp [opvs, h1, h2], k⟩
theorem compXo_ok {e : ET} {env : Env} (r : ER e env) {x : Option Operand} {K : Option AV → Bool} (k : (compXo x).f e K = true) : ∃ v, optO env x = some v ∧ K v = true := by
  cases x with
  | none => exact ⟨none, rfl, k⟩
  | some x =>
    simp only [compXo] at k
    obtain ⟨v, h1, k⟩ := compX_ok r k
    exact ⟨some v, by simp [optO, h1], k⟩
end
end
section
noncomputable section
variable [Tabs]
section
variable {P : Program} {e : ET} {env : Env} {t : HT} {n : Nat} {h : AHeap} {K : AV → HT → Nat → Bool} {call : CallB}
def CallOk (P : Program) (call : CallB) : Prop := ∀ (f : FuncId) (args : List AV) (t : HT) (n : Nat) (h : AHeap) (K : AV → HT → Nat → Bool), HR t n h → call f args t n K = true → ACall P f args h (KH K)
theorem kh {r : AV} (hr : HR t n h) (k : K r t n = true) : KH K r h := ⟨t, n, hr, k⟩
theorem q1_ok (er : ER e env) (hr : HR t n h) {x : Operand} {g : AV → (AV → Bool) → Bool} {p : AV → (AV → Prop) → Prop} (hg : ∀ v K, g v K = true → p v fun r => K r = true) (hm : ∀ v K K', (∀ r, K r → K' r) → p v K → p v K')
    (k : (q1 x g).f call e t n K = true) : withO (opv env x) fun v => p v fun r => KH K r h := by
  obtain ⟨v, h1, k⟩ := compX_ok er k
  rw [h1]
  exact hm _ _ _ (fun r k => kh hr k) (hg _ _ k)
theorem q1t_ok (er : ER e env) (hr : HR t n h) {x : Operand} {g : AV → HT → (AV → Bool) → Bool} {p : AV → AHeap → (AV → Prop) → Prop} (hg : ∀ v K, g v t K = true → p v h fun r => K r = true) (hm : ∀ v K K', (∀ r, K r → K' r) → p v h K → p v h K')
    (k : (q1t x g).f call e t n K = true) : withO (opv env x) fun v => p v h fun r => KH K r h := by
  obtain ⟨v, h1, k⟩ := compX_ok er k
  rw [h1]
  exact hm _ _ _ (fun r k => kh hr k) (hg _ _ k)
theorem q2_ok (er : ER e env) (hr : HR t n h) {x y : Operand} {g : AV → AV → (AV → Bool) → Bool} {p : AV → AV → (AV → Prop) → Prop} (hg : ∀ v u K, g v u K = true → p v u fun r => K r = true) (hm : ∀ v u K K', (∀ r, K r → K' r) → p v u K → p v u K')
    (k : (q2 x y g).f call e t n K = true) : withO2 (opv env x) (opv env y) fun v u => p v u fun r => KH K r h := by
  obtain ⟨v, h1, k⟩ := compX_ok er k
  obtain ⟨u, h2, k⟩ := compX_ok er k
  rw [h1, h2]
  exact hm _ _ _ _ (fun r k => kh hr k) (hg _ _ _ k)
theorem q2t_ok (er : ER e env) (hr : HR t n h) {x y : Operand} {g : AV → AV → HT → (AV → Bool) → Bool} {p : AV → AV → AHeap → (AV → Prop) → Prop} (hg : ∀ v u K, g v u t K = true → p v u h fun r => K r = true) (hm : ∀ v u K K', (∀ r, K r → K' r) → p v u h K → p v u h K')
    (k : (q2t x y g).f call e t n K = true) : withO2 (opv env x) (opv env y) fun v u => p v u h fun r => KH K r h := by
  obtain ⟨v, h1, k⟩ := compX_ok er k
  obtain ⟨u, h2, k⟩ := compX_ok er k
  rw [h1, h2]
  exact hm _ _ _ _ (fun r k => kh hr k) (hg _ _ _ k)
theorem e1_ok (er : ER e env) (hr : HR t n h) {x : Operand} {g : AV → HT → Nat → (AV → HT → Nat → Bool) → Bool} {p : AV → AHeap → (QT) → Prop} (hg : ∀ v K, g v t n K = true → p v h (KH K))
    (k : (e1 x g).f call e t n K = true) : withO (opv env x) fun v => p v h (KH K) := by
  obtain ⟨v, h1, k⟩ := compX_ok er k
  rw [h1]
  exact hg _ _ k
theorem e2_ok (er : ER e env) (hr : HR t n h) {x y : Operand} {g : AV → AV → HT → Nat → (AV → HT → Nat → Bool) → Bool} {p : AV → AV → AHeap → (QT) → Prop} (hg : ∀ v u K, g v u t n K = true → p v u h (KH K))
    (k : (e2 x y g).f call e t n K = true) : withO2 (opv env x) (opv env y) fun v u => p v u h (KH K) := by
  obtain ⟨v, h1, k⟩ := compX_ok er k
  obtain ⟨u, h2, k⟩ := compX_ok er k
  rw [h1, h2]
  exact hg _ _ _ k
theorem s2_ok (er : ER e env) (hr : HR t n h) {x y : Operand} {g : AV → AV → HT → Nat → (HT → Nat → Bool) → Bool} {p : AV → AV → AHeap → (AHeap → Prop) → Prop} (hg : ∀ v u K, g v u t n K = true → p v u h (KS K))
    (k : (s2 x y g).f call e t n K = true) : withO2 (opv env x) (opv env y) fun v u => p v u h fun h' => KH K (.tup []) h' := by
  obtain ⟨v, h1, k⟩ := compX_ok er k
  obtain ⟨u, h2, k⟩ := compX_ok er k
  rw [h1, h2]
  exact hg _ _ _ k
theorem s3_ok (er : ER e env) (hr : HR t n h) {x y z : Operand} {g : AV → AV → AV → HT → Nat → (HT → Nat → Bool) → Bool} {p : AV → AV → AV → AHeap → (AHeap → Prop) → Prop} (hg : ∀ v u w K, g v u w t n K = true → p v u w h (KS K))
    (k : (s3 x y z g).f call e t n K = true) : withO2 (opv env x) (opv env y) fun v u => withO (opv env z) fun w => p v u w h fun h' => KH K (.tup []) h' := by
  obtain ⟨v, h1, k⟩ := compX_ok er k
  obtain ⟨u, h2, k⟩ := compX_ok er k
  obtain ⟨w, h3, k⟩ := compX_ok er k
  rw [h1, h2, h3]
  exact hg _ _ _ _ k
omit [Tabs] in
theorem no_ok {X : Prop} (k : noO.f call e t n K = true) : X := by cases k
theorem withO_imp {o : Option AV} {K K' : AV → Prop} (hk : ∀ v, K v → K' v) (k : withO o K) : withO o K' := by
  unfold withO at *; split at k
  · exact hk _ k
  · exact k.elim
theorem cBuild_ok (er : ER e env) (hr : HR t n h) {ty : TypeId} {is : List Nat} {xs : List Operand} (k : (cBuild P ty is xs).f call e t n K = true) : withL (opvs env xs) fun vs => aBuild P ty is vs fun r => KH K r h := by
  unfold cBuild at k
  split at k
  · split at k
    · split at k
      · obtain ⟨vs, h1, k⟩ := compXs_ok er k
        rw [h1]
        show aBuild P ty is vs _
        unfold aBuild
        simp only [*, if_true]
        split at k
        · simp only [*]
          exact qBuild_mono (fun r k => kh hr k) _ _ ⟨bBuild_ok _ _ k⟩
        · cases k
      · exact no_ok k
    · exact no_ok k
  · exact no_ok k
theorem cBuildSlice_ok (er : ER e env) (hr : HR t n h) {ty : TypeId} {m : Nat} {is : List Nat} {xs : List Operand} (k : (cBuildSlice P ty m is xs).f call e t n K = true) : withL (opvs env xs) fun vs => aBuildSlice P ty m is vs fun r => KH K r h := by
  unfold cBuildSlice at k
  split at k
  · split at k
    · split at k
      · split at k
        · rename_i hc
          obtain ⟨vs, h1, k⟩ := compXs_ok er k
          rw [h1]
          show aBuildSlice P ty m is vs _
          unfold aBuildSlice
          simp only [*, if_true]
          exact qBuildSlice_mono (fun r k => kh hr k) _ _ _ ⟨bBuildSlice_ok _ _ _ k⟩
        · exact no_ok k
      · exact no_ok k
    · exact no_ok k
  · exact no_ok k
theorem cCall_ok (hcall : CallOk P call) (er : ER e env) (hr : HR t n h) {c : Call} (k : (cCall P c).f call e t n K = true) : withL (opvs env c.args.toList) fun vs => (match c.callee with
    | .value f => withO (opv env f) fun v => ACallV P v vs h (KH K)
    | .builtin .len => (match vs, c.argTypes.toList with | [v], [t] => aLen P t v h fun r => KH K r h | _, _ => False)
    | .builtin .append => (match vs, c.argTypes.toList with | [v, u], [t, t2] => aAppend P t t2 v u h (KH K) | _, _ => False)
    | .builtin .max => (match vs with | [v, u] => qMax v u fun r => KH K r h | _ => False)
    | .builtin .min => (match vs with | [v, u] => qMin v u fun r => KH K r h | _ => False)
    | _ => False) := by
  have two : ∀ {x y : Operand} {F : AV → AV → Prop}, (withO2 (opv env x) (opv env y) F) → ∃ v u, opvs env [x, y] = some [v, u] ∧ F v u := fun {x y F} k => by
    obtain ⟨v, h1, k⟩ := withO_ok k
    obtain ⟨u, h2, k⟩ := withO_ok k
    exact ⟨v, u, by simp [opvs, h1, h2], k⟩
  have one : ∀ {x : Operand} {F : AV → Prop}, (withO (opv env x) F) → ∃ v, opvs env [x] = some [v] ∧ F v := fun {x F} k => by
    obtain ⟨v, h1, k⟩ := withO_ok k
    exact ⟨v, by simp [opvs, h1], k⟩
  unfold cCall at k
  split at k
  · rename_i f hc
    obtain ⟨vs, h1, k⟩ := compXs_ok er k
    obtain ⟨v, h2, k⟩ := compX_ok er k
    rw [h1]
    simp only [withL, hc, h2, withO]
    unfold callV at k
    unfold ACallV
    split at k
    · exact hcall _ _ _ _ _ _ hr k
    · cases k
  · rename_i hc
    split at k
    · rename_i x ty ha ht
      unfold cLen at k
      split at k
      · obtain ⟨v, h1, k⟩ := one (q1_ok er hr (p := fun v K => qLenS v K) (fun _ _ k => ⟨tLenS_ok k⟩) (fun _ _ _ hk k => qLenS_mono hk _ k) k)
        rw [ha, h1]
        simp only [withL, hc, aLen, *]
      · obtain ⟨v, h1, k⟩ := one (q1_ok er hr (p := fun v K => qLenL v K) (fun _ _ k => ⟨bLenL_ok _ k⟩) (fun _ _ _ hk k => qLenL_mono hk _ k) k)
        rw [ha, h1]
        simp only [withL, hc, aLen, *]
      · obtain ⟨v, h1, k⟩ := one (q1t_ok er hr (p := fun v h K => qLenM v h K) (fun _ _ k => ⟨tLenM_ok hr k⟩) (fun _ _ _ hk k => qLenM_mono hk _ _ k) k)
        rw [ha, h1]
        simp only [withL, hc, aLen, *]
      · exact no_ok k
    · exact no_ok k
  · rename_i hc
    split at k
    · rename_i x y ty ty2 ha ht
      unfold cAppend at k
      split at k
      · split at k
        · split at k
          · rename_i hok
            obtain ⟨v, u, h1, k⟩ := two (e2_ok er hr (p := fun v u h K => qAppend _ _ v u h K) (fun _ _ _ k => ⟨tAppend_ok hr k⟩) k)
            rw [ha, h1]
            simp only [withL, hc, aAppend, *, if_true]
          · exact no_ok k
        · exact no_ok k
      · exact no_ok k
    · exact no_ok k
  · rename_i hc
    split at k
    · rename_i x y ha
      obtain ⟨v, u, h1, k⟩ := two (q2_ok er hr (p := fun v u K => qMax v u K) (fun _ _ _ k => ⟨bMax_ok _ _ k⟩) (fun _ _ _ _ hk k => qMax_mono hk _ _ k) k)
      rw [ha, h1]
      simp only [withL, hc, *]
    · exact no_ok k
  · rename_i hc
    split at k
    · rename_i x y ha
      obtain ⟨v, u, h1, k⟩ := two (q2_ok er hr (p := fun v u K => qMin v u K) (fun _ _ _ k => ⟨bMin_ok _ _ k⟩) (fun _ _ _ _ hk k => qMin_mono hk _ _ k) k)
      rw [ha, h1]
      simp only [withL, hc, *]
    · exact no_ok k
  · exact no_ok k
theorem comp1_ok (hcall : CallOk P call) (er : ER e env) (hr : HR t n h) {o : Oper} (k : (comp1 P o.op).f call e t n K = true) : aop1 P env h o (KH K) := by
  obtain ⟨dst, op, ty, pos, after, guard⟩ := o
  cases op <;> simp only [comp1] at k <;> simp only [aop1]
  case move x => obtain ⟨v, h1, k⟩ := compX_ok er k; rw [h1]; exact kh hr k
  case assign x => obtain ⟨v, h1, k⟩ := compX_ok er k; rw [h1]; exact kh hr k
  case pick c a b =>
    obtain ⟨v, h1, k⟩ := compX_ok er k
    obtain ⟨u, h2, k⟩ := compX_ok er k
    obtain ⟨w, h3, k⟩ := compX_ok er k
    rw [h1, h2, h3]
    show ifB v (KH K u h) (KH K w h)
    unfold pickB at k
    unfold ifB
    split at k
    · exact kh hr k
    · exact kh hr k
    · cases k
  case alloc el =>
    unfold cNew at k
    unfold aNew
    split at k
    · split at k
      · split at k
        · simp only [*, if_true]; exact ⟨tNew_ok hr k⟩
        · exact no_ok k
      · exact no_ok k
    · exact no_ok k
  case box el x => exact e1_ok er hr (p := fun v h K => qBox v h K) (fun _ _ k => ⟨tBox_ok hr k⟩) k
  case build => exact cBuild_ok er hr k
  case buildSlice => exact cBuildSlice_ok er hr k
  case load ty x =>
    unfold cLoad at k
    split at k
    · split at k
      · refine withO_imp (fun v k => ?_) (q1t_ok er hr (p := fun v h K => qLoadA _ v h K) (fun _ _ k => ⟨tLoadA_ok hr k⟩) (fun _ _ _ hk k => qLoadA_mono hk _ _ _ k) k)
        unfold aLoad; simp only [*, if_true]
      · refine withO_imp (fun v k => ?_) (q1t_ok er hr (p := fun v h K => qLoad1 v h K) (fun _ _ k => ⟨tLoad1_ok hr k⟩) (fun _ _ _ hk k => qLoad1_mono hk _ _ k) k)
        unfold aLoad; simp only [*, Bool.false_eq_true, if_false]
    · exact no_ok k
  case store ty x u =>
    unfold cStore at k
    split at k
    · refine withO_imp (fun v k => withO_imp (fun y k => ?_) k) (s2_ok er hr (p := fun v u h K => qStore _ v u h K) (fun _ _ _ k => ⟨tStore_ok hr k⟩) k)
      unfold aStore; simp only [*]
    · exact no_ok k
  case nilCheck x => exact q1_ok er hr (p := fun v K => qNil v K) (fun _ _ k => ⟨bNil_ok _ k⟩) (fun _ _ _ hk k => qNil_mono hk _ k) k
  case binOp op ty x y yt =>
    unfold cBin at k
    unfold aBin
    split at k
    · simp only [*]; exact q2_ok er hr (p := fun v u K => qBinB op v u K) (fun _ _ _ k => ⟨bBinB_ok _ _ _ k⟩) (fun _ _ _ _ hk k => qBinB_mono hk _ _ _ k) k
    · simp only [*]; exact q2_ok er hr (p := fun v u K => qBinP op v u K) (fun _ _ _ k => ⟨bBinP_ok _ _ _ k⟩) (fun _ _ _ _ hk k => qBinP_mono hk _ _ _ k) k
    · simp only [*]; exact q2_ok er hr (p := fun v u K => qBin op v u K) (fun _ _ _ k => ⟨tBin_ok k⟩) (fun _ _ _ _ hk k => qBin_mono hk _ _ _ k) k
    · simp only [*]; exact q2_ok er hr (p := fun v u K => qBin op v u K) (fun _ _ _ k => ⟨tBin_ok k⟩) (fun _ _ _ _ hk k => qBin_mono hk _ _ _ k) k
    · simp only [*]; exact q2_ok er hr (p := fun v u K => qBin op v u K) (fun _ _ _ k => ⟨tBin_ok k⟩) (fun _ _ _ _ hk k => qBin_mono hk _ _ _ k) k
    · exact no_ok k
  case unOp op ty x => exact q1_ok er hr (p := fun v K => qUn op v K) (fun _ _ k => ⟨tUn_ok k⟩) (fun _ _ _ hk k => qUn_mono hk _ _ k) k
  case convert s d x =>
    unfold cConv at k
    unfold aConv
    split at k
    · simp only [*]; exact q1_ok er hr (p := fun v K => qConvII _ v K) (fun _ _ k => ⟨tConvII_ok k⟩) (fun _ _ _ hk k => qConvII_mono hk _ _ k) k
    · simp only [*]; exact q1_ok er hr (p := fun v K => qConvIF _ v K) (fun _ _ k => ⟨tConvIF_ok k⟩) (fun _ _ _ hk k => qConvIF_mono hk _ _ k) k
    · simp only [*]; exact q1_ok er hr (p := fun v K => qConvSS v K) (fun _ _ k => ⟨bConvSS_ok _ k⟩) (fun _ _ _ hk k => qConvSS_mono hk _ k) k
    · exact no_ok k
  case makeInterface ty x =>
    unfold cIface at k
    split at k
    · exact no_ok k
    · rename_i hn ht
      refine withO_imp (fun v k => ?_) (q1_ok er hr (p := fun v K => qIface ty v K) (fun _ _ k => ⟨bIface_ok _ _ k⟩) (fun _ _ _ hk k => qIface_mono hk _ _ k) k)
      unfold aIface
      split
      · rename_i he; rw [ht] at he; cases he; exact (hn _ rfl).elim
      · exact k
      · rename_i he; rw [ht] at he; cases he
    · exact no_ok k
  case makeFunc f fi ca =>
    obtain ⟨vs, h1, k⟩ := compXs_ok er k
    obtain ⟨ws, h2, k⟩ := compXs_ok er k
    rw [h1, h2]; exact kh hr k
  case slice ty x lo hi mx =>
    unfold cSlice at k
    split at k
    · obtain ⟨v, h1, k⟩ := compX_ok er k
      obtain ⟨l, h2, k⟩ := compXo_ok er k
      obtain ⟨u, h3, k⟩ := compXo_ok er k
      rw [h1, h2, h3]
      show aSlice P ty v l u none _
      unfold aSlice; simp only [*]
      exact qSliceS_mono (fun r k => kh hr k) _ _ _ ⟨tSliceS_ok k⟩
    · split at k
      · obtain ⟨v, h1, k⟩ := compX_ok er k
        obtain ⟨l, h2, k⟩ := compXo_ok er k
        obtain ⟨u, h3, k⟩ := compXo_ok er k
        rw [h1, h2, h3]
        show aSlice P ty v l u none _
        unfold aSlice; simp only [*]
        exact qSliceL_mono (fun r k => kh hr k) _ _ _ _ ⟨bSliceL_ok _ _ _ _ k⟩
      · exact no_ok k
    · obtain ⟨v, h1, k⟩ := compX_ok er k
      obtain ⟨l, h2, k⟩ := compXo_ok er k
      obtain ⟨u, h3, k⟩ := compXo_ok er k
      obtain ⟨m, h4, k⟩ := compX_ok er k
      rw [h1, h2, h3]
      simp only [optO, h4]
      show aSlice P ty v l u (some m) _
      split at k
      · unfold aSlice; simp only [*]
        exact qSliceZ_mono (fun r k => kh hr k) _ ⟨bSliceZ_ok _ k⟩
      · cases k
    · exact no_ok k
  case fieldAddr ty x f =>
    unfold cFieldAddr at k
    split at k
    · split at k
      · split at k
        · split at k
          · exact no_ok k
          · rename_i hz
            refine withO_imp (fun v k => ?_) (q1_ok er hr (p := fun v K => qFieldAddr _ v K) (fun _ _ k => ⟨tFieldAddr_ok k⟩) (fun _ _ _ hk k => qFieldAddr_mono hk _ _ k) k)
            unfold aFieldAddr
            simp only [*]
            rw [if_neg (by simp)]
            trivial
        · exact no_ok k
      · exact no_ok k
    · exact no_ok k
  case field ty x f =>
    unfold cField cPart at k
    split at k
    · split at k
      · split at k
        · split at k
          · refine withO_imp (fun v k => ?_) (q1_ok er hr (p := fun v K => qPartA _ _ v K) (fun _ _ k => ⟨bPartA_ok _ _ _ k⟩) (fun _ _ _ hk k => qPartA_mono hk _ _ _ k) k)
            unfold aField aPart; simp only [*, if_true]
          · refine withO_imp (fun v k => ?_) (q1_ok er hr (p := fun v K => qPart1 _ v K) (fun _ _ k => ⟨bPart1_ok _ _ k⟩) (fun _ _ _ hk k => qPart1_mono hk _ _ k) k)
            unfold aField aPart; simp only [*, Bool.false_eq_true, if_false]
        · exact no_ok k
      · exact no_ok k
    · exact no_ok k
  case indexAddr ty x i =>
    unfold cIndexAddr at k
    unfold aIndexAddr
    split at k
    · split at k
      · simp only [*]; exact q2_ok er hr (p := fun v u K => qIndexAddr _ v u K) (fun _ _ _ k => ⟨tIndexAddr_ok k⟩) (fun _ _ _ _ hk k => qIndexAddr_mono hk _ _ _ k) k
      · exact no_ok k
    · split at k
      · simp only [*]; exact q2_ok er hr (p := fun v u K => qIndexAddrA _ _ v u K) (fun _ _ _ k => ⟨bIndexAddrA_ok _ _ _ _ k⟩) (fun _ _ _ _ hk k => qIndexAddrA_mono hk _ _ _ _ k) k
      · exact no_ok k
    · exact no_ok k
  case index ty x i =>
    unfold cIndex at k
    unfold aIndex
    split at k
    · simp only [*]; exact q2_ok er hr (p := fun v u K => qIndexS v u K) (fun _ _ _ k => ⟨tIndexS_ok k⟩) (fun _ _ _ _ hk k => qIndexS_mono hk _ _ k) k
    · exact no_ok k
  case extract x i => exact q1_ok er hr (p := fun v K => qExtract i v K) (fun _ _ k => ⟨bExtract_ok _ _ k⟩) (fun _ _ _ hk k => qExtract_mono hk _ _ k) k
  case call c => exact cCall_ok hcall er hr k
  all_goals exact no_ok k
theorem cMapT_ok {ty : TypeId} {g : TypeDesc → Value → ClO} {F : TypeDesc → Value → Prop} (hg : ∀ d z, (g d z).f call e t n K = true → F d z) (k : (cMapT P ty g).f call e t n K = true) : mapT P ty F := by
  unfold cMapT at k
  unfold mapT
  split at k
  · split at k
    · split at k
      · split at k
        · have k := hg _ _ k; simp only [*, if_true]
        · exact no_ok k
      · exact no_ok k
    · exact no_ok k
  · exact no_ok k
theorem cKeyT_ok {ty : TypeId} {g : TypeDesc → ClO} {F : TypeDesc → Prop} (hg : ∀ d, (g d).f call e t n K = true → F d) (k : (cKeyT P ty g).f call e t n K = true) : keyT P ty F := by
  unfold cKeyT at k
  unfold keyT
  split at k
  · split at k
    · have k := hg _ k; simp only [*]
    · exact no_ok k
  · exact no_ok k
theorem compN_ok (er : ER e env) (hr : HR t n h) {o : Oper} (k : (compN P o.op).f call e t n K = true) : aopN P env h o (KH K) := by
  obtain ⟨dst, op, ty, pos, after, guard⟩ := o
  have wmapT : ∀ {ty : TypeId} {F : TypeDesc → Value → AV → AV → Prop} {x y : Operand}, mapT P ty (fun d z => withO2 (opv env x) (opv env y) (F d z)) → withO2 (opv env x) (opv env y) fun a b => mapT P ty fun d z => F d z a b := fun {ty F x y} k => by
    obtain ⟨kt, et, d, i, z, h1, h2, h3, h4, h5, k⟩ := mapT_ok k
    refine withO_imp (fun v k => withO_imp (fun y k => ?_) k) k
    unfold mapT
    simp only [h1, h2, h3, h4, h5, if_true]
    exact k
  have wkeyT3 : ∀ {ty : TypeId} {F : TypeDesc → AV → AV → AV → Prop} {x y z : Operand}, keyT P ty (fun d => withO2 (opv env x) (opv env y) fun a b => withO (opv env z) fun c => F d a b c) → withO2 (opv env x) (opv env y) fun a b => withO (opv env z) fun c => keyT P ty fun d => F d a b c := fun {ty F x y z} k => by
    obtain ⟨kt, et, d, h1, h2, k⟩ := keyT_ok k
    refine withO_imp (fun v k => withO_imp (fun y k => withO_imp (fun w k => ?_) k) k) k
    unfold keyT
    simp only [h1, h2]
    exact k
  cases op <;> simp only [compN] at k <;> simp only [aopN]
  case makeMap ty re =>
    cases re with
    | none => exact ⟨tMakeMap_ok hr k⟩
    | some x => exact no_ok k
  case lookup ty x i ok =>
    refine wmapT (cMapT_ok (fun d z k => ?_) k)
    exact q2t_ok er hr (p := fun v u h K => qLookup d ok (ofV z) v u h K) (fun _ _ _ k => ⟨tLookup_ok hr k⟩) (fun _ _ _ _ hk k => qLookup_mono hk _ _ _ _ _ _ k) k
  case mapUpdate ty m kk v =>
    refine wkeyT3 (cKeyT_ok (fun d k => ?_) k)
    exact s3_ok er hr (p := fun v u w h K => qMapUpdate d v u w h K) (fun _ _ _ _ k => ⟨tMapUpdate_ok hr k⟩) k
  case insert ty m kk v =>
    refine wkeyT3 (cKeyT_ok (fun d k => ?_) k)
    exact s3_ok er hr (p := fun v u w h K => qMapUpdate d v u w h K) (fun _ _ _ _ k => ⟨tMapUpdate_ok hr k⟩) k
  case mapEntry ty m kk =>
    refine wmapT (cMapT_ok (fun d z k => ?_) k)
    exact e2_ok er hr (p := fun v u h K => qMapEntry d (ofV z) v u h K) (fun _ _ _ k => ⟨tMapEntry_ok hr k⟩) k
  case entryStore ty m s v => exact s3_ok er hr (p := fun v u w h K => qEntryStore v u w h K) (fun _ _ _ _ k => ⟨tEntryStore_ok hr k⟩) k
  case range ty x =>
    split at k
    · simp only [*]; exact e1_ok er hr (p := fun v h K => qRangeS v h K) (fun _ _ k => ⟨tRangeS_ok hr k⟩) k
    · simp only [*]; exact e1_ok er hr (p := fun v h K => qRangeM v h K) (fun _ _ k => ⟨tRangeM_ok hr k⟩) k
    · exact no_ok k
  case next x b =>
    cases b
    · exact e1_ok er hr (p := fun v h K => qNextM v h K) (fun _ _ k => ⟨tNextM_ok hr k⟩) k
    · exact e1_ok er hr (p := fun v h K => qNextS v h K) (fun _ _ k => ⟨tNextS_ok hr k⟩) k
  case entry x => exact q1t_ok er hr (p := fun v h K => qEntry v h K) (fun _ _ k => ⟨tEntry_ok hr k⟩) (fun _ _ _ hk k => qEntry_mono hk _ _ k) k
  case makeSlice ty l c =>
    split at k
    · split at k
      · split at k
        · split at k
          · refine withO_imp (fun v k => withO_imp (fun y k => ?_) k) (e2_ok er hr (p := fun v u h K => qMakeSlice _ _ v u h K) (fun _ _ _ k => ⟨tMakeSlice_ok hr k⟩) k)
            simp only [*, if_true]
          · exact no_ok k
        · exact no_ok k
      · exact no_ok k
    · exact no_ok k
  case convert s d x =>
    split at k
    · split at k
      · simp only [*, if_true]; exact q1t_ok er hr (p := fun v h K => qBytesStr v h K) (fun _ _ k => ⟨tBytesStr_ok hr k⟩) (fun _ _ _ hk k => qBytesStr_mono hk _ _ k) k
      · exact no_ok k
    · split at k
      · simp only [*, if_true]; exact e1_ok er hr (p := fun v h K => qStrBytes v h K) (fun _ _ k => ⟨tStrBytes_ok hr k⟩) k
      · exact no_ok k
    · exact no_ok k
  case binOp op ty x y yt =>
    split at k
    · split at k
      · split at k
        · simp only [*, if_true]
          exact q2_ok er hr (p := fun v u K => qEqS op _ v u K) (fun _ _ _ k => ⟨bEqS_ok _ _ _ _ k⟩) (fun _ _ _ _ hk k => qEqS_mono hk _ _ _ _ k) k
        · exact no_ok k
      · exact no_ok k
    · rename_i hns
      have : withO (opv env x) fun a => aNilCmp P op ty a y fun r => KH K r h := by
        unfold cNilCmp at k
        unfold aNilCmp
        split at k
        · simp only [*]; exact q1_ok er hr (p := fun v K => qIsNilS op v K) (fun _ _ k => ⟨bIsNilS_ok _ _ k⟩) (fun _ _ _ hk k => qIsNilS_mono hk _ _ k) k
        · simp only [*]; exact q1_ok er hr (p := fun v K => qIsNilM op v K) (fun _ _ k => ⟨bIsNilM_ok _ _ k⟩) (fun _ _ _ hk k => qIsNilM_mono hk _ _ k) k
        · simp only [*]; exact q1_ok er hr (p := fun v K => qIsNilI op v K) (fun _ _ k => ⟨bIsNilI_ok _ _ k⟩) (fun _ _ _ hk k => qIsNilI_mono hk _ _ k) k
        · simp only [*]; exact q1_ok er hr (p := fun v K => qIsNilF op v K) (fun _ _ k => ⟨bIsNilF_ok _ _ k⟩) (fun _ _ _ hk k => qIsNilF_mono hk _ _ k) k
        · exact no_ok k
      split
      · rename_i he; exact (hns _ he).elim
      · exact this
  case call c =>
    split at k
    · rename_i hc
      simp only [hc]
      split at k
      · rename_i m kk ty rest ha ht
        obtain ⟨kt, et, d, h1, h2, k⟩ := keyT_ok (cKeyT_ok (F := fun d => withO2 (opv env m) (opv env kk) fun a b => qDelete d a b h fun h' => KH K (.tup []) h') (fun d k => s2_ok er hr (p := fun v u h K => qDelete d v u h K) (fun _ _ _ k => ⟨tDelete_ok hr k⟩) k) k)
        obtain ⟨a, h3, k⟩ := withO_ok k
        obtain ⟨b, h4, k⟩ := withO_ok k
        rw [ha, ht]
        simp only [opvs, h3, h4, withL]
        unfold keyT
        simp only [h1, h2]
        exact k
      · exact no_ok k
    · exact no_ok k
  all_goals exact no_ok k
theorem compB_ok (hcall : CallOk P call) (er : ER e env) (hr : HR t n h) {o : Oper} (k : (compB P o.op).f call e t n K = true) : aopB P env h o (KH K) := by
  unfold compB at k
  unfold aopB
  split at k
  · rename_i hn; rw [if_pos hn]; exact compN_ok er hr k
  · rename_i hn; rw [hn, if_neg (by simp)]; exact comp1_ok hcall er hr k
omit [Tabs] in
theorem idxL_eq (c : UInt8) : ∀ (l : List UInt8) (i : Nat), idxL l c i = if Lib.indexByte l c = -1 then -1 else Lib.indexByte l c + i
  | [], i => rfl
  | b :: l, i => by
    have ih := idxL_eq c l (i + 1)
    have hge := Lib.indexByte_ge l c
    have e1 : idxL (b :: l) c i = if (b == c) = true then (i : Int) else idxL l c (i + 1) := by
      show @Bool.casesOn (fun _ => Int) (uEq b c) (idxL l c (i + 1)) (.ofNat i) = _
      rw [uEq_eq]
      cases hb : (b == c) <;> rfl
    rw [e1, ih]
    simp only [Lib.indexByte]
    by_cases hb : (b == c) = true
    · simp [hb]
    · simp only [hb, if_false]
      by_cases h1 : Lib.indexByte l c = -1
      · simp [h1]
      · rw [if_neg h1, if_neg (show ¬ (Lib.indexByte l c == -1) = true by simpa using h1)]
        simp only [Bool.false_eq_true, if_false]
        rw [if_neg (by omega)]; omega
omit [Tabs] in
theorem cntL_eq (c : UInt8) : ∀ (l : List UInt8) (n : Nat), cntL l c n = n + Lib.countByte l c
  | [], n => rfl
  | b :: l, n => by
    have e1 : cntL (b :: l) c n = cntL l c (if (b == c) = true then n + 1 else n) := by
      show cntL l c (@Bool.casesOn (fun _ => Nat) (uEq b c) n (n + 1)) = _
      rw [uEq_eq]
      cases hb : (b == c) <;> rfl
    rw [e1, cntL_eq c l]
    simp only [Lib.countByte, List.count_cons]
    cases hb : (b == c) <;> simp <;> omega
omit [Tabs] in
theorem tExt_ok {x : Ext} {vs : List AV} {K : AV → Bool} (k : tExt x vs K = true) : pExt x vs fun r => K r = true := by
  unfold tExt at k
  split at k
  · rw [fI_eq, idxL_eq] at k
    show K (I (Lib.indexByte _ _)) = true
    split at k
    · rename_i h1; rw [h1]; exact k
    · simpa using k
  · rw [fN_eq, cntL_eq] at k
    show K (I (Lib.countByte _ _)) = true
    simpa using k
  · exact k
  · rw [fN_eq] at k; exact k
  · cases k
omit [Tabs] in
theorem minN_eq (m n : Nat) : minN m n = Nat.min m n := by
  show @Bool.casesOn (fun _ => Nat) (Nat.ble m n) n m = min m n
  cases h : Nat.ble m n
  · have : ¬ m ≤ n := fun e => by rw [Nat.ble_eq_true_of_le e] at h; cases h
    exact (Nat.min_eq_right (Nat.le_of_not_le this)).symm
  · exact (Nat.min_eq_left (Nat.le_of_ble_eq_true h)).symm
theorem tCopy_ok (r : HR t n h) {size : Nat} {v x : AV} {K : AV → HT → Nat → Bool} (k : tCopy size v x t n K = true) : eCopy size v x h (KH K) := by
  unfold tCopy at k
  unfold eCopy
  split at k
  · cases k
  · rename_i m xs hx
    simp only [tElems_eq r hx]
    split at k
    · split at k
      · rename_i cs hc
        simp only [r.at_ _ _ hc]
        simp only [Bool.and_eq_true, decide_eq_true_eq, fN_eq, minN_eq] at k
        exact ⟨k.1, _, _, r.set hc, k.2⟩
      · cases k
    · rw [bA_eq, minN_eq] at k
      exact ⟨Nat.eq_of_beq_eq_true k.1, _, _, r, k.2⟩
    · rw [bA_eq, minN_eq] at k
      exact ⟨Nat.eq_of_beq_eq_true k.1, _, _, r, k.2⟩
    · cases k
theorem tClear_ok (r : HR t n h) {size : Nat} {u v : AV} {K : HT → Nat → Bool} (k : tClear size u v t n K = true) : eClear size u v h (KS K) := by
  unfold tClear at k
  unfold eClear
  split at k
  · split at k
    · rename_i cs hc
      simp only [r.at_ _ _ hc]
      simp only [Bool.and_eq_true, decide_eq_true_eq] at k
      exact ⟨k.1, _, _, r.set hc, k.2⟩
    · cases k
  · exact ⟨_, _, r, k⟩
  · exact ⟨_, _, r, k⟩
  · cases k
theorem cRowT_ok {ts : Array TypeId} {F : Value → TypeInfo → ClO} {K : AV → HT → Nat → Bool} {T : Value → TypeInfo → Prop} (hk : ∀ z i, (F z i).f call e t n K = true → T z i) (k : (cRowT P ts F).f call e t n K = true) : rowT P ts T := by
  unfold cRowT at k
  unfold rowT
  split at k
  · split at k
    · split at k
      · split at k
        · split at k
          · simp only [*, if_true]
          · exact no_ok k
        · exact no_ok k
      · exact no_ok k
    · exact no_ok k
  · exact no_ok k
def TabOk (tb : TabB) : Prop := ∀ g cs, tb g = some cs → Tabs.tab g = some cs
theorem compXX_ok {tb : TabB} (ht : TabOk tb) (er : ER e env) (hr : HR t n h) {o : Oper} (k : (compXX P tb o.op).f call e t n K = true) : aopX P env h o (KH K) := by
  obtain ⟨dst, op, ty, pos, after, guard⟩ := o
  cases op <;> simp only [compXX] at k <;> simp only [aopX] <;> try exact no_ok k
  case call c =>
    split at k
    · rename_i f hc
      simp only [hc]
      split at k
      · rename_i x hx
        obtain ⟨vs, h1, k⟩ := compXs_ok er k
        rw [h1]
        simp only [withL, hx]
        exact ⟨pExt_mono (fun r k => kh hr k) (tExt_ok k)⟩
      · exact no_ok k
    · rename_i hc
      simp only [hc]
      cases hvs : opvs env c.args.toList with
      | none =>
        exfalso
        have : rowT P c.argTypes fun _ _ => False := cRowT_ok (fun z i k => by
          split at k
          · rename_i x y ha
            simp only [e2] at k
            obtain ⟨v, h1, k⟩ := compX_ok er k
            obtain ⟨u, h2, k⟩ := compX_ok er k
            rw [ha] at hvs; simp [opvs, h1, h2] at hvs
          · exact no_ok k) k
        obtain ⟨_, _, _, _, _, _, _, _, _, hf⟩ := rowT_ok this
        exact hf
      | some vs =>
        refine cRowT_ok (fun z i k => ?_) k
        split at k
        · rename_i x y ha
          simp only [e2] at k
          obtain ⟨v, h1, k⟩ := compX_ok er k
          obtain ⟨u, h2, k⟩ := compX_ok er k
          rw [ha] at hvs
          simp only [opvs, h1, h2, Option.some.injEq] at hvs
          subst hvs
          exact ⟨tCopy_ok hr k⟩
        · exact no_ok k
    · rename_i hc
      simp only [hc]
      cases hvs : opvs env c.args.toList with
      | none =>
        exfalso
        have : rowT P c.argTypes fun _ _ => False := cRowT_ok (fun z i k => by
          split at k
          · rename_i x ha
            obtain ⟨v, h1, k⟩ := compX_ok er k
            rw [ha] at hvs; simp [opvs, h1] at hvs
          · exact no_ok k) k
        obtain ⟨_, _, _, _, _, _, _, _, _, hf⟩ := rowT_ok this
        exact hf
      | some vs =>
        refine cRowT_ok (fun z i k => ?_) k
        split at k
        · rename_i x ha
          obtain ⟨v, h1, k⟩ := compX_ok er k
          rw [ha] at hvs
          simp only [opvs, h1, Option.some.injEq] at hvs
          subst hvs
          exact ⟨tClear_ok hr k⟩
        · exact no_ok k
    · exact no_ok k
  case indexAddr ty x i =>
    cases x <;> simp only at k ⊢ <;> try exact no_ok k
    split at k
    · rename_i cs hg
      simp only [ht _ _ hg]
      split at k
      · split at k
        · refine withO_imp (fun v k => ?_) (q1_ok er hr (p := fun v K => qIndexAddrA _ _ (.cptr cs) v K) (fun _ _ k => ⟨bIndexAddrA_ok _ _ _ _ k⟩) (fun _ _ _ hk k => qIndexAddrA_mono hk _ _ _ _ k) k)
          unfold aIndexAddr; simp only [*]
        · exact no_ok k
      · exact no_ok k
    · exact no_ok k
  case load ty x =>
    cases x <;> simp only at k ⊢ <;> try exact no_ok k
    split at k
    · rename_i cs hg
      simp only [ht _ _ hg]
      unfold cLoadC at k
      unfold aLoad
      split at k
      · split at k
        · simp only [*, if_true]; exact qLoadA_mono (fun r k => kh hr k) _ _ _ ⟨tLoadA_ok hr k⟩
        · simp only [*, Bool.false_eq_true, if_false]; exact qLoad1_mono (fun r k => kh hr k) _ _ ⟨tLoad1_ok hr k⟩
      · exact no_ok k
    · exact no_ok k
theorem compO_ok {tb : TabB} (ht : TabOk tb) (hcall : CallOk P call) (er : ER e env) (hr : HR t n h) {o : Oper} (k : (compO P tb o.op).f call e t n K = true) : aop P env h o (KH K) := by
  unfold compO at k
  unfold aop
  split at k
  · rename_i hn; rw [if_pos hn]; exact compXX_ok ht er hr k
  · rename_i hn; rw [hn, if_neg (by simp)]; exact compB_ok hcall er hr k
end
end
end
section
noncomputable section
structure ClR where
  f : CallB → ET → HT → Nat → (ET → HT → Nat → Bool) → Bool
structure PD where
  q : Nat
  o : Oper
  e : ET
  v : AV
structure ClD where
  f : CallB → ET → HT → Nat → List PD → (ET → HT → Nat → List PD → Bool) → Bool
structure ClC where
  f : CallB → ET → HT → Nat → (Exit → ET → HT → Nat → Bool) → Bool
structure ClF where
  f : CallB → List AV → HT → Nat → (AV → HT → Nat → Bool) → Bool
structure ClV where
  f : ET → HT → (List AV → Bool) → Bool
def noR : ClR := ⟨fun _ _ _ _ _ => false⟩
def noD : ClD := ⟨fun _ _ _ _ _ _ => false⟩
def noC : ClC := ⟨fun _ _ _ _ _ => false⟩
def noF : ClF := ⟨fun _ _ _ _ _ => false⟩
def putE (e : ET) (d : Option Tmp) (v : AV) : ET := match d with | some d => (lens d).s e v | none => e
def compS (P : Program) (tb : TabB) (nt : Nat) (o : Oper) : ClR := match dstOk nt o.dst with
  | true => (match o.dst with
    | some d => ⟨fun c e t n K => (compO P tb o.op).f c e t n fun v t n => K ((lens d).s e v) t n⟩
    | none => ⟨fun c e t n K => (compO P tb o.op).f c e t n fun _ t n => K e t n⟩)
  | false => noR
def ifV (v : AV) (x y : Bool) : Bool := match v with | .lit (.bool true) => x | .lit (.bool false) => y | _ => false
def ifV3 (g : Bool) (v : AV) (x y z : Bool) : Bool := match v with | .lit (.bool true) => x | .lit (.bool false) => y | .tup [] => bA g z | _ => false
def compIx (P : Program) (tb : TabB) (nt : Nat) (ops : Array Oper) : List Nat → ClR
  | [] => ⟨fun _ e t n K => K e t n⟩
  | i :: rest => match ops[i]? with
    | none => noR
    | some o => match o.guard with
      | none => ⟨fun c e t n K => (compS P tb nt o).f c e t n fun e t n => (compIx P tb nt ops rest).f c e t n K⟩
      | some (j, want) => match (ops[j]?).bind (·.dst) with
        | none => noR
        | some s => match want with
          | true => ⟨fun c e t n K => oM ((lens s).g e) fun v => ifV3 (gdOf ops j) v ((compS P tb nt o).f c e t n fun e t n => (compIx P tb nt ops rest).f c e t n K) (bA (dstOk nt o.dst) ((compIx P tb nt ops rest).f c (putE e o.dst (.tup [])) t n K)) (bA (dstOk nt o.dst) ((compIx P tb nt ops rest).f c (putE e o.dst (.tup [])) t n K))⟩
          | false => ⟨fun c e t n K => oM ((lens s).g e) fun v => ifV3 (gdOf ops j) v (bA (dstOk nt o.dst) ((compIx P tb nt ops rest).f c (putE e o.dst (.tup [])) t n K)) ((compS P tb nt o).f c e t n fun e t n => (compIx P tb nt ops rest).f c e t n K) (bA (dstOk nt o.dst) ((compIx P tb nt ops rest).f c (putE e o.dst (.tup [])) t n K))⟩
def litEq : Value → Value → Bool
  | .bool a, .bool b => a == b
  | .int j a, .int k b => kEq j k && iEq a b
  | .string a, .string b => sEq a b
  | .pointer none, .pointer none => true
  | .map none, .map none => true
  | .nilFunc, .nilFunc => true
  | .nilIface, .nilIface => true
  | _, _ => false
theorem litEq_ok {a b : Value} (h : litEq a b = true) : a = b := by
  unfold litEq at h
  split at h <;> first
    | rfl
    | (cases h; done)
    | (simp only [beq_iff_eq] at h; rw [h])
    | (simp only [Bool.and_eq_true, kEq_iff, iEq_iff] at h; rw [h.1, h.2])
    | (rw [sEq_iff] at h; rw [h])
def fnEq : Fn → Fn → Bool
  | .func a, .func b => Nat.beq a b
  | _, _ => false
mutual
def avEq : AV → AV → Bool
  | .lit a, .lit b => litEq a b
  | .ptr i o, .ptr j p => Nat.beq i j && Nat.beq o p
  | .cptr a, .cptr b => avEqL a b
  | .sl i o l s, .sl j p m r => Nat.beq i j && Nat.beq o p && Nat.beq l m && Nat.beq s r
  | .snap n a, .snap m b => Nat.beq n m && avEqL a b
  | .full n a, .full m b => Nat.beq n m && avEqL a b
  | .map i, .map j => Nat.beq i j
  | .fn f a b, .fn g c d => fnEq f g && (avEqL a c && avEqL b d)
  | .iface t v, .iface u w => Nat.beq t u && avEq v w
  | .agg a, .agg b => avEqL a b
  | .tup a, .tup b => avEqL a b
  | .sym i, .sym j => Nat.beq i j
  | _, _ => false
def avEqL : List AV → List AV → Bool
  | [], [] => true
  | a :: l, b :: m => avEq a b && avEqL l m
  | _, _ => false
end
theorem fnEq_ok : ∀ {a b : Fn}, fnEq a b = true → a = b
  | .func a, .func b, h => by have := Nat.eq_of_beq_eq_true h; rw [this]
mutual
theorem avEq_ok : ∀ (a b : AV), avEq a b = true → a = b
  | .lit a, b, h => by cases b <;> simp only [avEq] at h <;> first | (cases h; done) | (rw [litEq_ok h])
  | .ptr i o, b, h => by
    cases b <;> simp only [avEq, Bool.and_eq_true] at h <;> first | (cases h; done) | skip
    rw [Nat.eq_of_beq_eq_true h.1, Nat.eq_of_beq_eq_true h.2]
  | .cptr a, b, h => by cases b <;> simp only [avEq] at h <;> first | (cases h; done) | (rw [avEqL_ok _ _ h])
  | .sl i o l s, b, h => by
    cases b <;> simp only [avEq, Bool.and_eq_true] at h <;> first | (cases h; done) | skip
    rw [Nat.eq_of_beq_eq_true h.1.1.1, Nat.eq_of_beq_eq_true h.1.1.2, Nat.eq_of_beq_eq_true h.1.2, Nat.eq_of_beq_eq_true h.2]
  | .snap n a, b, h => by
    cases b <;> simp only [avEq, Bool.and_eq_true] at h <;> first | (cases h; done) | skip
    rw [Nat.eq_of_beq_eq_true h.1, avEqL_ok _ _ h.2]
  | .full n a, b, h => by
    cases b <;> simp only [avEq, Bool.and_eq_true] at h <;> first | (cases h; done) | skip
    rw [Nat.eq_of_beq_eq_true h.1, avEqL_ok _ _ h.2]
  | .map i, b, h => by cases b <;> simp only [avEq] at h <;> first | (cases h; done) | (rw [Nat.eq_of_beq_eq_true h])
  | .fn f a c, b, h => by
    cases b <;> simp only [avEq, Bool.and_eq_true] at h <;> first | (cases h; done) | skip
    rw [fnEq_ok h.1, avEqL_ok _ _ h.2.1, avEqL_ok _ _ h.2.2]
  | .iface t v, b, h => by
    cases b <;> simp only [avEq, Bool.and_eq_true] at h <;> first | (cases h; done) | skip
    rw [Nat.eq_of_beq_eq_true h.1, avEq_ok _ _ h.2]
  | .agg a, b, h => by cases b <;> simp only [avEq] at h <;> first | (cases h; done) | (rw [avEqL_ok _ _ h])
  | .tup a, b, h => by cases b <;> simp only [avEq] at h <;> first | (cases h; done) | (rw [avEqL_ok _ _ h])
  | .sym i, b, h => by cases b <;> simp only [avEq] at h <;> first | (cases h; done) | (rw [Nat.eq_of_beq_eq_true h])
theorem avEqL_ok : ∀ (a b : List AV), avEqL a b = true → a = b
  | [], b, h => by cases b <;> simp only [avEqL] at h <;> first | rfl | (cases h; done)
  | a :: l, b, h => by
    cases b <;> simp only [avEqL, Bool.and_eq_true] at h <;> first | (cases h; done) | skip
    rw [avEq_ok _ _ h.1, avEqL_ok _ _ h.2]
end
def pendB (P : Program) (tb : TabB) (c : CallB) (m : Nat) (t : HT) (n : Nat) (k : Bool) : List PD → Bool
  | [] => k
  | ⟨q, o, e, v⟩ :: r => bI (Nat.testBit m q) (pendB P tb c m t n k r) (bA ((compO P tb o.op).f c e t n fun r _ _ => avEq r v) (pendB P tb c m t n k r))
def compSD (P : Program) (tb : TabB) (nt : Nat) (m i : Nat) (o : Oper) : ClD := match dstOk nt o.dst with
  | true => (match qOp P o.op with
    | true => (match hOp P o.op with
      | true => ⟨fun c e t n pd K => (compO P tb o.op).f c e t n fun v t n => K (putE e o.dst v) t n (⟨i, o, e, v⟩ :: pd)⟩
      | false => ⟨fun c e t n pd K => (compO P tb o.op).f c e t n fun v t n => K (putE e o.dst v) t n pd⟩)
    | false => ⟨fun c e t n pd K => (compO P tb o.op).f c e t n fun v t n => pendB P tb c m t n (K (putE e o.dst v) t n pd) pd⟩)
  | false => noD
def compD (P : Program) (tb : TabB) (nt : Nat) (ops : Array Oper) (ms : List (Nat × Nat)) : List Nat → ClD
  | [] => ⟨fun _ e t n pd K => K e t n pd⟩
  | i :: rest => match ops[i]? with
    | none => noD
    | some o => match o.guard with
      | none => ⟨fun c e t n pd K => (compSD P tb nt (mask ms i) i o).f c e t n pd fun e t n pd => (compD P tb nt ops ms rest).f c e t n pd K⟩
      | some (j, want) => match (ops[j]?).bind (·.dst) with
        | none => noD
        | some s => match want with
          | true => ⟨fun c e t n pd K => oM ((lens s).g e) fun v => ifV3 (gdOf ops j) v ((compSD P tb nt (mask ms i) i o).f c e t n pd fun e t n pd => (compD P tb nt ops ms rest).f c e t n pd K) (bA (dstOk nt o.dst) ((compD P tb nt ops ms rest).f c (putE e o.dst (.tup [])) t n pd K)) (bA (dstOk nt o.dst) ((compD P tb nt ops ms rest).f c (putE e o.dst (.tup [])) t n pd K))⟩
          | false => ⟨fun c e t n pd K => oM ((lens s).g e) fun v => ifV3 (gdOf ops j) v (bA (dstOk nt o.dst) ((compD P tb nt ops ms rest).f c (putE e o.dst (.tup [])) t n pd K)) ((compSD P tb nt (mask ms i) i o).f c e t n pd fun e t n pd => (compD P tb nt ops ms rest).f c e t n pd K) (bA (dstOk nt o.dst) ((compD P tb nt ops ms rest).f c (putE e o.dst (.tup [])) t n pd K))⟩
def pickO (P : Program) (ops : Array Oper) (done : List Nat) : Option Nat :=
  let ready := (List.range ops.size).filter fun i => !done.contains i && (match ops[i]? with | some o => (preds o).all done.contains | none => false)
  match ready.find? (fun i => match ops[i]? with | some o => qOp P o.op | none => false) with
  | some i => some i
  | none => ready.head?
def autoO (P : Program) (ops : Array Oper) : Nat → List Nat → List Nat
  | 0, done => done.reverse
  | k + 1, done => match pickO P ops done with
    | some i => autoO P ops k (i :: done)
    | none => done.reverse
def theOrder (P : Program) (ops : Array Oper) : Option (List Nat) :=
  match canonOk P ops (autoO P ops ops.size []) with
  | true => some (autoO P ops ops.size [])
  | false => match canonOk P ops (List.range ops.size) with
    | true => some (List.range ops.size)
    | false => none
def iterI (body : ClC) (c : CallB) : Nat → ET → HT → Nat → (Exit → ET → HT → Nat → Bool) → Bool
  | 0, _, _, _, _ => false
  | k + 1, e, t, n, K => body.f c e t n fun ex e t n => match ex with | .normal => iterI body c k e t n K | ex => K ex e t n
def iterC (body : ClC) (c : CallB) (k : Nat) : ET → HT → Nat → (Exit → ET → HT → Nat → Bool) → Bool :=
  @Nat.rec (fun _ => ET → HT → Nat → (Exit → ET → HT → Nat → Bool) → Bool) (fun _ _ _ _ => false) (fun _ ih e t n K => body.f c e t n fun ex e t n => match ex with | .normal => ih e t n K | ex => K ex e t n) k
def loopMost : Nat := 1000000
def labelOf : Code → Option Nat
  | .label l => some l
  | .seq a b => match labelOf a with | some l => some l | none => labelOf b
  | .cond _ a b => match labelOf a with | some l => some l | none => labelOf b
  | .block _ b => labelOf b
  | .loop b => labelOf b
  | _ => none
def jumpK (l : Nat) (again : ET → HT → Nat → Bool) (K : Exit → ET → HT → Nat → Bool) : Exit → ET → HT → Nat → Bool :=
  fun ex e t n => match ex with | .goto l' => bA (Nat.beq l' l) (again e t n) | ex => K ex e t n
def iterGI (body : ClC) (c : CallB) (l : Nat) : Nat → ET → HT → Nat → (Exit → ET → HT → Nat → Bool) → Bool
  | 0, _, _, _, _ => false
  | k + 1, e, t, n, K => body.f c e t n (jumpK l (fun e t n => iterGI body c l k e t n K) K)
def iterG (body : ClC) (c : CallB) (l : Nat) (k : Nat) : ET → HT → Nat → (Exit → ET → HT → Nat → Bool) → Bool :=
  @Nat.rec (fun _ => ET → HT → Nat → (Exit → ET → HT → Nat → Bool) → Bool) (fun _ _ _ _ => false) (fun _ ih e t n K => body.f c e t n (jumpK l (fun e t n => ih e t n K) K)) k
def compC1 (P : Program) (tb : TabB) (nt : Nat) (jmp : Code → ClC) : Code → ClC
  | .skip => ⟨fun _ e t n K => K .normal e t n⟩
  | .ret => ⟨fun _ e t n K => K .ret e t n⟩
  | .exit id => ⟨fun _ e t n K => K (.exit id) e t n⟩
  | .goto l => ⟨fun _ e t n K => K (.goto l) e t n⟩
  | .label _ => ⟨fun _ e t n K => K .normal e t n⟩
  | .region _ ops d => match d with
    | false => ⟨fun c e t n K => (compIx P tb nt ops (List.range ops.size)).f c e t n fun e t n => K .normal e t n⟩
    | true => match theOrder P ops, P.follows .mixedOrders with
      | some l, true => ⟨fun c e t n K => (compD P tb nt ops (closeM ops l []) l).f c e t n [] fun e t n _ => K .normal e t n⟩
      | _, _ => noC
  | .seq x y => ⟨fun c e t n K => (compC1 P tb nt jmp x).f c e t n fun ex e t n => match ex with | .normal => (compC1 P tb nt jmp y).f c e t n K | ex => K ex e t n⟩
  | .cond x a b => ⟨fun c e t n K => (compX x).f e fun v => ifV v ((compC1 P tb nt jmp a).f c e t n K) ((compC1 P tb nt jmp b).f c e t n K)⟩
  | .block id x => ⟨fun c e t n K => (compC1 P tb nt jmp x).f c e t n fun ex e t n => match ex with | .exit i => bI (Nat.beq i id) (K .normal e t n) (K (.exit i) e t n) | ex => K ex e t n⟩
  | .loop x => ⟨fun c e t n K => iterC (compC1 P tb nt jmp x) c loopMost e t n K⟩
  | .scope x => match labelOf x with
    | some l => (match findLabel x l with
      | some rest => ⟨fun c e t n K => (compC1 P tb nt jmp x).f c e t n (jumpK l (fun e t n => iterG (jmp rest) c l loopMost e t n K) K)⟩
      | none => noC)
    | none => noC
  | _ => noC
def compC0 (P : Program) (tb : TabB) (nt : Nat) : Code → ClC := compC1 P tb nt fun _ => noC
def compC (P : Program) (tb : TabB) (nt : Nat) : Code → ClC := compC1 P tb nt (compC0 P tb nt)
def compV (P : Program) : List ResultVar → ClV
  | [] => ⟨fun _ _ K => K []⟩
  | .tmp s :: rs => ⟨fun e t K => oM ((lens s).g e) fun v => (compV P rs).f e t fun vs => K (v :: vs)⟩
  | .cell a ty :: rs => match P.underlying ty, P.info? ty with
    | some d, some i => (match isAggD d with
      | true => ⟨fun e t K => oM ((lens a).g e) fun p => tLoadA i.size p t fun v => (compV P rs).f e t fun vs => K (v :: vs)⟩
      | false => ⟨fun e t K => oM ((lens a).g e) fun p => tLoad1 p t fun v => (compV P rs).f e t fun vs => K (v :: vs)⟩)
    | _, _ => ⟨fun _ _ _ => false⟩
def envOf : Nat → List AV → ET
  | _, [] => ee0
  | k, v :: vs => (lens k).s (envOf (k + 1) vs) v
def compF (P : Program) (tb : TabB) (fn : Func) : ClF := match fn.body with
  | none => noF
  | some c => match fn.name == "runtime.NumGoroutine" with
    | true => noF
    | false => ⟨fun call args t n K => bA (Nat.ble args.length fn.ntmps) ((compC P tb fn.ntmps c).f call (envOf 0 args) t n fun ex e t n => match ex with
      | .normal => (compV P fn.results.toList).f e t fun vs => K (oneOr vs) t n
      | .ret => (compV P fn.results.toList).f e t fun vs => K (oneOr vs) t n
      | _ => false)⟩
abbrev SpecB := FuncId → List AV → HT → Nat → (AV → HT → Nat → Bool) → Option Bool
variable [Tabs]
section
variable {P : Program} {nt : Nat} {call : CallB} {tb : TabB}
def KE (K : ET → HT → Nat → Bool) (env : Env) (h : AHeap) : Prop := ∃ e t n, ER e env ∧ HR t n h ∧ K e t n = true
theorem ER.putD {e : ET} {env : Env} (r : ER e env) (d : Option Tmp) (v : AV) : ER (putE e d v) (putD env d v) := by
  cases d with
  | none => exact r
  | some d => exact r.put d v
theorem ER.know {e : ET} {env : Env} (r : ER e env) {s : Nat} {v : AV} (h : (lens s).g e = some v) : ER e ((s, v) :: env) := fun k u hu => by
  simp only [AL.get]
  by_cases hk : s = k
  · subst hk; rw [if_pos rfl, ← h, hu]
  · rw [if_neg hk]; exact r k u hu
theorem compS_ok (ht : TabOk tb) (hc : CallOk P call) {o : Oper} {e : ET} {env : Env} {t : HT} {n : Nat} {h : AHeap} {K : ET → HT → Nat → Bool} (er : ER e env) (hr : HR t n h) (k : (compS P tb nt o).f call e t n K = true) : stepO P nt env h o (KE K) := by
  unfold compS at k
  unfold stepO
  split at k
  · rename_i hd
    rw [if_pos hd]
    split at k
    · rename_i d ho
      refine aop_mono (fun v h' k => ?_) (compO_ok ht hc er hr k)
      obtain ⟨t', n', hr', k⟩ := k
      refine ⟨_, t', n', ?_, hr', k⟩
      rw [ho]; exact er.put d v
    · rename_i ho
      refine aop_mono (fun v h' k => ?_) (compO_ok ht hc er hr k)
      obtain ⟨t', n', hr', k⟩ := k
      refine ⟨_, t', n', ?_, hr', k⟩
      rw [ho]; exact er
  · cases k
theorem oM_ok {o : Option AV} {K : AV → Bool} (k : oM o K = true) : ∃ v, o = some v ∧ K v = true := by
  unfold oM at k; split at k
  · exact ⟨_, rfl, k⟩
  · cases k
theorem ifV_ok {v : AV} {x y : Bool} (k : ifV v x y = true) : (v = B true ∧ x = true) ∨ (v = B false ∧ y = true) := by
  unfold ifV at k; split at k
  · exact .inl ⟨rfl, k⟩
  · exact .inr ⟨rfl, k⟩
  · cases k
theorem ifV3_ok {g : Bool} {v : AV} {x y z : Bool} (k : ifV3 g v x y z = true) : (v = B true ∧ x = true) ∨ (v = B false ∧ y = true) ∨ (v = .tup [] ∧ g = true ∧ z = true) := by
  unfold ifV3 at k; split at k
  · exact .inl ⟨rfl, k⟩
  · exact .inr (.inl ⟨rfl, k⟩)
  · rw [bA_eq] at k; exact .inr (.inr ⟨rfl, k⟩)
  · cases k
theorem denIx_mono' {ops : Array Oper} {l : List Nat} {env : Env} {h : AHeap} {K K' : Env → AHeap → Prop} (hk : ∀ env' h', K env' h' → K' env' h') (k : denIx P nt ops l env h K) : denIx P nt ops l env h K' :=
  denIx_mono ops l env h K K' (fun env' h' _ k => hk env' h' k) k
theorem stepO_mono' {env : Env} {h : AHeap} {o : Oper} {K K' : Env → AHeap → Prop} (hk : ∀ env' h', K env' h' → K' env' h') (k : stepO P nt env h o K) : stepO P nt env h o K' :=
  stepO_mono (fun v h' k => hk _ _ k) k
theorem compIx_ok (ht : TabOk tb) (hc : CallOk P call) (ops : Array Oper) : ∀ (l : List Nat) {e : ET} {env : Env} {t : HT} {n : Nat} {h : AHeap} {K : ET → HT → Nat → Bool}, ER e env → HR t n h → (compIx P tb nt ops l).f call e t n K = true → denIx P nt ops l env h (KE K)
  | [], e, env, t, n, h, K, er, hr, k => ⟨e, t, n, er, hr, k⟩
  | i :: rest, e, env, t, n, h, K, er, hr, k => by
    unfold compIx at k
    unfold denIx
    split at k
    · cases k
    · rename_i o ho
      simp only [ho]
      split at k
      · rename_i hg
        simp only [hg]
        exact stepO_mono' (fun env' h' ⟨e', t', n', er', hr', k'⟩ => compIx_ok ht hc ops rest er' hr' k') (compS_ok ht hc er hr k)
      · rename_i j want hg
        simp only [hg]
        split at k
        · cases k
        · rename_i s hs
          simp only [hs]
          split at k
          · obtain ⟨v, hv, k⟩ := oM_ok k
            rw [er s _ hv]
            replace k := ifV3_ok k
            rcases k with ⟨rfl, k⟩ | ⟨rfl, k⟩ | ⟨rfl, hgd, k⟩
            · refine ifG_t ?_
              simp only [if_true]
              exact stepO_mono' (fun env' h' ⟨e', t', n', er', hr', k'⟩ => compIx_ok ht hc ops rest er' hr' k') (compS_ok ht hc (er.know hv) hr k)
            · refine ifG_f ?_
              simp only [if_true]
              rw [bA_eq] at k
              rw [if_pos k.1]
              exact compIx_ok ht hc ops rest ((er.know hv).putD _ _) hr k.2
            · simp only [withO, hgd, ifG, ifT]
              rw [bA_eq] at k
              rw [if_pos k.1]
              exact compIx_ok ht hc ops rest ((er.know hv).putD _ _) hr k.2
          · obtain ⟨v, hv, k⟩ := oM_ok k
            rw [er s _ hv]
            replace k := ifV3_ok k
            rcases k with ⟨rfl, k⟩ | ⟨rfl, k⟩ | ⟨rfl, hgd, k⟩
            · refine ifG_t ?_
              simp only [Bool.false_eq_true, if_false]
              rw [bA_eq] at k
              rw [if_pos k.1]
              exact compIx_ok ht hc ops rest ((er.know hv).putD _ _) hr k.2
            · refine ifG_f ?_
              simp only [Bool.false_eq_true, if_false]
              exact stepO_mono' (fun env' h' ⟨e', t', n', er', hr', k'⟩ => compIx_ok ht hc ops rest er' hr' k') (compS_ok ht hc (er.know hv) hr k)
            · simp only [withO, hgd, ifG, ifT]
              rw [bA_eq] at k
              rw [if_pos k.1]
              exact compIx_ok ht hc ops rest ((er.know hv).putD _ _) hr k.2
def PR (P : Program) : List PD → Pend → Prop
  | [], p => p = []
  | ⟨q, o, e, v⟩ :: r, p => ∃ env p', p = (q, fun h2 => aop P env h2 o fun r _ => r = v) :: p' ∧ ER e env ∧ PR P r p'
theorem pendB_ok (ht : TabOk tb) (hc : CallOk P call) {m : Nat} {t : HT} {n : Nat} {h : AHeap} (hr : HR t n h) {k : Bool} {X : Prop} (hk : k = true → X) : ∀ {pd : List PD} {p : Pend}, PR P pd p → pendB P tb call m t n k pd = true → pendOk m p h X
  | [], p, hp, b => by simp only [PR] at hp; subst hp; exact hk b
  | ⟨q, o, e, v⟩ :: r, p, hp, b => by
    obtain ⟨env, p', rfl, er, hp⟩ := hp
    unfold pendB at b
    unfold pendOk
    rcases (bI_eq _ _ _).1 b with ⟨hq, b⟩ | ⟨hq, b⟩
    · rw [if_pos hq]; exact pendB_ok ht hc hr hk hp b
    · rw [if_neg (by rw [hq]; simp)]
      rw [bA_eq] at b
      exact ⟨aop_mono (fun r h' ⟨t', n', _, k⟩ => avEq_ok _ _ k) (compO_ok ht hc er hr b.1), pendB_ok ht hc hr hk hp b.2⟩
def KD (P : Program) (K : ET → HT → Nat → List PD → Bool) (env : Env) (h : AHeap) (p : Pend) : Prop := ∃ e t n pd, ER e env ∧ HR t n h ∧ PR P pd p ∧ K e t n pd = true
theorem compSD_ok (ht : TabOk tb) (hc : CallOk P call) {m i : Nat} {o : Oper} {e : ET} {env : Env} {t : HT} {n : Nat} {h : AHeap} {pd : List PD} {p : Pend} {K : ET → HT → Nat → List PD → Bool} (er : ER e env) (hr : HR t n h) (hp : PR P pd p) (k : (compSD P tb nt m i o).f call e t n pd K = true) : stepD P nt m i o env h p (KD P K) := by
  unfold compSD at k
  unfold stepD
  split at k
  · rename_i hd
    rw [if_pos hd]
    split at k
    · rename_i hq
      rw [if_pos hq]
      split at k
      · rename_i hh
        refine aop_mono (fun v h' k => ?_) (compO_ok ht hc er hr k)
        obtain ⟨t', n', hr', k⟩ := k
        rw [if_pos hh]
        exact ⟨_, t', n', ⟨i, o, e, v⟩ :: pd, er.putD _ _, hr', ⟨env, p, rfl, er, hp⟩, k⟩
      · rename_i hh
        refine aop_mono (fun v h' k => ?_) (compO_ok ht hc er hr k)
        obtain ⟨t', n', hr', k⟩ := k
        rw [if_neg (by rw [hh]; simp)]
        exact ⟨_, t', n', _, er.putD _ _, hr', hp, k⟩
    · rename_i hq
      rw [if_neg (by rw [hq]; simp)]
      refine aop_mono (fun v h' k => ?_) (compO_ok ht hc er hr k)
      obtain ⟨t', n', hr', k⟩ := k
      exact pendB_ok ht hc hr' (fun k => ⟨_, t', n', _, er.putD _ _, hr', hp, k⟩) hp k
  · cases k
theorem compD_ok (ht : TabOk tb) (hc : CallOk P call) (ops : Array Oper) (ms : List (Nat × Nat)) : ∀ (l : List Nat) {e : ET} {env : Env} {t : HT} {n : Nat} {h : AHeap} {pd : List PD} {p : Pend} {K : ET → HT → Nat → List PD → Bool}, ER e env → HR t n h → PR P pd p → (compD P tb nt ops ms l).f call e t n pd K = true →
    denD P nt ops ms l env h p fun env' h' => ∃ e t n pd, ER e env' ∧ HR t n h' ∧ K e t n pd = true
  | [], e, env, t, n, h, pd, p, K, er, hr, hp, k => ⟨e, t, n, pd, er, hr, k⟩
  | i :: rest, e, env, t, n, h, pd, p, K, er, hr, hp, k => by
    unfold compD at k
    unfold denD
    have sm : ∀ {env : Env} {K' K2 : Env → AHeap → Pend → Prop} {o : Oper}, (∀ env' h' p', K' env' h' p' → K2 env' h' p') → stepD P nt (mask ms i) i o env h p K' → stepD P nt (mask ms i) i o env h p K2 := fun hk k => stepD_mono (fun v h' p' k => hk _ _ _ k) k
    split at k
    · cases k
    · rename_i o ho
      simp only [ho]
      split at k
      · rename_i hg
        simp only [hg]
        exact sm (fun env' h' p' ⟨e', t', n', pd', er', hr', hp', k'⟩ => compD_ok ht hc ops ms rest er' hr' hp' k') (compSD_ok ht hc er hr hp k)
      · rename_i j want hg
        simp only [hg]
        split at k
        · cases k
        · rename_i s hs
          simp only [hs]
          split at k
          · obtain ⟨v, hv, k⟩ := oM_ok k
            rw [er s _ hv]
            replace k := ifV3_ok k
            rcases k with ⟨rfl, k⟩ | ⟨rfl, k⟩ | ⟨rfl, hgd, k⟩
            · refine ifG_t ?_
              simp only [if_true]
              exact sm (fun env' h' p' ⟨e', t', n', pd', er', hr', hp', k'⟩ => compD_ok ht hc ops ms rest er' hr' hp' k') (compSD_ok ht hc (er.know hv) hr hp k)
            · refine ifG_f ?_
              simp only [if_true]
              rw [bA_eq] at k
              rw [if_pos k.1]
              exact compD_ok ht hc ops ms rest ((er.know hv).putD _ _) hr hp k.2
            · simp only [withO, hgd, ifG, ifT]
              rw [bA_eq] at k
              rw [if_pos k.1]
              exact compD_ok ht hc ops ms rest ((er.know hv).putD _ _) hr hp k.2
          · obtain ⟨v, hv, k⟩ := oM_ok k
            rw [er s _ hv]
            replace k := ifV3_ok k
            rcases k with ⟨rfl, k⟩ | ⟨rfl, k⟩ | ⟨rfl, hgd, k⟩
            · refine ifG_t ?_
              simp only [Bool.false_eq_true, if_false]
              rw [bA_eq] at k
              rw [if_pos k.1]
              exact compD_ok ht hc ops ms rest ((er.know hv).putD _ _) hr hp k.2
            · refine ifG_f ?_
              simp only [Bool.false_eq_true, if_false]
              exact sm (fun env' h' p' ⟨e', t', n', pd', er', hr', hp', k'⟩ => compD_ok ht hc ops ms rest er' hr' hp' k') (compSD_ok ht hc (er.know hv) hr hp k)
            · simp only [withO, hgd, ifG, ifT]
              rw [bA_eq] at k
              rw [if_pos k.1]
              exact compD_ok ht hc ops ms rest ((er.know hv).putD _ _) hr hp k.2
theorem theOrder_ok {ops : Array Oper} {l : List Nat} (h : theOrder P ops = some l) : canonOk P ops l = true := by
  unfold theOrder at h
  split at h
  · cases h; assumption
  · split at h
    · cases h; assumption
    · cases h
theorem rounds_mono {c : Code} {Q Q' : Exit → Act → World → Prop} (hq : ∀ e a w, Q e a w → Q' e a w) : ∀ (k : Nat) (a : Act) (w : World), Code.rounds P c Q k a w → Code.rounds P c Q' k a w
  | 0, a, w, h => h
  | k + 1, a, w, h => Go.wp_mono h fun e a' w' p => by
    cases e with
    | normal => exact rounds_mono hq k a' w' p
    | _ => exact hq _ _ _ p
def KX (K : Exit → ET → HT → Nat → Bool) (ex : Exit) (env : Env) (h : AHeap) : Prop := ∃ e t n, ER e env ∧ HR t n h ∧ K ex e t n = true
theorem iter_ok {c : Code} {body : ClC} (hb : ∀ {e : ET} {env : Env} {t : HT} {n : Nat} {h : AHeap} {K : Exit → ET → HT → Nat → Bool}, ER e env → HR t n h → body.f call e t n K = true → AWp P nt c env h (KX K)) :
    ∀ (k : Nat) {e : ET} {env : Env} {t : HT} {n : Nat} {h : AHeap} {K : Exit → ET → HT → Nat → Bool}, ER e env → HR t n h → iterC body call k e t n K = true →
      ∀ (G : Gh) (w : World) (a : Act), Sim G h w → a.tmps.size = nt → EnvRep G env a.tmps → Code.rounds P c (Post G h w nt a.defers (KX K)) k a w
  | 0, e, env, t, n, h, K, er, hr, k => by cases k
  | m + 1, e, env, t, n, h, K, er, hr, k => by
    intro G w a s hn r
    refine Go.wp_mono (hb er hr k G w a s hn r) fun ex a' w' p => ?_
    obtain ⟨env', h', G', ⟨e', t', n', er', hr', hk⟩, s', ev, r', hn', hd'⟩ := p
    cases ex with
    | normal =>
      have := iter_ok hb m er' hr' hk G' w' a' s' hn' r'
      exact rounds_mono (fun e a2 w2 p2 => by rw [hd'] at p2; exact p2.step ev) m a' w' this
    | _ => exact ⟨env', h', G', ⟨e', t', n', er', hr', hk⟩, s', ev, r', hn', hd'⟩
def CodeOk (P : Program) (nt : Nat) (call : CallB) (f : Code → ClC) : Prop := ∀ (c : Code) {e : ET} {env : Env} {t : HT} {n : Nat} {h : AHeap} {K : Exit → ET → HT → Nat → Bool}, ER e env → HR t n h → (f c).f call e t n K = true → AWp P nt c env h (KX K)
def jumps (P : Program) (rest : Code) (l : Nat) (Q : Exit → Act → World → Prop) : Nat → Act → World → Prop
  | 0, _, _ => False
  | n + 1, a, w => rest.wp P (Exit.jump l (jumps P rest l Q n) Q) a w
theorem jumps_mono {rest : Code} {l : Nat} {Q Q' : Exit → Act → World → Prop} (hq : ∀ e a w, Q e a w → Q' e a w) : ∀ (k : Nat) (a : Act) (w : World), jumps P rest l Q k a w → jumps P rest l Q' k a w
  | 0, a, w, h => h
  | k + 1, a, w, h => Go.wp_mono h fun e a' w' p => by
    cases e with
    | goto l' => exact ⟨p.1, jumps_mono hq k a' w' p.2⟩
    | _ => exact hq _ _ _ p
theorem wp_scope_fuel {c rest : Code} {Q : Exit → Act → World → Prop} {a : Act} {w : World} (l m : Nat) (hf : findLabel c l = some rest) (first : c.wp P (Exit.jump l (jumps P rest l Q m) Q) a w) : (Code.scope c).wp P Q a w := by
  refine wp_scope_jumps l (fun a w => ∃ k, jumps P rest l Q k a w) (fun a w => leastN fun k => jumps P rest l Q k a w) hf (Go.wp_mono first fun e a' w' p => ?_) fun a w hJ => ?_
  · cases e with
    | goto l' => exact ⟨p.1, m, p.2⟩
    | _ => exact p
  · have hsp := leastN_spec hJ
    generalize hk : leastN (fun k => jumps P rest l Q k a w) = k at hsp
    cases k with
    | zero => exact hsp.elim
    | succ k =>
      refine Go.wp_mono (show rest.wp P (Exit.jump l (jumps P rest l Q k) Q) a w from hsp) fun e a' w' p => ?_
      cases e with
      | goto l' => exact ⟨p.1, ⟨k, p.2⟩, Nat.lt_of_le_of_lt (leastN_le p.2) (Nat.lt_succ_self k)⟩
      | _ => exact p
theorem jumps_ok {rest : Code} {body : ClC} {l : Nat} (hb : ∀ {e : ET} {env : Env} {t : HT} {n : Nat} {h : AHeap} {K : Exit → ET → HT → Nat → Bool}, ER e env → HR t n h → body.f call e t n K = true → AWp P nt rest env h (KX K)) :
    ∀ (k : Nat) {e : ET} {env : Env} {t : HT} {n : Nat} {h : AHeap} {K : Exit → ET → HT → Nat → Bool}, ER e env → HR t n h → iterG body call l k e t n K = true →
      ∀ (G : Gh) (w : World) (a : Act), Sim G h w → a.tmps.size = nt → EnvRep G env a.tmps → jumps P rest l (Post G h w nt a.defers (KX K)) k a w
  | 0, e, env, t, n, h, K, er, hr, k => by cases k
  | m + 1, e, env, t, n, h, K, er, hr, k => by
    intro G w a s hn r
    have k : body.f call e t n (jumpK l (fun e t n => iterG body call l m e t n K) K) = true := k
    refine Go.wp_mono (hb er hr k G w a s hn r) fun ex a' w' p => ?_
    obtain ⟨env', h', G', ⟨e', t', n', er', hr', hk⟩, s', ev, r', hn', hd'⟩ := p
    cases ex with
    | goto l' =>
      simp only [jumpK, bA_eq] at hk
      refine ⟨Nat.eq_of_beq_eq_true hk.1, ?_⟩
      have := jumps_ok hb m er' hr' hk.2 G' w' a' s' hn' r'
      exact jumps_mono (fun e a2 w2 p2 => by rw [hd'] at p2; exact p2.step ev) m a' w' this
    | _ => exact ⟨env', h', G', ⟨e', t', n', er', hr', hk⟩, s', ev, r', hn', hd'⟩
theorem compC1_ok (ht : TabOk tb) (hc : CallOk P call) {jmp : Code → ClC} (hj : CodeOk P nt call jmp) : ∀ (c : Code) {e : ET} {env : Env} {t : HT} {n : Nat} {h : AHeap} {K : Exit → ET → HT → Nat → Bool}, ER e env → HR t n h → (compC1 P tb nt jmp c).f call e t n K = true → AWp P nt c env h (KX K) := by
  intro c
  induction c with
  | skip => exact fun er hr k => awp_skip ⟨_, _, _, er, hr, k⟩
  | ret => exact fun er hr k => awp_ret ⟨_, _, _, er, hr, k⟩
  | exit id => exact fun er hr k => awp_exit ⟨_, _, _, er, hr, k⟩
  | goto l => exact fun er hr k => awp_goto ⟨_, _, _, er, hr, k⟩
  | label l => exact fun er hr k => awp_label ⟨_, _, _, er, hr, k⟩
  | region id ops d =>
    intro e env t n h K er hr k
    cases d with
    | false => exact awp_region (denIx_mono' (fun env' h' ⟨e', t', n', er', hr', k'⟩ => ⟨e', t', n', er', hr', k'⟩) (compIx_ok ht hc ops _ er hr k))
    | true =>
      simp only [compC1] at k
      split at k
      · rename_i l hl hf
        refine awp_drawn hf (theOrder_ok hl) (denD_mono ops _ l env h [] _ _ (fun env' h' _ ⟨e', t', n', pd, er', hr', k'⟩ => ⟨e', t', n', er', hr', k'⟩) (compD_ok ht hc ops _ l er hr (pd := []) (by simp [PR]) k))
      · cases k
  | seq x y hx hy =>
    intro e env t n h K er hr k
    refine awp_seq ((hx er hr k).mono fun ex env' h' ⟨e', t', n', er', hr', k'⟩ => ?_)
    cases ex with
    | normal => exact hy er' hr' k'
    | _ => exact ⟨e', t', n', er', hr', k'⟩
  | cond x a b ha hb =>
    intro e env t n h K er hr k
    obtain ⟨v, hv, k⟩ := compX_ok er k
    refine awp_cond ?_
    rw [hv]
    rcases ifV_ok k with ⟨rfl, k1⟩ | ⟨rfl, k1⟩
    · exact ha er hr k1
    · exact hb er hr k1
  | block id x hx =>
    intro e env t n h K er hr k
    refine awp_block ((hx er hr k).mono fun ex env' h' ⟨e', t', n', er', hr', k'⟩ => ?_)
    cases ex with
    | exit i =>
      simp only [bI_eq] at k'
      rcases k' with ⟨hi, k'⟩ | ⟨hi, k'⟩
      · show if i = id then _ else _
        rw [if_pos (Nat.eq_of_beq_eq_true hi)]; exact ⟨e', t', n', er', hr', k'⟩
      · show if i = id then _ else _
        rw [if_neg (fun e => by rw [Nat.beq_eq.mpr e] at hi; cases hi)]; exact ⟨e', t', n', er', hr', k'⟩
    | _ => exact ⟨e', t', n', er', hr', k'⟩
  | loop x hx =>
    intro e env t n h K er hr k G w a s hn r
    have k' : iterC (compC1 P tb nt jmp x) call loopMost e t n K = true := k
    generalize loopMost = m at k'
    exact wp_loop_rounds m (iter_ok (fun er hr k => hx er hr k) m er hr k' G w a s hn r)
  | scope x hx =>
    intro e env t n h K er hr k
    simp only [compC1] at k
    split at k
    · rename_i l hl
      split at k
      · rename_i rest hrest
        intro G w a s hn r
        have k' : (compC1 P tb nt jmp x).f call e t n (jumpK l (fun e t n => iterG (jmp rest) call l loopMost e t n K) K) = true := k
        clear k
        generalize loopMost = m at k'
        refine wp_scope_fuel l m hrest (Go.wp_mono (hx er hr k' G w a s hn r) fun ex a' w' p => ?_)
        obtain ⟨env', h', G', ⟨e', t', n', er', hr', hk⟩, s', ev, r', hn', hd'⟩ := p
        cases ex with
        | goto l' =>
          simp only [jumpK, bA_eq] at hk
          refine ⟨Nat.eq_of_beq_eq_true hk.1, ?_⟩
          have := jumps_ok (hj rest) m er' hr' hk.2 G' w' a' s' hn' r'
          exact jumps_mono (fun e a2 w2 p2 => by rw [hd'] at p2; exact p2.step ev) m a' w' this
        | _ => exact ⟨env', h', G', ⟨e', t', n', er', hr', hk⟩, s', ev, r', hn', hd'⟩
      · cases k
    · cases k
  | _ => intro e env t n h K er hr k; cases k
theorem compC_ok (ht : TabOk tb) (hc : CallOk P call) : ∀ (c : Code) {e : ET} {env : Env} {t : HT} {n : Nat} {h : AHeap} {K : Exit → ET → HT → Nat → Bool}, ER e env → HR t n h → (compC P tb nt c).f call e t n K = true → AWp P nt c env h (KX K) :=
  compC1_ok ht hc (compC1_ok ht hc fun c {e env t n h K} er hr k => by cases k)
theorem compV_ok {e : ET} {env : Env} {t : HT} {n : Nat} {h : AHeap} (er : ER e env) (hr : HR t n h) : ∀ {rs : List ResultVar} {K : List AV → Bool}, (compV P rs).f e t K = true → resK P env h rs fun vs => K vs = true
  | [], K, k => k
  | .tmp s :: rs, K, k => by
    obtain ⟨v, hv, k⟩ := oM_ok k
    unfold resK
    rw [er s _ hv]
    exact compV_ok er hr k
  | .cell a ty :: rs, K, k => by
    simp only [compV] at k
    unfold resK
    split at k
    · split at k
      · obtain ⟨v, hv, k⟩ := oM_ok k
        rw [er a _ hv]
        show aLoad P ty v h _
        unfold aLoad
        simp only [*, if_true]
        exact qLoadA_mono (fun r k => compV_ok er hr k) _ _ _ ⟨tLoadA_ok hr k⟩
      · obtain ⟨v, hv, k⟩ := oM_ok k
        rw [er a _ hv]
        show aLoad P ty v h _
        unfold aLoad
        simp only [*, Bool.false_eq_true, if_false]
        exact qLoad1_mono (fun r k => compV_ok er hr k) _ _ ⟨tLoad1_ok hr k⟩
    · cases k
theorem resK_mono {env : Env} {h : AHeap} : ∀ {rs : List ResultVar} {K K' : List AV → Prop}, (∀ vs, K vs → K' vs) → resK P env h rs K → resK P env h rs K'
  | [], K, K', hk, k => hk _ k
  | .tmp s :: rs, K, K', hk, k => withO_imp (fun v k => resK_mono (fun vs k => hk _ k) k) k
  | .cell a ty :: rs, K, K', hk, k => withO_imp (fun v k => by
      unfold aLoad at *
      split at k
      · split at k
        · rename_i hd; rw [if_pos hd]; exact qLoadA_mono (fun r k => resK_mono (fun vs k => hk _ k) k) _ _ _ k
        · rename_i hd; rw [if_neg hd]; exact qLoad1_mono (fun r k => resK_mono (fun vs k => hk _ k) k) _ _ k
      · exact k.elim) k
theorem envOf_ok : ∀ (k : Nat) (vs : List AV), ER (envOf k vs) (env0 k vs)
  | k, [] => fun i v h => by rw [envOf, ee0_get] at h; cases h
  | k, v :: vs => (envOf_ok (k + 1) vs).put k v
theorem compF_ok (ht : TabOk tb) (hc : CallOk P call) {f : FuncId} {fn : Func} (hf : P.funcs[f]? = some fn) {args : List AV} {t : HT} {n : Nat} {h : AHeap} {K : AV → HT → Nat → Bool} (hr : HR t n h) (k : (compF P tb fn).f call args t n K = true) : ACall P f args h (KH K) := by
  unfold compF at k
  split at k
  · cases k
  · rename_i c hb
    split at k
    · cases k
    · rename_i hname
      simp only [bA_eq] at k
      obtain ⟨hn, k⟩ := k
      have hn := Nat.le_of_ble_eq_true hn
      refine ⟨⟨fn, hf, hname, by simp [hb]⟩, fun G w vs s r => ?_⟩
      refine calls_of_wp hf hb ?_
      have hl := r.length
      have hre : EnvRep G (env0 0 args) (vs.toArray ++ Array.replicate (fn.ntmps - vs.toArray.size) undef) := fun k a e => by
        obtain ⟨_, h1⟩ := env0_get args 0 k a e
        obtain ⟨v, h2, h3⟩ := r.at _ _ h1
        have hk : k < vs.length := (List.getElem?_eq_some_iff.1 h2).1
        exact ⟨v, by rw [Array.getElem?_append_left (by simpa using hk)]; simpa using h2, h3⟩
      have W := compC_ok ht hc c (envOf_ok 0 args) hr k G w { tmps := vs.toArray ++ Array.replicate (fn.ntmps - vs.toArray.size) undef, defers := [] } s (by simp; omega) hre
      have fin : ∀ {e : ET} {env' : Env} {t' : HT} {n' : Nat} {h' : AHeap}, ER e env' → HR t' n' h' → (compV P fn.results.toList).f e t' (fun vs => K (oneOr vs) t' n') = true → finK P fn.results.toList env' h' (KH K) := fun er hr k =>
        resK_mono (fun vs k => kh hr k) (compV_ok er hr k)
      refine wp_mono W fun e a w' ⟨env', h', G', ⟨e', t', n', er', hr', hk⟩, s', ev, r', hn', hd'⟩ => ?_
      cases e with
      | normal =>
        obtain ⟨v, x, q1, q2, q3⟩ := finK_ok s' r' (fin er' hr' hk)
        exact ⟨hd', x, q1, v, x, h', G', rfl, q2, q3, s', ev⟩
      | ret =>
        obtain ⟨v, x, q1, q2, q3⟩ := finK_ok s' r' (fin er' hr' hk)
        exact ⟨hd', x, q1, v, x, h', G', rfl, q2, q3, s', ev⟩
      | exit id => cases hk
      | goto l => cases hk
      | panic ch => cases hk
      | outgrown => cases hk
def SpecOk (P : Program) (sp : SpecB) : Prop := ∀ (f : FuncId) (args : List AV) (t : HT) (n : Nat) (h : AHeap) (K : AV → HT → Nat → Bool), HR t n h → sp f args t n K = some true → ACall P f args h (KH K)
end
end
end
end Go.Proofs.YtiddcelpooenfaaGreatDoor.AL
