import Derived.Test.YtbhphjpgjgigpaaGreatDoorAL20toAL22e
import Derived.Test.YtbhphjpgjgigpaaGreatDoorAL10ntoAL13v
import Derived.ScopeJumps
set_option linter.all false
set_option autoImplicit true
set_option relaxedAutoImplicit true
set_option maxRecDepth 100000
namespace Go.Proofs.YtbhphjpgjgigpaaGreatDoor.AL
noncomputable section
section
abbrev ET:=E16
abbrev lV:=FuncId→List AV→HT→Nat→(AV→HT→Nat→Bool)→Bool
structure ClX where
 f:ET→(AV→Bool)→Bool
structure ClL where
 f:ET→(List AV→Bool)→Bool
structure ClP where
 f:ET→(Option AV→Bool)→Bool
structure ClO where
 f:lV→ET→HT→Nat→(AV→HT→Nat→Bool)→Bool
def oM (o:Option AV) (K:AV→Bool):Bool:=match o with|some v=>K v|none=>false
def eV (x:Operand):ClX:=match x with
 | .tmp s=>⟨fun e K=>oM ((rC s).g e) K⟩
 | .const v=>match okV v with
   | true=>⟨fun _ K=>K (ofV v)⟩
   | false=>⟨fun _ _=>false⟩
 | .global _=>⟨fun _ _=>false⟩
 | .func f=>⟨fun _ K=>K (.fn (.func f) [] [])⟩
def rL (l:List Operand):ClL:=match l with
 | []=>⟨fun _ K=>K []⟩
 | x::xs=>⟨fun e K=>(eV x).f e fun v=>(rL xs).f e fun vs=>K (v::vs)⟩
def wZ (x:Option Operand):ClP:=match x with
 | none=>⟨fun _ K=>K none⟩
 | some x=>⟨fun e K=>(eV x).f e fun v=>K (some v)⟩
def noO:ClO:=⟨fun _ _ _ _ _=>false⟩
def q1 (x:Operand) (g:AV→(AV→Bool)→Bool):ClO:=⟨fun _ e t n K=>(eV x).f e fun v=>g v fun r=>K r t n⟩
def q1t (x:Operand) (g:AV→HT→(AV→Bool)→Bool):ClO:=⟨fun _ e t n K=>(eV x).f e fun v=>g v t fun r=>K r t n⟩
def q2 (x y:Operand) (g:AV→AV→(AV→Bool)→Bool):ClO:=⟨fun _ e t n K=>(eV x).f e fun v=>(eV y).f e fun u=>g v u fun r=>K r t n⟩
def q2t (x y:Operand) (g:AV→AV→HT→(AV→Bool)→Bool):ClO:=⟨fun _ e t n K=>(eV x).f e fun v=>(eV y).f e fun u=>g v u t fun r=>K r t n⟩
def e1 (x:Operand) (g:AV→HT→Nat→(AV→HT→Nat→Bool)→Bool):ClO:=⟨fun _ e t n K=>(eV x).f e fun v=>g v t n K⟩
def e2 (x y:Operand) (g:AV→AV→HT→Nat→(AV→HT→Nat→Bool)→Bool):ClO:=⟨fun _ e t n K=>(eV x).f e fun v=>(eV y).f e fun u=>g v u t n K⟩
def s2 (x y:Operand) (g:AV→AV→HT→Nat→(HT→Nat→Bool)→Bool):ClO:=⟨fun _ e t n K=>(eV x).f e fun v=>(eV y).f e fun u=>g v u t n fun t n=>K (.tup []) t n⟩
def s3 (x y z:Operand) (g:AV→AV→AV→HT→Nat→(HT→Nat→Bool)→Bool):ClO:=⟨fun _ e t n K=>(eV x).f e fun v=>(eV y).f e fun u=>(eV z).f e fun w=>g v u w t n fun t n=>K (.tup []) t n⟩
def Zv (c a b:AV) (K:AV→Bool):Bool:=match c with|.lit (.bool true)=>K a|.lit (.bool false)=>K b|_=>false
def P1 (P:Program) (t:TypeId) (is:List Nat) (xs:List Operand):ClO:=
 match P.underlying t,P.info? t with
 | some (.struct fs),some i=>(match i.zero,iU P fs.toList with
   | some z,some l=>(match okV z with
     | true=>⟨fun _ e t n K=>(rL xs).f e fun vs=>match zN (fun j=>l[j]?) (is.zip vs) with|some qs=>Qn (ofV z).cells qs fun r=>K r t n|none=>false⟩
     | false=>noO)
   | _,_=>noO)
 | _,_=>noO
def vR (P:Program) (t:TypeId) (m:Nat) (is:List Nat) (xs:List Operand):ClO:=
 match P.underlying t with
 | some (.slice e)=>(match P.info? e with
   | some i=>(match i.zero with
     | some _=>(match is==List.range m&&decide (m*i.size≤16777216) with
       | true=>⟨fun _ e t n K=>(rL xs).f e fun vs=>vD m i.size vs fun r=>K r t n⟩
       | false=>noO)
     | none=>noO)
   | none=>noO)
 | _=>noO
def ZF (P:Program) (t:TypeId) (x:Operand):ClO:=
 match P.underlying t,P.info? t with
 | some d,some i=>(match mc d with|true=>q1t x (E9 i.size)|false=>q1t x EP)
 | _,_=>noO
def abb (P:Program) (op:BinOp) (t:TypeId) (x y:Operand):ClO:=
 match P.underlying t with
 | some .bool=>q2 x y (Xg op)
 | some (.pointer _)=>q2 x y (Wi op)
 | some (.int _)=>q2 x y (VQ op)
 | some .string=>q2 x y (VQ op)
 | some (.float _)=>q2 x y (VQ op)
 | _=>noO
def ZD (P:Program) (s d:TypeId) (x:Operand):ClO:=
 match P.underlying s,P.underlying d with
 | some (.int _),some (.int k)=>q1 x (KI k)
 | some (.int _),some (.float k)=>q1 x (JT k)
 | some .string,some .string=>q1 x JH
 | _,_=>noO
def UW (P:Program) (t:TypeId) (x:Operand) (lo hi mx:Option Operand):ClO:=
 match P.underlying t,mx with
 | some .string,none=>⟨fun _ e t n K=>(eV x).f e fun v=>(wZ lo).f e fun l=>(wZ hi).f e fun u=>Lw v l u fun r=>K r t n⟩
 | some (.slice el),none=>(match P.info? el with|some i=>⟨fun _ e t n K=>(eV x).f e fun v=>(wZ lo).f e fun l=>(wZ hi).f e fun u=>Kd i.size v l u fun r=>K r t n⟩|none=>noO)
 | some (.slice el),some m=>⟨fun _ e t n K=>(eV x).f e fun v=>(wZ lo).f e fun l=>(wZ hi).f e fun u=>(eV m).f e fun mv=>(match P.info? el,l,u,mv with|some _,none,some (.lit (.int _ 0)),.lit (.int _ 0)=>Lu v fun r=>K r t n|_,_,_,_=>false)⟩
 | _,_=>noO
def G6 (P:Program) (t:TypeId) (x:Operand) (f:Nat):ClO:=
 match P.underlying t with
 | some (.struct fs)=>(match fs[f]? with
   | some fd=>(match P.info? fd.type with|some i=>(match i.size with|0=>noO|_+1=>q1 x (zC fd.offset))|none=>noO)
   | none=>noO)
 | _=>noO
def ZA (P:Program) (t:TypeId) (off:Nat) (x:Operand):ClO:=
 match P.underlying t,P.info? t with
 | some d,some i=>(match mc d with|true=>q1 x (QX off i.size)|false=>q1 x (PO off))
 | _,_=>noO
def Vp (P:Program) (t:TypeId) (x:Operand) (f:Nat):ClO:=
 match P.underlying t with
 | some (.struct fs)=>(match fs[f]? with|some fd=>ZA P fd.type fd.offset x|none=>noO)
 | _=>noO
def Fz (P:Program) (t:TypeId) (x i:Operand):ClO:=
 match P.underlying t with
 | some (.slice e)=>(match P.info? e with|some ei=>q2 x i (y8 ei.size)|none=>noO)
 | some (.array m e)=>(match P.info? e with|some ei=>q2 x i (qv m ei.size)|none=>noO)
 | _=>noO
def WR (P:Program) (t:TypeId) (x i:Operand):ClO:=
 match P.underlying t with
 | some .string=>q2 x i Lv
 | _=>noO
def aa5 (P:Program) (t:TypeId) (x:Operand):ClO:=
 match P.underlying t with
 | some .string=>q1 x U4
 | some (.slice _)=>q1 x V0
 | some (.map _ _)=>q1t x VY
 | _=>noO
def Ri (P:Program) (t t2:TypeId) (x y:Operand):ClO:=
 match P.underlying t,P.underlying t2 with
 | some (.slice e),some d2=>(match P.info? e with
   | some i=>(match XQ i d2 with|true=>e2 x y (K6 i.size i.bytes)|false=>noO)
   | none=>noO)
 | _,_=>noO
def aaP (P:Program) (t:TypeId):ClO:=
 match P.info? t with
 | some i=>(match i.zero with|some z=>(match okV z with|true=>⟨fun _ _ t n K=>YI (ofV z).cells t n K⟩|false=>noO)|none=>noO)
 | none=>noO
def Xv (P:Program) (t:TypeId) (x u:Operand):ClO:=
 match P.info? t with
 | some i=>s2 x u (Qb i.size)
 | none=>noO
def Wd (P:Program) (t:TypeId) (x:Operand):ClO:=
 match P.underlying t with
 | some (.interface _)=>noO
 | some _=>q1 x (Pe t)
 | none=>noO
def Zy (c:lV) (v:AV) (vs:List AV) (t:HT) (n:Nat) (K:AV→HT→Nat→Bool):Bool:=
 match v with
 | .fn (.func f) fi ca=>c f (fi++vs++ca) t n K
 | _=>false
def Xi (P:Program) (c:Call):ClO:=match c.callee with
 | .value f=>⟨fun call e t n K=>(rL c.args.toList).f e fun vs=>(eV f).f e fun v=>Zy call v vs t n K⟩
 | .builtin .len=>(match c.args.toList,c.argTypes.toList with|[x],[t]=>aa5 P t x|_,_=>noO)
 | .builtin .append=>(match c.args.toList,c.argTypes.toList with|[x,y],[t,t2]=>Ri P t t2 x y|_,_=>noO)
 | .builtin .max=>(match c.args.toList with|[x,y]=>q2 x y Z3|_=>noO)
 | .builtin .min=>(match c.args.toList with|[x,y]=>q2 x y aag|_=>noO)
 | _=>noO
def Vv (P:Program) (op:Op):ClO:=match op with
 | .move x=>⟨fun _ e t n K=>(eV x).f e fun v=>K v t n⟩
 | .assign x=>⟨fun _ e t n K=>(eV x).f e fun v=>K v t n⟩
 | .pick c a b=>⟨fun _ e t n K=>(eV c).f e fun cv=>(eV a).f e fun av=>(eV b).f e fun bv=>Zv cv av bv fun r=>K r t n⟩
 | .alloc e=>aaP P e
 | .box _ x=>e1 x ZW
 | .build t ps=>P1 P t (ps.toList.map (·.1)) (ps.toList.map (·.2))
 | .buildSlice t m ps=>vR P t m (ps.toList.map (·.1)) (ps.toList.map (·.2))
 | .load t x=>ZF P t x
 | .store t x u=>Xv P t x u
 | .nilCheck x=>q1 x aam
 | .binOp op t x y _=>abb P op t x y
 | .unOp op _ x=>q1 x (tUn op)
 | .convert s d x=>ZD P s d x
 | .makeInterface t x=>Wd P t x
 | .makeFunc f fi ca=>⟨fun _ e t n K=>(rL fi.toList).f e fun vs=>(rL ca.toList).f e fun ws=>K (.fn f vs ws) t n⟩
 | .slice t x lo hi mx=>UW P t x lo hi mx
 | .fieldAddr t x f=>G6 P t x f
 | .field t x f=>Vp P t x f
 | .indexAddr t x i=>Fz P t x i
 | .index t x i=>WR P t x i
 | .extract x i=>q1 x (Ez i)
 | .call c=>Xi P c
 | _=>noO
def Rv (P:Program) (t:TypeId) (g:TypeDesc→Value→ClO):ClO:=
 match P.underlying t with
 | some (.map kt et)=>(match P.underlying kt,P.info? et with
   | some d,some i=>(match i.zero with|some z=>(match okV z with|true=>g d z|false=>noO)|none=>noO)
   | _,_=>noO)
 | _=>noO
def NC (P:Program) (t:TypeId) (g:TypeDesc→ClO):ClO:=
 match P.underlying t with
 | some (.map kt _)=>(match P.underlying kt with|some d=>g d|none=>noO)
 | _=>noO
def Sd (P:Program) (op:BinOp) (t:TypeId) (x y:Operand):ClO:=
 match P.underlying t,y with
 | some (.slice _),.const (.slice none 0 0)=>q1 x (J0 op)
 | some (.map _ _),.const (.map none)=>q1 x (KR op)
 | some (.interface _),.const .nilIface=>q1 x (J8 op)
 | some (.func _ _ _),.const .nilFunc=>q1 x (K8 op)
 | _,_=>noO
def VD (P:Program) (op:Op):ClO:=match op with
 | .makeMap _ none=>⟨fun _ _ t n K=>FE t n K⟩
 | .lookup t x i ok=>Rv P t fun d z=>q2t x i (KT d ok (ofV z))
 | .mapUpdate t m k v=>NC P t fun d=>s3 m k v (ut d)
 | .insert t m k v=>NC P t fun d=>s3 m k v (ut d)
 | .mapEntry t m k=>Rv P t fun d z=>e2 m k (BL d (ofV z))
 | .entryStore t m s v=>s3 m s v wA
 | .range t x=>(match P.underlying t with
   | some .string=>e1 x JO
   | some (.map _ _)=>e1 x Lo
   | _=>noO)
 | .next x b=>(match b with|true=>e1 x Pi|false=>e1 x QA)
 | .entry x=>q1t x Pz
 | .makeSlice t l c=>(match P.underlying t with
   | some (.slice e)=>(match P.info? e with
     | some i=>(match i.zero with|some z=>(match i.size==1&&z.oneCell' with|true=>e2 l c (zH i.bytes (F9 z))|false=>noO)|none=>noO)
     | none=>noO)
   | _=>noO)
 | .convert s d x=>(match P.underlying s,P.underlying d with
   | some (.slice e),some .string=>(match xz P e with|true=>q1t x Cc|false=>noO)
   | some .string,some (.slice e)=>(match xz P e with|true=>e1 x B3|false=>noO)
   | _,_=>noO)
 | .binOp op t x y _=>(match P.underlying t with
   | some (.struct fs)=>(match wt P fs.toList 0 with
     | some ds=>(match !P.stoodInHeld t&&!P.eqGuardType P.depth t with|true=>q2 x y (aaf op ds)|false=>noO)
     | none=>noO)
   | _=>Sd P op t x y)
 | .call c=>(match c.callee with
   | .builtin .delete=>(match c.args.toList,c.argTypes.toList with
     | [m,k],t::_=>NC P t fun d=>s2 m k (KO d)
     | _,_=>noO)
   | _=>noO)
 | _=>noO
def UY (P:Program) (op:Op):ClO:=match C2 P op with
 | true=>VD P op
 | false=>Vv P op
def TR:List UInt8→UInt8→Nat→Int
 | [],_,_=>.negSucc 0
 | b::l,c,i=>@Bool.casesOn (fun _=>Int) (uEq b c) (TR l c (Nat.succ i)) (.ofNat i)
def T6:List UInt8→UInt8→Nat→Nat
 | [],_,n=>n
 | b::l,c,n=>T6 l c (@Bool.casesOn (fun _=>Nat) (uEq b c) n (Nat.succ n))
def aaq (e:Ext) (vs:List AV) (K:AV→Bool):Bool:=
 match e,vs with
 | .index,[.lit (.string s),.lit (.int .u8 c)]=>fI (TR s.data.toList c.toNat.toUInt8 0) fun r=>K (I r)
 | .count,[.lit (.string s),.lit (.int .u8 c)]=>fN (T6 s.data.toList c.toNat.toUInt8 0) fun r=>K (I (.ofNat r))
 | .bits,[.lit (.float .f64 b)]=>K (.lit (.int .u64 (.ofNat b)))
 | .frombits,[.lit (.int .u64 n)]=>fN n.toNat fun m=>K (.lit (.float .f64 m))
 | _,_=>false
def YX (m n:Nat):Nat:=@Bool.casesOn (fun _=>Nat) (Nat.ble m n) n m
def Wa (size:Nat) (v x:AV) (t:HT) (n:Nat) (K:AV→HT→Nat→Bool):Bool:=
 match Hb t size x with
 | none=>false
 | some (m,xs)=>match v with
   | .sl i off len sz=>(match t.get i with
     | some (.cells cs)=>decide (sz=size∧off+len*size≤cs.length∧xs.all AV.one=true)&&fN (YX m len) fun l=>K (I (.ofNat l)) (t.set (.cells (splice cs off (xs.take (l*size)))) i) n
     | _=>false)
   | .full n0 _=>bA (Nat.beq (YX m n0) 0) (K (I 0) t n)
   | .snap n0 _=>bA (Nat.beq (YX m n0) 0) (K (I 0) t n)
   | _=>false
def O8 (size:Nat) (u v:AV) (t:HT) (n:Nat) (K:HT→Nat→Bool):Bool:=
 match v with
 | .sl i off len sz=>(match t.get i with
   | some (.cells cs)=>decide (u.isTup=false∧u.cells.length=size∧sz=size∧off+len*size≤cs.length∧u.cells.all AV.one=true)&&K (t.set (.cells (splice cs off (List.replicate len u.cells).flatten)) i) n
   | _=>false)
 | .full 0 _=>K t n
 | .snap 0 _=>K t n
 | _=>false
def RV (P:Program) (ts:Array TypeId) (K:Value→TypeInfo→ClO):ClO:=
 match ts.toList with
 | t::_=>(match P.underlying t with
   | some (.slice e)=>(match P.info? e with
     | some i=>(match i.zero with|some z=>(match okV z with|true=>K z i|false=>noO)|none=>noO)
     | none=>noO)
   | _=>noO)
 | _=>noO
abbrev qr:=Nat→Option (List AV)
def V7 (P:Program) (t:TypeId) (cs:List AV):ClO:=
 match P.underlying t,P.info? t with
 | some d,some i=>(match mc d with|true=>⟨fun _ _ t n K=>E9 i.size (.cptr cs) t fun r=>K r t n⟩|false=>⟨fun _ _ t n K=>EP (.cptr cs) t fun r=>K r t n⟩)
 | _,_=>noO
def PK (P:Program) (tb:qr) (op:Op):ClO:=match op with
 | .call c=>(match c.callee with
   | .value (.func f)=>(match Me P f with
     | some x=>⟨fun _ e t n K=>(rL c.args.toList).f e fun vs=>aaq x vs fun r=>K r t n⟩
     | none=>noO)
   | .builtin .copy=>RV P c.argTypes fun _ i=>(match c.args.toList with|[x,y]=>e2 x y (Wa i.size)|_=>noO)
   | .builtin .clear=>RV P c.argTypes fun z i=>(match c.args.toList with|[x]=>⟨fun _ e t n K=>(eV x).f e fun v=>O8 i.size (ofV z) v t n fun t n=>K (.tup []) t n⟩|_=>noO)
   | _=>noO)
 | .indexAddr t (.global g) i=>(match tb g with
   | some cs=>(match P.underlying t with
     | some (.array m e)=>(match P.info? e with|some ei=>q1 i fun iv=>qv m ei.size (.cptr cs) iv|none=>noO)
     | _=>noO)
   | none=>noO)
 | .load t (.global g)=>(match tb g with
   | some cs=>V7 P t cs
   | none=>noO)
 | _=>noO
def Di (P:Program) (tb:qr) (op:Op):ClO:=match isX P op with
 | true=>PK P tb op
 | false=>UY P op
def ER (e:ET) (env:Env):Prop:=∀ k v,(rC k).g e=some v→AL.get env k=some v
theorem ER.put {e:ET}{env:Env}(r:ER e env) (d:Nat) (v:AV):ER ((rC d).s e v) ((d,v)::env):=fun k u h=>by
 simp only[AL.get]
 rcases Xh h with ⟨rfl,rfl⟩|⟨hn,h⟩
 ·rw[if_pos rfl]
 ·rw[if_neg (Ne.symm hn)];exact r k u h
theorem bz {e:ET}{env:Env}(r:ER e env) {x:Operand}{K:AV→Bool}(k:(eV x).f e K=true):∃ v,opv env x=some v∧K v=true:=by
 cases x with
 | tmp s=>
   simp only[eV,oM]at k
   split at k
   ·rename_i v hv;exact⟨v,by rw[opv];exact r s v hv,k⟩
   ·cases k
 | const v=>
   simp only[eV]at k
   cases h:okV v
   ·rw[h]at k;cases k
   ·rw[h]at k;exact⟨_,by simp[opv,h],k⟩
 | global g=>cases k
 | func f=>exact⟨_,rfl,k⟩
theorem ld {e:ET}{env:Env}(r:ER e env):∀ {xs:List Operand}{K:List AV→Bool},(rL xs).f e K=true→∃ vs,ko env xs=some vs∧K vs=true
 | [],K,k=>⟨[],rfl,k⟩
 | x::xs,K,k=>by
   simp only[rL]at k
   obtain⟨v,h1,k⟩:=bz r k
   obtain⟨vs,h2,k⟩:=ld r k
   exact⟨_,by simp[ko,h1,h2],k⟩
theorem pz {e:ET}{env:Env}(r:ER e env) {x:Option Operand}{K:Option AV→Bool}(k:(wZ x).f e K=true):∃ v,DQ env x=some v∧K v=true:=by
 cases x with
 | none=>exact⟨none,rfl,k⟩
 | some x=>
   simp only[wZ]at k
   obtain⟨v,h1,k⟩:=bz r k
   exact⟨some v,by simp[DQ,h1],k⟩
end
section
variable [Tabs]
section
variable {P:Program}{e:ET}{env:Env}{t:HT}{n:Nat}{h:ae}{K:AV→HT→Nat→Bool}{call:lV}
def jV (P:Program) (call:lV):Prop:=∀ (f:FuncId) (args:List AV) (t:HT) (n:Nat) (h:ae) (K:AV→HT→Nat→Bool),HR t n h→call f args t n K=true→ACall P f args h (KH K)
theorem kh {r:AV}(hr:HR t n h) (k:K r t n=true):KH K r h:=⟨t,n,hr,k⟩
theorem nS (er:ER e env) (hr:HR t n h) {x:Operand}{g:AV→(AV→Bool)→Bool}{p:AV→(AV→Prop)→Prop}(hg:∀ v K,g v K=true→p v fun r=>K r=true) (hm:∀ v K K',(∀ r,K r→K' r)→p v K→p v K')
  (k:(q1 x g).f call e t n K=true):bT (opv env x) fun v=>p v fun r=>KH K r h:=by
 obtain⟨v,h1,k⟩:=bz er k
 rw[h1]
 exact hm _ _ _ (fun r k=>kh hr k) (hg _ _ k)
theorem GB (er:ER e env) (hr:HR t n h) {x:Operand}{g:AV→HT→(AV→Bool)→Bool}{p:AV→ae→(AV→Prop)→Prop}(hg:∀ v K,g v t K=true→p v h fun r=>K r=true) (hm:∀ v K K',(∀ r,K r→K' r)→p v h K→p v h K')
  (k:(q1t x g).f call e t n K=true):bT (opv env x) fun v=>p v h fun r=>KH K r h:=by
 obtain⟨v,h1,k⟩:=bz er k
 rw[h1]
 exact hm _ _ _ (fun r k=>kh hr k) (hg _ _ k)
theorem vF (er:ER e env) (hr:HR t n h) {x y:Operand}{g:AV→AV→(AV→Bool)→Bool}{p:AV→AV→(AV→Prop)→Prop}(hg:∀ v u K,g v u K=true→p v u fun r=>K r=true) (hm:∀ v u K K',(∀ r,K r→K' r)→p v u K→p v u K')
  (k:(q2 x y g).f call e t n K=true):en (opv env x) (opv env y) fun v u=>p v u fun r=>KH K r h:=by
 obtain⟨v,h1,k⟩:=bz er k
 obtain⟨u,h2,k⟩:=bz er k
 rw[h1,h2]
 exact hm _ _ _ _ (fun r k=>kh hr k) (hg _ _ _ k)
theorem aav (er:ER e env) (hr:HR t n h) {x y:Operand}{g:AV→AV→HT→(AV→Bool)→Bool}{p:AV→AV→ae→(AV→Prop)→Prop}(hg:∀ v u K,g v u t K=true→p v u h fun r=>K r=true) (hm:∀ v u K K',(∀ r,K r→K' r)→p v u h K→p v u h K')
  (k:(q2t x y g).f call e t n K=true):en (opv env x) (opv env y) fun v u=>p v u h fun r=>KH K r h:=by
 obtain⟨v,h1,k⟩:=bz er k
 obtain⟨u,h2,k⟩:=bz er k
 rw[h1,h2]
 exact hm _ _ _ _ (fun r k=>kh hr k) (hg _ _ _ k)
theorem H4 (er:ER e env) (hr:HR t n h) {x:Operand}{g:AV→HT→Nat→(AV→HT→Nat→Bool)→Bool}{p:AV→ae→(QT)→Prop}(hg:∀ v K,g v t n K=true→p v h (KH K))
  (k:(e1 x g).f call e t n K=true):bT (opv env x) fun v=>p v h (KH K):=by
 obtain⟨v,h1,k⟩:=bz er k
 rw[h1]
 exact hg _ _ k
theorem Xj (er:ER e env) (hr:HR t n h) {x y:Operand}{g:AV→AV→HT→Nat→(AV→HT→Nat→Bool)→Bool}{p:AV→AV→ae→(QT)→Prop}(hg:∀ v u K,g v u t n K=true→p v u h (KH K))
  (k:(e2 x y g).f call e t n K=true):en (opv env x) (opv env y) fun v u=>p v u h (KH K):=by
 obtain⟨v,h1,k⟩:=bz er k
 obtain⟨u,h2,k⟩:=bz er k
 rw[h1,h2]
 exact hg _ _ _ k
theorem ZG (er:ER e env) (hr:HR t n h) {x y:Operand}{g:AV→AV→HT→Nat→(HT→Nat→Bool)→Bool}{p:AV→AV→ae→(ae→Prop)→Prop}(hg:∀ v u K,g v u t n K=true→p v u h (KS K))
  (k:(s2 x y g).f call e t n K=true):en (opv env x) (opv env y) fun v u=>p v u h fun h'=>KH K (.tup []) h':=by
 obtain⟨v,h1,k⟩:=bz er k
 obtain⟨u,h2,k⟩:=bz er k
 rw[h1,h2]
 exact hg _ _ _ k
theorem Vx (er:ER e env) (hr:HR t n h) {x y z:Operand}{g:AV→AV→AV→HT→Nat→(HT→Nat→Bool)→Bool}{p:AV→AV→AV→ae→(ae→Prop)→Prop}(hg:∀ v u w K,g v u w t n K=true→p v u w h (KS K))
  (k:(s3 x y z g).f call e t n K=true):en (opv env x) (opv env y) fun v u=>bT (opv env z) fun w=>p v u w h fun h'=>KH K (.tup []) h':=by
 obtain⟨v,h1,k⟩:=bz er k
 obtain⟨u,h2,k⟩:=bz er k
 obtain⟨w,h3,k⟩:=bz er k
 rw[h1,h2,h3]
 exact hg _ _ _ _ k
omit [Tabs] in
theorem bi {X:Prop}(k:noO.f call e t n K=true):X:=by cases k
theorem cT {o:Option AV}{K K':AV→Prop}(hk:∀ v,K v→K' v) (k:bT o K):bT o K':=by
 unfold bT at *;split at k
 ·exact hk _ k
 ·exact k.elim
theorem Ur (er:ER e env) (hr:HR t n h) {ty:TypeId}{is:List Nat}{xs:List Operand}(k:(P1 P ty is xs).f call e t n K=true):dT (ko env xs) fun vs=>wc P ty is vs fun r=>KH K r h:=by
 unfold P1 at k
 split at k
 ·split at k
  ·split at k
   ·obtain⟨vs,h1,k⟩:=ld er k
    rw[h1]
    show wc P ty is vs _
    unfold wc
    simp only[*,if_true]
    split at k
    ·simp only[*]
     exact xc (fun r k=>kh hr k) _ _ ⟨SW _ _ k⟩
    ·cases k
   ·exact bi k
  ·exact bi k
 ·exact bi k
theorem Fh (er:ER e env) (hr:HR t n h) {ty:TypeId}{m:Nat}{is:List Nat}{xs:List Operand}(k:(vR P ty m is xs).f call e t n K=true):dT (ko env xs) fun vs=>gL P ty m is vs fun r=>KH K r h:=by
 unfold vR at k
 split at k
 ·split at k
  ·split at k
   ·split at k
    ·rename_i hc
     obtain⟨vs,h1,k⟩:=ld er k
     rw[h1]
     show gL P ty m is vs _
     unfold gL
     simp only[*,if_true]
     exact mJ (fun r k=>kh hr k) _ _ _ ⟨GM _ _ _ k⟩
    ·exact bi k
   ·exact bi k
  ·exact bi k
 ·exact bi k
theorem Vl (hcall:jV P call) (er:ER e env) (hr:HR t n h) {c:Call}(k:(Xi P c).f call e t n K=true):dT (ko env c.args.toList) fun vs=>(match c.callee with
  | .value f=>bT (opv env f) fun v=>tR P v vs h (KH K)
  | .builtin .len=>(match vs,c.argTypes.toList with|[v],[t]=>CQ P t v h fun r=>KH K r h|_,_=>False)
  | .builtin .append=>(match vs,c.argTypes.toList with|[v,u],[t,t2]=>A3 P t t2 v u h (KH K)|_,_=>False)
  | .builtin .max=>(match vs with|[v,u]=>B0 v u fun r=>KH K r h|_=>False)
  | .builtin .min=>(match vs with|[v,u]=>Ey v u fun r=>KH K r h|_=>False)
  | _=>False):=by
 have two:∀ {x y:Operand} {F:AV→AV→Prop},(en (opv env x) (opv env y) F)→∃ v u,ko env [x,y]=some [v,u]∧F v u:=fun {x y F} k=>by
  obtain⟨v,h1,k⟩:=aG k
  obtain⟨u,h2,k⟩:=aG k
  exact⟨v,u,by simp[ko,h1,h2],k⟩
 have one:∀ {x:Operand} {F:AV→Prop},(bT (opv env x) F)→∃ v,ko env [x]=some [v]∧F v:=fun {x F} k=>by
  obtain⟨v,h1,k⟩:=aG k
  exact⟨v,by simp[ko,h1],k⟩
 unfold Xi at k
 split at k
 ·rename_i f hc
  obtain⟨vs,h1,k⟩:=ld er k
  obtain⟨v,h2,k⟩:=bz er k
  rw[h1]
  simp only[dT,hc,h2,bT]
  unfold Zy at k
  unfold tR
  split at k
  ·exact hcall _ _ _ _ _ _ hr k
  ·cases k
 ·rename_i hc
  split at k
  ·rename_i x ty ha ht
   unfold aa5 at k
   split at k
   ·obtain⟨v,h1,k⟩:=one (nS er hr (p:=fun v K=>bK v K) (fun _ _ k=>⟨Wv k⟩) (fun _ _ _ hk k=>zp hk _ k) k)
    rw[ha,h1]
    simp only[dT,hc,CQ, *]
   ·obtain⟨v,h1,k⟩:=one (nS er hr (p:=fun v K=>aW v K) (fun _ _ k=>⟨WE _ k⟩) (fun _ _ _ hk k=>yU hk _ k) k)
    rw[ha,h1]
    simp only[dT,hc,CQ, *]
   ·obtain⟨v,h1,k⟩:=one (GB er hr (p:=fun v h K=>H5 v h K) (fun _ _ k=>⟨Vk hr k⟩) (fun _ _ _ hk k=>y5 hk _ _ k) k)
    rw[ha,h1]
    simp only[dT,hc,CQ, *]
   ·exact bi k
  ·exact bi k
 ·rename_i hc
  split at k
  ·rename_i x y ty ty2 ha ht
   unfold Ri at k
   split at k
   ·split at k
    ·split at k
     ·rename_i hok
      obtain⟨v,u,h1,k⟩:=two (Xj er hr (p:=fun v u h K=>bl _ _ v u h K) (fun _ _ _ k=>⟨Pm hr k⟩) k)
      rw[ha,h1]
      simp only[dT,hc,A3, *,if_true]
     ·exact bi k
    ·exact bi k
   ·exact bi k
  ·exact bi k
 ·rename_i hc
  split at k
  ·rename_i x y ha
   obtain⟨v,u,h1,k⟩:=two (vF er hr (p:=fun v u K=>B0 v u K) (fun _ _ _ k=>⟨Y6 _ _ k⟩) (fun _ _ _ _ hk k=>Cj hk _ _ k) k)
   rw[ha,h1]
   simp only[dT,hc, *]
  ·exact bi k
 ·rename_i hc
  split at k
  ·rename_i x y ha
   obtain⟨v,u,h1,k⟩:=two (vF er hr (p:=fun v u K=>Ey v u K) (fun _ _ _ k=>⟨Yk _ _ k⟩) (fun _ _ _ _ hk k=>BN hk _ _ k) k)
   rw[ha,h1]
   simp only[dT,hc, *]
  ·exact bi k
 ·exact bi k
theorem XL (hcall:jV P call) (er:ER e env) (hr:HR t n h) {o:Oper}(k:(Vv P o.op).f call e t n K=true):vP P env h o (KH K):=by
 obtain⟨dst,op,ty,pos,after,guard⟩:=o
 cases op<;>simp only[Vv]at k<;>simp only[vP]
 case move x=>obtain⟨v,h1,k⟩:=bz er k;rw[h1];exact kh hr k
 case assign x=>obtain⟨v,h1,k⟩:=bz er k;rw[h1];exact kh hr k
 case pick c a b=>
  obtain⟨v,h1,k⟩:=bz er k
  obtain⟨u,h2,k⟩:=bz er k
  obtain⟨w,h3,k⟩:=bz er k
  rw[h1,h2,h3]
  show ifB v (KH K u h) (KH K w h)
  unfold Zv at k
  unfold ifB
  split at k
  ·exact kh hr k
  ·exact kh hr k
  ·cases k
 case alloc el=>
  unfold aaP at k
  unfold Y8
  split at k
  ·split at k
   ·split at k
    ·simp only[*,if_true];exact⟨Q3 hr k⟩
    ·exact bi k
   ·exact bi k
  ·exact bi k
 case box el x=>exact H4 er hr (p:=fun v h K=>gF v h K) (fun _ _ k=>⟨YK hr k⟩) k
 case build=>exact Ur er hr k
 case buildSlice=>exact Fh er hr k
 case load ty x=>
  unfold ZF at k
  split at k
  ·split at k
   ·refine cT (fun v k=>?_) (GB er hr (p:=fun v h K=>aq _ v h K) (fun _ _ k=>⟨CK hr k⟩) (fun _ _ _ hk k=>gI hk _ _ _ k) k)
    unfold kr;simp only[*,if_true]
   ·refine cT (fun v k=>?_) (GB er hr (p:=fun v h K=>ag v h K) (fun _ _ k=>⟨Cl hr k⟩) (fun _ _ _ hk k=>gK hk _ _ k) k)
    unfold kr;simp only[*,Bool.false_eq_true,if_false]
  ·exact bi k
 case store ty x u=>
  unfold Xv at k
  split at k
  ·refine cT (fun v k=>cT (fun y k=>?_) k) (ZG er hr (p:=fun v u h K=>an _ v u h K) (fun _ _ _ k=>⟨UI hr k⟩) k)
   unfold LL;simp only[*]
  ·exact bi k
 case nilCheck x=>exact nS er hr (p:=fun v K=>aF v K) (fun _ _ k=>⟨Yg _ k⟩) (fun _ _ _ hk k=>Ci hk _ k) k
 case binOp op ty x y yt=>
  unfold abb at k
  unfold Mi
  split at k
  ·simp only[*];exact vF er hr (p:=fun v u K=>Je op v u K) (fun _ _ _ k=>⟨W3 _ _ _ k⟩) (fun _ _ _ _ hk k=>zU hk _ _ _ k) k
  ·simp only[*];exact vF er hr (p:=fun v u K=>IR op v u K) (fun _ _ _ k=>⟨Vm _ _ _ k⟩) (fun _ _ _ _ hk k=>zw hk _ _ _ k) k
  ·simp only[*];exact vF er hr (p:=fun v u K=>ai op v u K) (fun _ _ _ k=>⟨KB k⟩) (fun _ _ _ _ hk k=>tr hk _ _ _ k) k
  ·simp only[*];exact vF er hr (p:=fun v u K=>ai op v u K) (fun _ _ _ k=>⟨KB k⟩) (fun _ _ _ _ hk k=>tr hk _ _ _ k) k
  ·simp only[*];exact vF er hr (p:=fun v u K=>ai op v u K) (fun _ _ _ k=>⟨KB k⟩) (fun _ _ _ _ hk k=>tr hk _ _ _ k) k
  ·exact bi k
 case unOp op ty x=>exact nS er hr (p:=fun v K=>qUn op v K) (fun _ _ k=>⟨aal k⟩) (fun _ _ _ hk k=>GU hk _ _ k) k
 case convert s d x=>
  unfold ZD at k
  unfold CX
  split at k
  ·simp only[*];exact nS er hr (p:=fun v K=>ci _ v K) (fun _ _ k=>⟨P6 k⟩) (fun _ _ _ hk k=>ud hk _ _ k) k
  ·simp only[*];exact nS er hr (p:=fun v K=>qy _ v K) (fun _ _ k=>⟨Pa k⟩) (fun _ _ _ hk k=>uJ hk _ _ k) k
  ·simp only[*];exact nS er hr (p:=fun v K=>xw v K) (fun _ _ k=>⟨OZ _ k⟩) (fun _ _ _ hk k=>uC hk _ k) k
  ·exact bi k
 case makeInterface ty x=>
  unfold Wd at k
  split at k
  ·exact bi k
  ·rename_i hn ht
   refine cT (fun v k=>?_) (nS er hr (p:=fun v K=>vN ty v K) (fun _ _ k=>⟨Ti _ _ k⟩) (fun _ _ _ hk k=>wD hk _ _ k) k)
   unfold BU
   split
   ·rename_i he;rw[ht]at he;cases he;exact (hn _ rfl).elim
   ·exact k
   ·rename_i he;rw[ht]at he;cases he
  ·exact bi k
 case makeFunc f fi ca=>
  obtain⟨vs,h1,k⟩:=ld er k
  obtain⟨ws,h2,k⟩:=ld er k
  rw[h1,h2];exact kh hr k
 case slice ty x lo hi mx=>
  unfold UW at k
  split at k
  ·obtain⟨v,h1,k⟩:=bz er k
   obtain⟨l,h2,k⟩:=pz er k
   obtain⟨u,h3,k⟩:=pz er k
   rw[h1,h2,h3]
   show mX P ty v l u none _
   unfold mX;simp only[*]
   exact uG (fun r k=>kh hr k) _ _ _ ⟨QN k⟩
  ·split at k
   ·obtain⟨v,h1,k⟩:=bz er k
    obtain⟨l,h2,k⟩:=pz er k
    obtain⟨u,h3,k⟩:=pz er k
    rw[h1,h2,h3]
    show mX P ty v l u none _
    unfold mX;simp only[*]
    exact uj (fun r k=>kh hr k) _ _ _ _ ⟨Pv _ _ _ _ k⟩
   ·exact bi k
  ·obtain⟨v,h1,k⟩:=bz er k
   obtain⟨l,h2,k⟩:=pz er k
   obtain⟨u,h3,k⟩:=pz er k
   obtain⟨m,h4,k⟩:=bz er k
   rw[h1,h2,h3]
   simp only[DQ,h4]
   show mX P ty v l u (some m) _
   split at k
   ·unfold mX;simp only[*]
    exact ub (fun r k=>kh hr k) _ ⟨Py _ k⟩
   ·cases k
  ·exact bi k
 case fieldAddr ty x f=>
  unfold G6 at k
  split at k
  ·split at k
   ·split at k
    ·split at k
     ·exact bi k
     ·rename_i hz
      refine cT (fun v k=>?_) (nS er hr (p:=fun v K=>ab _ v K) (fun _ _ k=>⟨HC k⟩) (fun _ _ _ hk k=>om hk _ _ k) k)
      unfold mR
      simp only[*]
      rw[if_neg (by simp)]
      trivial
    ·exact bi k
   ·exact bi k
  ·exact bi k
 case field ty x f=>
  unfold Vp ZA at k
  split at k
  ·split at k
   ·split at k
    ·split at k
     ·refine cT (fun v k=>?_) (nS er hr (p:=fun v K=>Cd _ _ v K) (fun _ _ k=>⟨S6 _ _ _ k⟩) (fun _ _ _ hk k=>vx hk _ _ _ k) k)
      unfold wG CZ;simp only[*,if_true]
     ·refine cT (fun v k=>?_) (nS er hr (p:=fun v K=>B1 _ v K) (fun _ _ k=>⟨TU _ _ k⟩) (fun _ _ _ hk k=>vG hk _ _ k) k)
      unfold wG CZ;simp only[*,Bool.false_eq_true,if_false]
    ·exact bi k
   ·exact bi k
  ·exact bi k
 case indexAddr ty x i=>
  unfold Fz at k
  unfold eo
  split at k
  ·split at k
   ·simp only[*];exact vF er hr (p:=fun v u K=>ak _ v u K) (fun _ _ _ k=>⟨Hj k⟩) (fun _ _ _ _ hk k=>ic hk _ _ _ k) k
   ·exact bi k
  ·split at k
   ·simp only[*];exact vF er hr (p:=fun v u K=>ce _ _ v u K) (fun _ _ _ k=>⟨vJ _ _ _ _ k⟩) (fun _ _ _ _ hk k=>eN hk _ _ _ _ k) k
   ·exact bi k
  ·exact bi k
 case index ty x i=>
  unfold WR at k
  unfold CE
  split at k
  ·simp only[*];exact vF er hr (p:=fun v u K=>bk v u K) (fun _ _ _ k=>⟨Qr k⟩) (fun _ _ _ _ hk k=>uW hk _ _ k) k
  ·exact bi k
 case extract x i=>exact nS er hr (p:=fun v K=>ao i v K) (fun _ _ k=>⟨N5 _ _ k⟩) (fun _ _ _ hk k=>rP hk _ _ k) k
 case call c=>exact Vl hcall er hr k
 all_goals exact bi k
theorem N3 {ty:TypeId}{g:TypeDesc→Value→ClO}{F:TypeDesc→Value→Prop}(hg:∀ d z,(g d z).f call e t n K=true→F d z) (k:(Rv P ty g).f call e t n K=true):Cb P ty F:=by
 unfold Rv at k
 unfold Cb
 split at k
 ·split at k
  ·split at k
   ·split at k
    ·have k:=hg _ _ k;simp only[*,if_true]
    ·exact bi k
   ·exact bi k
  ·exact bi k
 ·exact bi k
theorem Fl {ty:TypeId}{g:TypeDesc→ClO}{F:TypeDesc→Prop}(hg:∀ d,(g d).f call e t n K=true→F d) (k:(NC P ty g).f call e t n K=true):z7 P ty F:=by
 unfold NC at k
 unfold z7
 split at k
 ·split at k
  ·have k:=hg _ k;simp only[*]
  ·exact bi k
 ·exact bi k
theorem VK (er:ER e env) (hr:HR t n h) {o:Oper}(k:(VD P o.op).f call e t n K=true):wg P env h o (KH K):=by
 obtain⟨dst,op,ty,pos,after,guard⟩:=o
 have wmapT:∀ {ty:TypeId} {F:TypeDesc→Value→AV→AV→Prop} {x y:Operand},Cb P ty (fun d z=>en (opv env x) (opv env y) (F d z))→en (opv env x) (opv env y) fun a b=>Cb P ty fun d z=>F d z a b:=fun {ty F x y} k=>by
  obtain⟨kt,et,d,i,z,h1,h2,h3,h4,h5,k⟩:=D4 k
  refine cT (fun v k=>cT (fun y k=>?_) k) k
  unfold Cb
  simp only[h1,h2,h3,h4,h5,if_true]
  exact k
 have wkeyT3:∀ {ty:TypeId} {F:TypeDesc→AV→AV→AV→Prop} {x y z:Operand},z7 P ty (fun d=>en (opv env x) (opv env y) fun a b=>bT (opv env z) fun c=>F d a b c)→en (opv env x) (opv env y) fun a b=>bT (opv env z) fun c=>z7 P ty fun d=>F d a b c:=fun {ty F x y z} k=>by
  obtain⟨kt,et,d,h1,h2,k⟩:=AD k
  refine cT (fun v k=>cT (fun y k=>cT (fun w k=>?_) k) k) k
  unfold z7
  simp only[h1,h2]
  exact k
 cases op<;>simp only[VD]at k<;>simp only[wg]
 case makeMap ty re=>
  cases re with
  | none=>exact⟨NY hr k⟩
  | some x=>exact bi k
 case lookup ty x i ok=>
  refine wmapT (N3 (fun d z k=>?_) k)
  exact aav er hr (p:=fun v u h K=>jo d ok (ofV z) v u h K) (fun _ _ _ k=>⟨Po hr k⟩) (fun _ _ _ _ hk k=>uq hk _ _ _ _ _ _ k) k
 case mapUpdate ty m kk v=>
  refine wkeyT3 (Fl (fun d k=>?_) k)
  exact Vx er hr (p:=fun v u w h K=>ep d v u w h K) (fun _ _ _ _ k=>⟨yG hr k⟩) k
 case insert ty m kk v=>
  refine wkeyT3 (Fl (fun d k=>?_) k)
  exact Vx er hr (p:=fun v u w h K=>ep d v u w h K) (fun _ _ _ _ k=>⟨yG hr k⟩) k
 case mapEntry ty m kk=>
  refine wmapT (N3 (fun d z k=>?_) k)
  exact Xj er hr (p:=fun v u h K=>pG d (ofV z) v u h K) (fun _ _ _ k=>⟨LF hr k⟩) k
 case entryStore ty m s v=>exact Vx er hr (p:=fun v u w h K=>lf v u w h K) (fun _ _ _ _ k=>⟨FA hr k⟩) k
 case range ty x=>
  split at k
  ·simp only[*];exact H4 er hr (p:=fun v h K=>tU v h K) (fun _ _ k=>⟨Ph hr k⟩) k
  ·simp only[*];exact H4 er hr (p:=fun v h K=>um v h K) (fun _ _ k=>⟨PC hr k⟩) k
  ·exact bi k
 case next x b=>
  cases b
  ·exact H4 er hr (p:=fun v h K=>zW v h K) (fun _ _ k=>⟨Um hr k⟩) k
  ·exact H4 er hr (p:=fun v h K=>zP v h K) (fun _ _ k=>⟨TM hr k⟩) k
 case entry x=>exact GB er hr (p:=fun v h K=>zD v h K) (fun _ _ k=>⟨SO hr k⟩) (fun _ _ _ hk k=>wl hk _ _ k) k
 case makeSlice ty l c=>
  split at k
  ·split at k
   ·split at k
    ·split at k
     ·refine cT (fun v k=>cT (fun y k=>?_) k) (Xj er hr (p:=fun v u h K=>kL _ _ v u h K) (fun _ _ _ k=>⟨Hp hr k⟩) k)
      simp only[*,if_true]
     ·exact bi k
    ·exact bi k
   ·exact bi k
  ·exact bi k
 case convert s d x=>
  split at k
  ·split at k
   ·simp only[*,if_true];exact GB er hr (p:=fun v h K=>pA v h K) (fun _ _ k=>⟨LI hr k⟩) (fun _ _ _ hk k=>qh hk _ _ k) k
   ·exact bi k
  ·split at k
   ·simp only[*,if_true];exact H4 er hr (p:=fun v h K=>pI v h K) (fun _ _ k=>⟨J7 hr k⟩) k
   ·exact bi k
  ·exact bi k
 case binOp op ty x y yt=>
  split at k
  ·split at k
   ·split at k
    ·simp only[*,if_true]
     exact vF er hr (p:=fun v u K=>YN op _ v u K) (fun _ _ _ k=>⟨Zc _ _ _ _ k⟩) (fun _ _ _ _ hk k=>CL hk _ _ _ _ k) k
    ·exact bi k
   ·exact bi k
  ·rename_i hns
   have:bT (opv env x) fun a=>xJ P op ty a y fun r=>KH K r h:=by
    unfold Sd at k
    unfold xJ
    split at k
    ·simp only[*];exact nS er hr (p:=fun v K=>lQ op v K) (fun _ _ k=>⟨Pw _ _ k⟩) (fun _ _ _ hk k=>A8 hk _ _ k) k
    ·simp only[*];exact nS er hr (p:=fun v K=>Eh op v K) (fun _ _ k=>⟨QU _ _ k⟩) (fun _ _ _ hk k=>uo hk _ _ k) k
    ·simp only[*];exact nS er hr (p:=fun v K=>Eg op v K) (fun _ _ k=>⟨PU _ _ k⟩) (fun _ _ _ hk k=>tV hk _ _ k) k
    ·simp only[*];exact nS er hr (p:=fun v K=>Eo op v K) (fun _ _ k=>⟨QJ _ _ k⟩) (fun _ _ _ hk k=>uf hk _ _ k) k
    ·exact bi k
   split
   ·rename_i he;exact (hns _ he).elim
   ·exact this
 case call c=>
  split at k
  ·rename_i hc
   simp only[hc]
   split at k
   ·rename_i m kk ty rest ha ht
    obtain⟨kt,et,d,h1,h2,k⟩:=AD (Fl (F:=fun d=>en (opv env m) (opv env kk) fun a b=>Bx d a b h fun h'=>KH K (.tup []) h') (fun d k=>ZG er hr (p:=fun v u h K=>Bx d v u h K) (fun _ _ _ k=>⟨QB hr k⟩) k) k)
    obtain⟨a,h3,k⟩:=aG k
    obtain⟨b,h4,k⟩:=aG k
    rw[ha,ht]
    simp only[ko,h3,h4,dT]
    unfold z7
    simp only[h1,h2]
    exact k
   ·exact bi k
  ·exact bi k
 all_goals exact bi k
theorem WI (hcall:jV P call) (er:ER e env) (hr:HR t n h) {o:Oper}(k:(UY P o.op).f call e t n K=true):vC P env h o (KH K):=by
 unfold UY at k
 unfold vC
 split at k
 ·rename_i hn;rw[if_pos hn];exact VK er hr k
 ·rename_i hn;rw[hn,if_neg (by simp)];exact XL hcall er hr k
omit [Tabs] in
theorem R4 (c:UInt8):∀ (l:List UInt8) (i:Nat),TR l c i=if Lib.indexByte l c=-1 then -1 else Lib.indexByte l c+i
 | [],i=>rfl
 | b::l,i=>by
   have ih:=R4 c l (i+1)
   have hge:=Lib.indexByte_ge l c
   have e1:TR (b::l) c i=if (b==c)=true then (i:Int) else TR l c (i+1):=by
    show @Bool.casesOn (fun _=>Int) (uEq b c) (TR l c (i+1)) (.ofNat i)=_
    rw[JW]
    cases hb:(b==c)<;>rfl
   rw[e1,ih]
   simp only[Lib.indexByte]
   by_cases hb:(b==c)=true
   ·simp[hb]
   ·simp only[hb,if_false]
    by_cases h1:Lib.indexByte l c=-1
    ·simp[h1]
    ·rw[if_neg h1,if_neg (show ¬ (Lib.indexByte l c==-1)=true by simpa using h1)]
     simp only[Bool.false_eq_true,if_false]
     rw[if_neg (by omega)];omega
omit [Tabs] in
theorem R8 (c:UInt8):∀ (l:List UInt8) (n:Nat),T6 l c n=n+Lib.countByte l c
 | [],n=>rfl
 | b::l,n=>by
   have e1:T6 (b::l) c n=T6 l c (if (b==c)=true then n+1 else n):=by
    show T6 l c (@Bool.casesOn (fun _=>Nat) (uEq b c) n (n+1))=_
    rw[JW]
    cases hb:(b==c)<;>rfl
   rw[e1,R8 c l]
   simp only[Lib.countByte,List.count_cons]
   cases hb:(b==c)<;>simp<;>omega
omit [Tabs] in
theorem X3 {x:Ext}{vs:List AV}{K:AV→Bool}(k:aaq x vs K=true):yX x vs fun r=>K r=true:=by
 unfold aaq at k
 split at k
 ·rw[SC,R4]at k
  show K (I (Lib.indexByte _ _))=true
  split at k
  ·rename_i h1;rw[h1];exact k
  ·simpa using k
 ·rw[k8,R8]at k
  show K (I (Lib.countByte _ _))=true
  simpa using k
 ·exact k
 ·rw[k8]at k;exact k
 ·cases k
omit [Tabs] in
theorem JV (m n:Nat):YX m n=Nat.min m n:=by
 show @Bool.casesOn (fun _=>Nat) (Nat.ble m n) n m=min m n
 cases h:Nat.ble m n
 ·have:¬ m≤n:=fun e=>by rw[Nat.ble_eq_true_of_le e]at h;cases h
  exact (Nat.min_eq_right (Nat.le_of_not_le this)).symm
 ·exact (Nat.min_eq_left (Nat.le_of_ble_eq_true h)).symm
theorem XR (r:HR t n h) {size:Nat}{v x:AV}{K:AV→HT→Nat→Bool}(k:Wa size v x t n K=true):CU size v x h (KH K):=by
 unfold Wa at k
 unfold CU
 split at k
 ·cases k
 ·rename_i m xs hx
  simp only[BM r hx]
  split at k
  ·split at k
   ·rename_i cs hc
    simp only[r.at_ _ _ hc]
    simp only[Bool.and_eq_true,decide_eq_true_eq,k8,JV]at k
    exact⟨k.1,_,_,r.set hc,k.2⟩
   ·cases k
  ·rw[dw,JV]at k
   exact⟨Nat.eq_of_beq_eq_true k.1,_,_,r,k.2⟩
  ·rw[dw,JV]at k
   exact⟨Nat.eq_of_beq_eq_true k.1,_,_,r,k.2⟩
  ·cases k
theorem TC (r:HR t n h) {size:Nat}{u v:AV}{K:HT→Nat→Bool}(k:O8 size u v t n K=true):wo size u v h (KS K):=by
 unfold O8 at k
 unfold wo
 split at k
 ·split at k
  ·rename_i cs hc
   simp only[r.at_ _ _ hc]
   simp only[Bool.and_eq_true,decide_eq_true_eq]at k
   exact⟨k.1,_,_,r.set hc,k.2⟩
  ·cases k
 ·exact⟨_,_,r,k⟩
 ·exact⟨_,_,r,k⟩
 ·cases k
theorem AP {ts:Array TypeId}{F:Value→TypeInfo→ClO}{K:AV→HT→Nat→Bool}{T:Value→TypeInfo→Prop}(hk:∀ z i,(F z i).f call e t n K=true→T z i) (k:(RV P ts F).f call e t n K=true):Gz P ts T:=by
 unfold RV at k
 unfold Gz
 split at k
 ·split at k
  ·split at k
   ·split at k
    ·split at k
     ·simp only[*,if_true]
     ·exact bi k
    ·exact bi k
   ·exact bi k
  ·exact bi k
 ·exact bi k
def oQ (tb:qr):Prop:=∀ g cs,tb g=some cs→Tabs.tab g=some cs
theorem TE {tb:qr}(ht:oQ tb) (er:ER e env) (hr:HR t n h) {o:Oper}(k:(PK P tb o.op).f call e t n K=true):vY P env h o (KH K):=by
 obtain⟨dst,op,ty,pos,after,guard⟩:=o
 cases op<;>simp only[PK]at k<;>simp only[vY]<;>try exact bi k
 case call c=>
  split at k
  ·rename_i f hc
   simp only[hc]
   split at k
   ·rename_i x hx
    obtain⟨vs,h1,k⟩:=ld er k
    rw[h1]
    simp only[dT,hx]
    exact⟨B6 (fun r k=>kh hr k) (X3 k)⟩
   ·exact bi k
  ·rename_i hc
   simp only[hc]
   cases hvs:ko env c.args.toList with
   | none=>
     exfalso
     have:Gz P c.argTypes fun _ _=>False:=AP (fun z i k=>by
      split at k
      ·rename_i x y ha
       simp only[e2]at k
       obtain⟨v,h1,k⟩:=bz er k
       obtain⟨u,h2,k⟩:=bz er k
       rw[ha]at hvs;simp[ko,h1,h2]at hvs
      ·exact bi k) k
     obtain⟨_,_,_,_,_,_,_,_,_,hf⟩:=El this
     exact hf
   | some vs=>
     refine AP (fun z i k=>?_) k
     split at k
     ·rename_i x y ha
      simp only[e2]at k
      obtain⟨v,h1,k⟩:=bz er k
      obtain⟨u,h2,k⟩:=bz er k
      rw[ha]at hvs
      simp only[ko,h1,h2,Option.some.injEq]at hvs
      subst hvs
      exact⟨XR hr k⟩
     ·exact bi k
  ·rename_i hc
   simp only[hc]
   cases hvs:ko env c.args.toList with
   | none=>
     exfalso
     have:Gz P c.argTypes fun _ _=>False:=AP (fun z i k=>by
      split at k
      ·rename_i x ha
       obtain⟨v,h1,k⟩:=bz er k
       rw[ha]at hvs;simp[ko,h1]at hvs
      ·exact bi k) k
     obtain⟨_,_,_,_,_,_,_,_,_,hf⟩:=El this
     exact hf
   | some vs=>
     refine AP (fun z i k=>?_) k
     split at k
     ·rename_i x ha
      obtain⟨v,h1,k⟩:=bz er k
      rw[ha]at hvs
      simp only[ko,h1,Option.some.injEq]at hvs
      subst hvs
      exact⟨TC hr k⟩
     ·exact bi k
  ·exact bi k
 case indexAddr ty x i=>
  cases x<;>simp only at k ⊢<;>try exact bi k
  split at k
  ·rename_i cs hg
   simp only[ht _ _ hg]
   split at k
   ·split at k
    ·refine cT (fun v k=>?_) (nS er hr (p:=fun v K=>ce _ _ (.cptr cs) v K) (fun _ _ k=>⟨vJ _ _ _ _ k⟩) (fun _ _ _ hk k=>eN hk _ _ _ _ k) k)
     unfold eo;simp only[*]
    ·exact bi k
   ·exact bi k
  ·exact bi k
 case load ty x=>
  cases x<;>simp only at k ⊢<;>try exact bi k
  split at k
  ·rename_i cs hg
   simp only[ht _ _ hg]
   unfold V7 at k
   unfold kr
   split at k
   ·split at k
    ·simp only[*,if_true];exact gI (fun r k=>kh hr k) _ _ _ ⟨CK hr k⟩
    ·simp only[*,Bool.false_eq_true,if_false];exact gK (fun r k=>kh hr k) _ _ ⟨Cl hr k⟩
   ·exact bi k
  ·exact bi k
theorem tz {tb:qr}(ht:oQ tb) (hcall:jV P call) (er:ER e env) (hr:HR t n h) {o:Oper}(k:(Di P tb o.op).f call e t n K=true):aop P env h o (KH K):=by
 unfold Di at k
 unfold aop
 split at k
 ·rename_i hn;rw[if_pos hn];exact TE ht er hr k
 ·rename_i hn;rw[hn,if_neg (by simp)];exact WI hcall er hr k
end
end
section
structure ClR where
 f:lV→ET→HT→Nat→(ET→HT→Nat→Bool)→Bool
structure PD where
 q:Nat
 o:Oper
 e:ET
 v:AV
structure ClD where
 f:lV→ET→HT→Nat→List PD→(ET→HT→Nat→List PD→Bool)→Bool
structure ClC where
 f:lV→ET→HT→Nat→(Exit→ET→HT→Nat→Bool)→Bool
structure ClF where
 f:lV→List AV→HT→Nat→(AV→HT→Nat→Bool)→Bool
structure ClV where
 f:ET→HT→(List AV→Bool)→Bool
def noR:ClR:=⟨fun _ _ _ _ _=>false⟩
def noD:ClD:=⟨fun _ _ _ _ _ _=>false⟩
def noC:ClC:=⟨fun _ _ _ _ _=>false⟩
def noF:ClF:=⟨fun _ _ _ _ _=>false⟩
def Ck (e:ET) (d:Option Tmp) (v:AV):ET:=match d with|some d=>(rC d).s e v|none=>e
def Iv (P:Program) (tb:qr) (nt:Nat) (o:Oper):ClR:=match fg nt o.dst with
 | true=>(match o.dst with
   | some d=>⟨fun c e t n K=>(Di P tb o.op).f c e t n fun v t n=>K ((rC d).s e v) t n⟩
   | none=>⟨fun c e t n K=>(Di P tb o.op).f c e t n fun _ t n=>K e t n⟩)
 | false=>noR
def ifV (v:AV) (x y:Bool):Bool:=match v with|.lit (.bool true)=>x|.lit (.bool false)=>y|_=>false
def T9 (g:Bool) (v:AV) (x y z:Bool):Bool:=match v with|.lit (.bool true)=>x|.lit (.bool false)=>y|.tup []=>bA g z|_=>false
def ry (P:Program) (tb:qr) (nt:Nat) (ops:Array Oper):List Nat→ClR
 | []=>⟨fun _ e t n K=>K e t n⟩
 | i::rest=>match ops[i]? with
   | none=>noR
   | some o=>match o.guard with
     | none=>⟨fun c e t n K=>(Iv P tb nt o).f c e t n fun e t n=>(ry P tb nt ops rest).f c e t n K⟩
     | some (j,want)=>match (ops[j]?).bind (·.dst) with
       | none=>noR
       | some s=>match want with
         | true=>⟨fun c e t n K=>oM ((rC s).g e) fun v=>T9 (Ue ops j) v ((Iv P tb nt o).f c e t n fun e t n=>(ry P tb nt ops rest).f c e t n K) (bA (fg nt o.dst) ((ry P tb nt ops rest).f c (Ck e o.dst (.tup [])) t n K)) (bA (fg nt o.dst) ((ry P tb nt ops rest).f c (Ck e o.dst (.tup [])) t n K))⟩
         | false=>⟨fun c e t n K=>oM ((rC s).g e) fun v=>T9 (Ue ops j) v (bA (fg nt o.dst) ((ry P tb nt ops rest).f c (Ck e o.dst (.tup [])) t n K)) ((Iv P tb nt o).f c e t n fun e t n=>(ry P tb nt ops rest).f c e t n K) (bA (fg nt o.dst) ((ry P tb nt ops rest).f c (Ck e o.dst (.tup [])) t n K))⟩
def WS:Value→Value→Bool
 | .bool a,.bool b=>a==b
 | .int j a,.int k b=>kEq j k&&iEq a b
 | .string a,.string b=>sEq a b
 | .pointer none,.pointer none=>true
 | .map none,.map none=>true
 | .nilFunc,.nilFunc=>true
 | .nilIface,.nilIface=>true
 | _,_=>false
theorem Vb {a b:Value}(h:WS a b=true):a=b:=by
 unfold WS at h
 split at h<;>first
  | rfl
  | (cases h;done)
  | (simp only[beq_iff_eq]at h;rw[h])
  | (simp only[Bool.and_eq_true,Rx,Re]at h;rw[h.1,h.2])
  | (rw[Lc]at h;rw[h])
def aaT:Fn→Fn→Bool
 | .func a,.func b=>Nat.beq a b
 | _,_=>false
mutual
def xX:AV→AV→Bool
 | .lit a,.lit b=>WS a b
 | .ptr i o,.ptr j p=>Nat.beq i j&&Nat.beq o p
 | .cptr a,.cptr b=>xd a b
 | .sl i o l s,.sl j p m r=>Nat.beq i j&&Nat.beq o p&&Nat.beq l m&&Nat.beq s r
 | .snap n a,.snap m b=>Nat.beq n m&&xd a b
 | .full n a,.full m b=>Nat.beq n m&&xd a b
 | .map i,.map j=>Nat.beq i j
 | .fn f a b,.fn g c d=>aaT f g&&(xd a c&&xd b d)
 | .iface t v,.iface u w=>Nat.beq t u&&xX v w
 | .agg a,.agg b=>xd a b
 | .tup a,.tup b=>xd a b
 | .sym i,.sym j=>Nat.beq i j
 | _,_=>false
def xd:List AV→List AV→Bool
 | [],[]=>true
 | a::l,b::m=>xX a b&&xd l m
 | _,_=>false
end
theorem Yb:∀ {a b:Fn},aaT a b=true→a=b
 | .func a,.func b,h=>by have:=Nat.eq_of_beq_eq_true h;rw[this]
mutual
theorem K7:∀ (a b:AV),xX a b=true→a=b
 | .lit a,b,h=>by cases b<;>simp only[xX]at h<;>first|(cases h;done)|(rw[Vb h])
 | .ptr i o,b,h=>by
   cases b<;>simp only[xX,Bool.and_eq_true]at h<;>first|(cases h;done)|skip
   rw[Nat.eq_of_beq_eq_true h.1,Nat.eq_of_beq_eq_true h.2]
 | .cptr a,b,h=>by cases b<;>simp only[xX]at h<;>first|(cases h;done)|(rw[nJ _ _ h])
 | .sl i o l s,b,h=>by
   cases b<;>simp only[xX,Bool.and_eq_true]at h<;>first|(cases h;done)|skip
   rw[Nat.eq_of_beq_eq_true h.1.1.1,Nat.eq_of_beq_eq_true h.1.1.2,Nat.eq_of_beq_eq_true h.1.2,Nat.eq_of_beq_eq_true h.2]
 | .snap n a,b,h=>by
   cases b<;>simp only[xX,Bool.and_eq_true]at h<;>first|(cases h;done)|skip
   rw[Nat.eq_of_beq_eq_true h.1,nJ _ _ h.2]
 | .full n a,b,h=>by
   cases b<;>simp only[xX,Bool.and_eq_true]at h<;>first|(cases h;done)|skip
   rw[Nat.eq_of_beq_eq_true h.1,nJ _ _ h.2]
 | .map i,b,h=>by cases b<;>simp only[xX]at h<;>first|(cases h;done)|(rw[Nat.eq_of_beq_eq_true h])
 | .fn f a c,b,h=>by
   cases b<;>simp only[xX,Bool.and_eq_true]at h<;>first|(cases h;done)|skip
   rw[Yb h.1,nJ _ _ h.2.1,nJ _ _ h.2.2]
 | .iface t v,b,h=>by
   cases b<;>simp only[xX,Bool.and_eq_true]at h<;>first|(cases h;done)|skip
   rw[Nat.eq_of_beq_eq_true h.1,K7 _ _ h.2]
 | .agg a,b,h=>by cases b<;>simp only[xX]at h<;>first|(cases h;done)|(rw[nJ _ _ h])
 | .tup a,b,h=>by cases b<;>simp only[xX]at h<;>first|(cases h;done)|(rw[nJ _ _ h])
 | .sym i,b,h=>by cases b<;>simp only[xX]at h<;>first|(cases h;done)|(rw[Nat.eq_of_beq_eq_true h])
theorem nJ:∀ (a b:List AV),xd a b=true→a=b
 | [],b,h=>by cases b<;>simp only[xd]at h<;>first|rfl|(cases h;done)
 | a::l,b,h=>by
   cases b<;>simp only[xd,Bool.and_eq_true]at h<;>first|(cases h;done)|skip
   rw[K7 _ _ h.1,nJ _ _ h.2]
end
def LR (P:Program) (tb:qr) (c:lV) (m:Nat) (t:HT) (n:Nat) (k:Bool):List PD→Bool
 | []=>k
 | ⟨q,o,e,v⟩::r=>bI (Nat.testBit m q) (LR P tb c m t n k r) (bA ((Di P tb o.op).f c e t n fun r _ _=>xX r v) (LR P tb c m t n k r))
def Fu (P:Program) (tb:qr) (nt:Nat) (m i:Nat) (o:Oper):ClD:=match fg nt o.dst with
 | true=>(match qOp P o.op with
   | true=>(match hOp P o.op with
     | true=>⟨fun c e t n pd K=>(Di P tb o.op).f c e t n fun v t n=>K (Ck e o.dst v) t n (⟨i,o,e,v⟩::pd)⟩
     | false=>⟨fun c e t n pd K=>(Di P tb o.op).f c e t n fun v t n=>K (Ck e o.dst v) t n pd⟩)
   | false=>⟨fun c e t n pd K=>(Di P tb o.op).f c e t n fun v t n=>LR P tb c m t n (K (Ck e o.dst v) t n pd) pd⟩)
 | false=>noD
def yk (P:Program) (tb:qr) (nt:Nat) (ops:Array Oper) (ms:List (Nat×Nat)):List Nat→ClD
 | []=>⟨fun _ e t n pd K=>K e t n pd⟩
 | i::rest=>match ops[i]? with
   | none=>noD
   | some o=>match o.guard with
     | none=>⟨fun c e t n pd K=>(Fu P tb nt (qp ms i) i o).f c e t n pd fun e t n pd=>(yk P tb nt ops ms rest).f c e t n pd K⟩
     | some (j,want)=>match (ops[j]?).bind (·.dst) with
       | none=>noD
       | some s=>match want with
         | true=>⟨fun c e t n pd K=>oM ((rC s).g e) fun v=>T9 (Ue ops j) v ((Fu P tb nt (qp ms i) i o).f c e t n pd fun e t n pd=>(yk P tb nt ops ms rest).f c e t n pd K) (bA (fg nt o.dst) ((yk P tb nt ops ms rest).f c (Ck e o.dst (.tup [])) t n pd K)) (bA (fg nt o.dst) ((yk P tb nt ops ms rest).f c (Ck e o.dst (.tup [])) t n pd K))⟩
         | false=>⟨fun c e t n pd K=>oM ((rC s).g e) fun v=>T9 (Ue ops j) v (bA (fg nt o.dst) ((yk P tb nt ops ms rest).f c (Ck e o.dst (.tup [])) t n pd K)) ((Fu P tb nt (qp ms i) i o).f c e t n pd fun e t n pd=>(yk P tb nt ops ms rest).f c e t n pd K) (bA (fg nt o.dst) ((yk P tb nt ops ms rest).f c (Ck e o.dst (.tup [])) t n pd K))⟩
def aa3 (P:Program) (ops:Array Oper) (done:List Nat):Option Nat:=
 let ready:=(List.range ops.size).filter fun i=>!done.contains i&&(match ops[i]? with|some o=>(u5 o).all done.contains|none=>false)
 match ready.find? (fun i=>match ops[i]? with|some o=>qOp P o.op|none=>false) with
 | some i=>some i
 | none=>ready.head?
def Vz (P:Program) (ops:Array Oper):Nat→List Nat→List Nat
 | 0,done=>done.reverse
 | k+1,done=>match aa3 P ops done with
   | some i=>Vz P ops k (i::done)
   | none=>done.reverse
def Gb (P:Program) (ops:Array Oper):Option (List Nat):=
 match np P ops (Vz P ops ops.size []) with
 | true=>some (Vz P ops ops.size [])
 | false=>match np P ops (List.range ops.size) with
   | true=>some (List.range ops.size)
   | false=>none
def aaR (body:ClC) (c:lV):Nat→ET→HT→Nat→(Exit→ET→HT→Nat→Bool)→Bool
 | 0,_,_,_,_=>false
 | k+1,e,t,n,K=>body.f c e t n fun ex e t n=>match ex with|.normal=>aaR body c k e t n K|ex=>K ex e t n
def Vg (body:ClC) (c:lV) (k:Nat):ET→HT→Nat→(Exit→ET→HT→Nat→Bool)→Bool:=
 @Nat.rec (fun _=>ET→HT→Nat→(Exit→ET→HT→Nat→Bool)→Bool) (fun _ _ _ _=>false) (fun _ ih e t n K=>body.f c e t n fun ex e t n=>match ex with|.normal=>ih e t n K|ex=>K ex e t n) k
def sL:Nat:=1000000
def uM:Code→Option Nat
 | .label l=>some l
 | .seq a b=>match uM a with|some l=>some l|none=>uM b
 | .cond _ a b=>match uM a with|some l=>some l|none=>uM b
 | .block _ b=>uM b
 | .loop b=>uM b
 | _=>none
def F6 (l:Nat) (again:ET→HT→Nat→Bool) (K:Exit→ET→HT→Nat→Bool):Exit→ET→HT→Nat→Bool:=
 fun ex e t n=>match ex with|.goto l'=>bA (Nat.beq l' l) (again e t n)|ex=>K ex e t n
def aaj (body:ClC) (c:lV) (l:Nat):Nat→ET→HT→Nat→(Exit→ET→HT→Nat→Bool)→Bool
 | 0,_,_,_,_=>false
 | k+1,e,t,n,K=>body.f c e t n (F6 l (fun e t n=>aaj body c l k e t n K) K)
def Sk (body:ClC) (c:lV) (l:Nat) (k:Nat):ET→HT→Nat→(Exit→ET→HT→Nat→Bool)→Bool:=
 @Nat.rec (fun _=>ET→HT→Nat→(Exit→ET→HT→Nat→Bool)→Bool) (fun _ _ _ _=>false) (fun _ ih e t n K=>body.f c e t n (F6 l (fun e t n=>ih e t n K) K)) k
def ma (P:Program) (tb:qr) (nt:Nat) (jmp:Code→ClC):Code→ClC
 | .skip=>⟨fun _ e t n K=>K .normal e t n⟩
 | .ret=>⟨fun _ e t n K=>K .ret e t n⟩
 | .exit id=>⟨fun _ e t n K=>K (.exit id) e t n⟩
 | .goto l=>⟨fun _ e t n K=>K (.goto l) e t n⟩
 | .label _=>⟨fun _ e t n K=>K .normal e t n⟩
 | .region _ ops d=>match d with
   | false=>⟨fun c e t n K=>(ry P tb nt ops (List.range ops.size)).f c e t n fun e t n=>K .normal e t n⟩
   | true=>match Gb P ops,P.follows .mixedOrders with
     | some l,true=>⟨fun c e t n K=>(yk P tb nt ops (ol ops l []) l).f c e t n [] fun e t n _=>K .normal e t n⟩
     | _,_=>noC
 | .seq x y=>⟨fun c e t n K=>(ma P tb nt jmp x).f c e t n fun ex e t n=>match ex with|.normal=>(ma P tb nt jmp y).f c e t n K|ex=>K ex e t n⟩
 | .cond x a b=>⟨fun c e t n K=>(eV x).f e fun v=>ifV v ((ma P tb nt jmp a).f c e t n K) ((ma P tb nt jmp b).f c e t n K)⟩
 | .block id x=>⟨fun c e t n K=>(ma P tb nt jmp x).f c e t n fun ex e t n=>match ex with|.exit i=>bI (Nat.beq i id) (K .normal e t n) (K (.exit i) e t n)|ex=>K ex e t n⟩
 | .loop x=>⟨fun c e t n K=>Vg (ma P tb nt jmp x) c sL e t n K⟩
 | .scope x=>match uM x with
   | some l=>(match findLabel x l with
     | some rest=>⟨fun c e t n K=>(ma P tb nt jmp x).f c e t n (F6 l (fun e t n=>Sk (jmp rest) c l sL e t n K) K)⟩
     | none=>noC)
   | none=>noC
 | _=>noC
def aao (P:Program) (tb:qr) (nt:Nat):Code→ClC:=ma P tb nt fun _=>noC
def Rs (P:Program) (tb:qr) (nt:Nat):Code→ClC:=ma P tb nt (aao P tb nt)
def u7 (P:Program):List ResultVar→ClV
 | []=>⟨fun _ _ K=>K []⟩
 | .tmp s::rs=>⟨fun e t K=>oM ((rC s).g e) fun v=>(u7 P rs).f e t fun vs=>K (v::vs)⟩
 | .cell a ty::rs=>match P.underlying ty,P.info? ty with
   | some d,some i=>(match mc d with
     | true=>⟨fun e t K=>oM ((rC a).g e) fun p=>E9 i.size p t fun v=>(u7 P rs).f e t fun vs=>K (v::vs)⟩
     | false=>⟨fun e t K=>oM ((rC a).g e) fun p=>EP p t fun v=>(u7 P rs).f e t fun vs=>K (v::vs)⟩)
   | _,_=>⟨fun _ _ _=>false⟩
def NI:Nat→List AV→ET
 | _,[]=>ee0
 | k,v::vs=>(rC k).s (NI (k+1) vs) v
def Ag (P:Program) (tb:qr) (fn:Func):ClF:=match fn.body with
 | none=>noF
 | some c => match fn.name == "runtime.NumGoroutine" with
   | true=>noF
   | false=>⟨fun call args t n K=>bA (Nat.ble args.length fn.ntmps) ((Rs P tb fn.ntmps c).f call (NI 0 args) t n fun ex e t n=>match ex with
     | .normal=>(u7 P fn.results.toList).f e t fun vs=>K (yl vs) t n
     | .ret=>(u7 P fn.results.toList).f e t fun vs=>K (yl vs) t n
     | _=>false)⟩
abbrev Iq:=FuncId→List AV→HT→Nat→(AV→HT→Nat→Bool)→Option Bool
variable [Tabs]
section
variable {P:Program}{nt:Nat}{call:lV}{tb:qr}
def KE (K:ET→HT→Nat→Bool) (env:Env) (h:ae):Prop:=∃ e t n,ER e env∧HR t n h∧K e t n=true
theorem ER.putD {e:ET}{env:Env}(r:ER e env) (d:Option Tmp) (v:AV):ER (Ck e d v) (putD env d v):=by
 cases d with
 | none=>exact r
 | some d=>exact r.put d v
theorem ER.know {e:ET}{env:Env}(r:ER e env) {s:Nat}{v:AV}(h:(rC s).g e=some v):ER e ((s,v)::env):=fun k u hu=>by
 simp only[AL.get]
 by_cases hk:s=k
 ·subst hk;rw[if_pos rfl,← h,hu]
 ·rw[if_neg hk];exact r k u hu
theorem Br (ht:oQ tb) (hc:jV P call) {o:Oper}{e:ET}{env:Env}{t:HT}{n:Nat}{h:ae}{K:ET→HT→Nat→Bool}(er:ER e env) (hr:HR t n h) (k:(Iv P tb nt o).f call e t n K=true):pX P nt env h o (KE K):=by
 unfold Iv at k
 unfold pX
 split at k
 ·rename_i hd
  rw[if_pos hd]
  split at k
  ·rename_i d ho
   refine kp (fun v h' k=>?_) (tz ht hc er hr k)
   obtain⟨t',n',hr',k⟩:=k
   refine⟨_,t',n',?_,hr',k⟩
   rw[ho];exact er.put d v
  ·rename_i ho
   refine kp (fun v h' k=>?_) (tz ht hc er hr k)
   obtain⟨t',n',hr',k⟩:=k
   refine⟨_,t',n',?_,hr',k⟩
   rw[ho];exact er
 ·cases k
theorem GR {o:Option AV}{K:AV→Bool}(k:oM o K=true):∃ v,o=some v∧K v=true:=by
 unfold oM at k;split at k
 ·exact⟨_,rfl,k⟩
 ·cases k
theorem aaB {v:AV}{x y:Bool}(k:ifV v x y=true):(v=B true∧x=true)∨(v=B false∧y=true):=by
 unfold ifV at k;split at k
 ·exact .inl ⟨rfl,k⟩
 ·exact .inr ⟨rfl,k⟩
 ·cases k
theorem D5 {g:Bool}{v:AV}{x y z:Bool}(k:T9 g v x y z=true):(v=B true∧x=true)∨(v=B false∧y=true)∨(v=.tup []∧g=true∧z=true):=by
 unfold T9 at k;split at k
 ·exact .inl ⟨rfl,k⟩
 ·exact .inr (.inl ⟨rfl,k⟩)
 ·rw[dw]at k;exact .inr (.inr ⟨rfl,k⟩)
 ·cases k
theorem OR {ops:Array Oper}{l:List Nat}{env:Env}{h:ae}{K K':Env→ae→Prop}(hk:∀ env' h',K env' h'→K' env' h') (k:jb P nt ops l env h K):jb P nt ops l env h K':=
 t0 ops l env h K K' (fun env' h' _ k=>hk env' h' k) k
theorem wE {env:Env}{h:ae}{o:Oper}{K K':Env→ae→Prop}(hk:∀ env' h',K env' h'→K' env' h') (k:pX P nt env h o K):pX P nt env h o K':=
 GV (fun v h' k=>hk _ _ k) k
theorem lp (ht:oQ tb) (hc:jV P call) (ops:Array Oper):∀ (l:List Nat) {e:ET}{env:Env}{t:HT}{n:Nat}{h:ae}{K:ET→HT→Nat→Bool},ER e env→HR t n h→(ry P tb nt ops l).f call e t n K=true→jb P nt ops l env h (KE K)
 | [],e,env,t,n,h,K,er,hr,k=>⟨e,t,n,er,hr,k⟩
 | i::rest,e,env,t,n,h,K,er,hr,k=>by
   unfold ry at k
   unfold jb
   split at k
   ·cases k
   ·rename_i o ho
    simp only[ho]
    split at k
    ·rename_i hg
     simp only[hg]
     exact wE (fun env' h' ⟨e',t',n',er',hr',k'⟩=>lp ht hc ops rest er' hr' k') (Br ht hc er hr k)
    ·rename_i j want hg
     simp only[hg]
     split at k
     ·cases k
     ·rename_i s hs
      simp only[hs]
      split at k
      ·obtain⟨v,hv,k⟩:=GR k
       rw[er s _ hv]
       replace k:=D5 k
       rcases k with ⟨rfl,k⟩|⟨rfl,k⟩|⟨rfl,hgd,k⟩
       ·refine Sl ?_
        simp only[if_true]
        exact wE (fun env' h' ⟨e',t',n',er',hr',k'⟩=>lp ht hc ops rest er' hr' k') (Br ht hc (er.know hv) hr k)
       ·refine Ss ?_
        simp only[if_true]
        rw[dw]at k
        rw[if_pos k.1]
        exact lp ht hc ops rest ((er.know hv).putD _ _) hr k.2
       ·simp only[bT,hgd,ifG,ifT]
        rw[dw]at k
        rw[if_pos k.1]
        exact lp ht hc ops rest ((er.know hv).putD _ _) hr k.2
      ·obtain⟨v,hv,k⟩:=GR k
       rw[er s _ hv]
       replace k:=D5 k
       rcases k with ⟨rfl,k⟩|⟨rfl,k⟩|⟨rfl,hgd,k⟩
       ·refine Sl ?_
        simp only[Bool.false_eq_true,if_false]
        rw[dw]at k
        rw[if_pos k.1]
        exact lp ht hc ops rest ((er.know hv).putD _ _) hr k.2
       ·refine Ss ?_
        simp only[Bool.false_eq_true,if_false]
        exact wE (fun env' h' ⟨e',t',n',er',hr',k'⟩=>lp ht hc ops rest er' hr' k') (Br ht hc (er.know hv) hr k)
       ·simp only[bT,hgd,ifG,ifT]
        rw[dw]at k
        rw[if_pos k.1]
        exact lp ht hc ops rest ((er.know hv).putD _ _) hr k.2
def PR (P:Program):List PD→qe→Prop
 | [],p=>p=[]
 | ⟨q,o,e,v⟩::r,p=>∃ env p',p=(q,fun h2=>aop P env h2 o fun r _=>r=v)::p'∧ER e env∧PR P r p'
theorem F1 (ht:oQ tb) (hc:jV P call) {m:Nat}{t:HT}{n:Nat}{h:ae}(hr:HR t n h) {k:Bool}{X:Prop}(hk:k=true→X):∀ {pd:List PD}{p:qe},PR P pd p→LR P tb call m t n k pd=true→rM m p h X
 | [],p,hp,b=>by simp only[PR]at hp;subst hp;exact hk b
 | ⟨q,o,e,v⟩::r,p,hp,b=>by
   obtain⟨env,p',rfl,er,hp⟩:=hp
   unfold LR at b
   unfold rM
   rcases (L6 _ _ _).1 b with ⟨hq,b⟩|⟨hq,b⟩
   ·rw[if_pos hq];exact F1 ht hc hr hk hp b
   ·rw[if_neg (by rw[hq];simp)]
    rw[dw]at b
    exact⟨kp (fun r h' ⟨t',n',_,k⟩=>K7 _ _ k) (tz ht hc er hr b.1),F1 ht hc hr hk hp b.2⟩
def KD (P:Program) (K:ET→HT→Nat→List PD→Bool) (env:Env) (h:ae) (p:qe):Prop:=∃ e t n pd,ER e env∧HR t n h∧PR P pd p∧K e t n pd=true
theorem Ca (ht:oQ tb) (hc:jV P call) {m i:Nat}{o:Oper}{e:ET}{env:Env}{t:HT}{n:Nat}{h:ae}{pd:List PD}{p:qe}{K:ET→HT→Nat→List PD→Bool}(er:ER e env) (hr:HR t n h) (hp:PR P pd p) (k:(Fu P tb nt m i o).f call e t n pd K=true):p8 P nt m i o env h p (KD P K):=by
 unfold Fu at k
 unfold p8
 split at k
 ·rename_i hd
  rw[if_pos hd]
  split at k
  ·rename_i hq
   rw[if_pos hq]
   split at k
   ·rename_i hh
    refine kp (fun v h' k=>?_) (tz ht hc er hr k)
    obtain⟨t',n',hr',k⟩:=k
    rw[if_pos hh]
    exact⟨_,t',n',⟨i,o,e,v⟩::pd,er.putD _ _,hr',⟨env,p,rfl,er,hp⟩,k⟩
   ·rename_i hh
    refine kp (fun v h' k=>?_) (tz ht hc er hr k)
    obtain⟨t',n',hr',k⟩:=k
    rw[if_neg (by rw[hh];simp)]
    exact⟨_,t',n',_,er.putD _ _,hr',hp,k⟩
  ·rename_i hq
   rw[if_neg (by rw[hq];simp)]
   refine kp (fun v h' k=>?_) (tz ht hc er hr k)
   obtain⟨t',n',hr',k⟩:=k
   exact F1 ht hc hr' (fun k=>⟨_,t',n',_,er.putD _ _,hr',hp,k⟩) hp k
 ·cases k
theorem nY (ht:oQ tb) (hc:jV P call) (ops:Array Oper) (ms:List (Nat×Nat)):∀ (l:List Nat) {e:ET}{env:Env}{t:HT}{n:Nat}{h:ae}{pd:List PD}{p:qe}{K:ET→HT→Nat→List PD→Bool},ER e env→HR t n h→PR P pd p→(yk P tb nt ops ms l).f call e t n pd K=true→
  ka P nt ops ms l env h p fun env' h'=>∃ e t n pd,ER e env'∧HR t n h'∧K e t n pd=true
 | [],e,env,t,n,h,pd,p,K,er,hr,hp,k=>⟨e,t,n,pd,er,hr,k⟩
 | i::rest,e,env,t,n,h,pd,p,K,er,hr,hp,k=>by
   unfold yk at k
   unfold ka
   have sm:∀ {env:Env} {K' K2:Env→ae→qe→Prop} {o:Oper},(∀ env' h' p',K' env' h' p'→K2 env' h' p')→p8 P nt (qp ms i) i o env h p K'→p8 P nt (qp ms i) i o env h p K2:=fun hk k=>EA (fun v h' p' k=>hk _ _ _ k) k
   split at k
   ·cases k
   ·rename_i o ho
    simp only[ho]
    split at k
    ·rename_i hg
     simp only[hg]
     exact sm (fun env' h' p' ⟨e',t',n',pd',er',hr',hp',k'⟩=>nY ht hc ops ms rest er' hr' hp' k') (Ca ht hc er hr hp k)
    ·rename_i j want hg
     simp only[hg]
     split at k
     ·cases k
     ·rename_i s hs
      simp only[hs]
      split at k
      ·obtain⟨v,hv,k⟩:=GR k
       rw[er s _ hv]
       replace k:=D5 k
       rcases k with ⟨rfl,k⟩|⟨rfl,k⟩|⟨rfl,hgd,k⟩
       ·refine Sl ?_
        simp only[if_true]
        exact sm (fun env' h' p' ⟨e',t',n',pd',er',hr',hp',k'⟩=>nY ht hc ops ms rest er' hr' hp' k') (Ca ht hc (er.know hv) hr hp k)
       ·refine Ss ?_
        simp only[if_true]
        rw[dw]at k
        rw[if_pos k.1]
        exact nY ht hc ops ms rest ((er.know hv).putD _ _) hr hp k.2
       ·simp only[bT,hgd,ifG,ifT]
        rw[dw]at k
        rw[if_pos k.1]
        exact nY ht hc ops ms rest ((er.know hv).putD _ _) hr hp k.2
      ·obtain⟨v,hv,k⟩:=GR k
       rw[er s _ hv]
       replace k:=D5 k
       rcases k with ⟨rfl,k⟩|⟨rfl,k⟩|⟨rfl,hgd,k⟩
       ·refine Sl ?_
        simp only[Bool.false_eq_true,if_false]
        rw[dw]at k
        rw[if_pos k.1]
        exact nY ht hc ops ms rest ((er.know hv).putD _ _) hr hp k.2
       ·refine Ss ?_
        simp only[Bool.false_eq_true,if_false]
        exact sm (fun env' h' p' ⟨e',t',n',pd',er',hr',hp',k'⟩=>nY ht hc ops ms rest er' hr' hp' k') (Ca ht hc (er.know hv) hr hp k)
       ·simp only[bT,hgd,ifG,ifT]
        rw[dw]at k
        rw[if_pos k.1]
        exact nY ht hc ops ms rest ((er.know hv).putD _ _) hr hp k.2
theorem Oh {ops:Array Oper}{l:List Nat}(h:Gb P ops=some l):np P ops l=true:=by
 unfold Gb at h
 split at h
 ·cases h;assumption
 ·split at h
  ·cases h;assumption
  ·cases h
theorem C8 {c:Code}{Q Q':Exit→Act→World→Prop}(hq:∀ e a w,Q e a w→Q' e a w):∀ (k:Nat) (a:Act) (w:World),Code.rounds P c Q k a w→Code.rounds P c Q' k a w
 | 0,a,w,h=>h
 | k+1,a,w,h=>Go.wp_mono h fun e a' w' p=>by
   cases e with
   | normal=>exact C8 hq k a' w' p
   | _=>exact hq _ _ _ p
def KX (K:Exit→ET→HT→Nat→Bool) (ex:Exit) (env:Env) (h:ae):Prop:=∃ e t n,ER e env∧HR t n h∧K ex e t n=true
theorem RQ {c:Code}{body:ClC}(hb:∀ {e:ET}{env:Env}{t:HT}{n:Nat}{h:ae}{K:Exit→ET→HT→Nat→Bool},ER e env→HR t n h→body.f call e t n K=true→AWp P nt c env h (KX K)):
  ∀ (k:Nat) {e:ET} {env:Env} {t:HT} {n:Nat} {h:ae} {K:Exit→ET→HT→Nat→Bool},ER e env→HR t n h→Vg body call k e t n K=true→
    ∀ (G:Gh) (w:World) (a:Act),Sim G h w→a.tmps.size=nt→EnvRep G env a.tmps→Code.rounds P c (Post G h w nt a.defers (KX K)) k a w
 | 0,e,env,t,n,h,K,er,hr,k=>by cases k
 | m+1,e,env,t,n,h,K,er,hr,k=>by
   intro G w a s hn r
   refine Go.wp_mono (hb er hr k G w a s hn r) fun ex a' w' p=>?_
   obtain⟨env',h',G',⟨e',t',n',er',hr',hk⟩,s',ev,r',hn',hd'⟩:=p
   cases ex with
   | normal=>
     have:=RQ hb m er' hr' hk G' w' a' s' hn' r'
     exact C8 (fun e a2 w2 p2=>by rw[hd']at p2;exact p2.step ev) m a' w' this
   | _=>exact⟨env',h',G',⟨e',t',n',er',hr',hk⟩,s',ev,r',hn',hd'⟩
def aas (P:Program) (nt:Nat) (call:lV) (f:Code→ClC):Prop:=∀ (c:Code) {e:ET}{env:Env}{t:HT}{n:Nat}{h:ae}{K:Exit→ET→HT→Nat→Bool},ER e env→HR t n h→(f c).f call e t n K=true→AWp P nt c env h (KX K)
def Ba (P:Program) (rest:Code) (l:Nat) (Q:Exit→Act→World→Prop):Nat→Act→World→Prop
 | 0,_,_=>False
 | n+1,a,w=>rest.wp P (Exit.jump l (Ba P rest l Q n) Q) a w
theorem zn {rest:Code}{l:Nat}{Q Q':Exit→Act→World→Prop}(hq:∀ e a w,Q e a w→Q' e a w):∀ (k:Nat) (a:Act) (w:World),Ba P rest l Q k a w→Ba P rest l Q' k a w
 | 0,a,w,h=>h
 | k+1,a,w,h=>Go.wp_mono h fun e a' w' p=>by
   cases e with
   | goto l'=>exact⟨p.1,zn hq k a' w' p.2⟩
   | _=>exact hq _ _ _ p
theorem HG {c rest:Code}{Q:Exit→Act→World→Prop}{a:Act}{w:World}(l m:Nat) (hf:findLabel c l=some rest) (first:c.wp P (Exit.jump l (Ba P rest l Q m) Q) a w):(Code.scope c).wp P Q a w:=by
 refine wp_scope_jumps l (fun a w=>∃ k,Ba P rest l Q k a w) (fun a w=>CG fun k=>Ba P rest l Q k a w) hf (Go.wp_mono first fun e a' w' p=>?_) fun a w hJ=>?_
 ·cases e with
  | goto l'=>exact⟨p.1,m,p.2⟩
  | _=>exact p
 ·have hsp:=wX hJ
  generalize hk:CG (fun k=>Ba P rest l Q k a w)=k at hsp
  cases k with
  | zero=>exact hsp.elim
  | succ k=>
    refine Go.wp_mono (show rest.wp P (Exit.jump l (Ba P rest l Q k) Q) a w from hsp) fun e a' w' p=>?_
    cases e with
    | goto l'=>exact⟨p.1,⟨k,p.2⟩,Nat.lt_of_le_of_lt (Co p.2) (Nat.lt_succ_self k)⟩
    | _=>exact p
theorem Mk {rest:Code}{body:ClC}{l:Nat}(hb:∀ {e:ET}{env:Env}{t:HT}{n:Nat}{h:ae}{K:Exit→ET→HT→Nat→Bool},ER e env→HR t n h→body.f call e t n K=true→AWp P nt rest env h (KX K)):
  ∀ (k:Nat) {e:ET} {env:Env} {t:HT} {n:Nat} {h:ae} {K:Exit→ET→HT→Nat→Bool},ER e env→HR t n h→Sk body call l k e t n K=true→
    ∀ (G:Gh) (w:World) (a:Act),Sim G h w→a.tmps.size=nt→EnvRep G env a.tmps→Ba P rest l (Post G h w nt a.defers (KX K)) k a w
 | 0,e,env,t,n,h,K,er,hr,k=>by cases k
 | m+1,e,env,t,n,h,K,er,hr,k=>by
   intro G w a s hn r
   have k:body.f call e t n (F6 l (fun e t n=>Sk body call l m e t n K) K)=true:=k
   refine Go.wp_mono (hb er hr k G w a s hn r) fun ex a' w' p=>?_
   obtain⟨env',h',G',⟨e',t',n',er',hr',hk⟩,s',ev,r',hn',hd'⟩:=p
   cases ex with
   | goto l'=>
     simp only[F6,dw]at hk
     refine⟨Nat.eq_of_beq_eq_true hk.1,?_⟩
     have:=Mk hb m er' hr' hk.2 G' w' a' s' hn' r'
     exact zn (fun e a2 w2 p2=>by rw[hd']at p2;exact p2.step ev) m a' w' this
   | _=>exact⟨env',h',G',⟨e',t',n',er',hr',hk⟩,s',ev,r',hn',hd'⟩
theorem IA (ht:oQ tb) (hc:jV P call) {jmp:Code→ClC}(hj:aas P nt call jmp):∀ (c:Code) {e:ET}{env:Env}{t:HT}{n:Nat}{h:ae}{K:Exit→ET→HT→Nat→Bool},ER e env→HR t n h→(ma P tb nt jmp c).f call e t n K=true→AWp P nt c env h (KX K):=by
 intro c
 induction c with
 | skip=>exact fun er hr k=>OO ⟨_,_,_,er,hr,k⟩
 | ret=>exact fun er hr k=>RR ⟨_,_,_,er,hr,k⟩
 | exit id=>exact fun er hr k=>LZ ⟨_,_,_,er,hr,k⟩
 | goto l=>exact fun er hr k=>MX ⟨_,_,_,er,hr,k⟩
 | label l=>exact fun er hr k=>JD ⟨_,_,_,er,hr,k⟩
 | region id ops d=>
   intro e env t n h K er hr k
   cases d with
   | false=>exact Gw (OR (fun env' h' ⟨e',t',n',er',hr',k'⟩=>⟨e',t',n',er',hr',k'⟩) (lp ht hc ops _ er hr k))
   | true=>
     simp only[ma]at k
     split at k
     ·rename_i l hl hf
      refine Jt hf (Oh hl) (py ops _ l env h [] _ _ (fun env' h' _ ⟨e',t',n',pd,er',hr',k'⟩=>⟨e',t',n',er',hr',k'⟩) (nY ht hc ops _ l er hr (pd:=[]) (by simp[PR]) k))
     ·cases k
 | seq x y hx hy=>
   intro e env t n h K er hr k
   refine Kh ((hx er hr k).mono fun ex env' h' ⟨e',t',n',er',hr',k'⟩=>?_)
   cases ex with
   | normal=>exact hy er' hr' k'
   | _=>exact⟨e',t',n',er',hr',k'⟩
 | cond x a b ha hb=>
   intro e env t n h K er hr k
   obtain⟨v,hv,k⟩:=bz er k
   refine L1 ?_
   rw[hv]
   rcases aaB k with ⟨rfl,k1⟩|⟨rfl,k1⟩
   ·exact ha er hr k1
   ·exact hb er hr k1
 | block id x hx=>
   intro e env t n h K er hr k
   refine IE ((hx er hr k).mono fun ex env' h' ⟨e',t',n',er',hr',k'⟩=>?_)
   cases ex with
   | exit i=>
     simp only[L6]at k'
     rcases k' with ⟨hi,k'⟩|⟨hi,k'⟩
     ·show if i=id then _ else _
      rw[if_pos (Nat.eq_of_beq_eq_true hi)];exact⟨e',t',n',er',hr',k'⟩
     ·show if i=id then _ else _
      rw[if_neg (fun e=>by rw[Nat.beq_eq.mpr e]at hi;cases hi)];exact⟨e',t',n',er',hr',k'⟩
   | _=>exact⟨e',t',n',er',hr',k'⟩
 | loop x hx=>
   intro e env t n h K er hr k G w a s hn r
   have k':Vg (ma P tb nt jmp x) call sL e t n K=true:=k
   generalize sL=m at k'
   exact wp_loop_rounds m (RQ (fun er hr k=>hx er hr k) m er hr k' G w a s hn r)
 | scope x hx=>
   intro e env t n h K er hr k
   simp only[ma]at k
   split at k
   ·rename_i l hl
    split at k
    ·rename_i rest hrest
     intro G w a s hn r
     have k':(ma P tb nt jmp x).f call e t n (F6 l (fun e t n=>Sk (jmp rest) call l sL e t n K) K)=true:=k
     clear k
     generalize sL=m at k'
     refine HG l m hrest (Go.wp_mono (hx er hr k' G w a s hn r) fun ex a' w' p=>?_)
     obtain⟨env',h',G',⟨e',t',n',er',hr',hk⟩,s',ev,r',hn',hd'⟩:=p
     cases ex with
     | goto l'=>
       simp only[F6,dw]at hk
       refine⟨Nat.eq_of_beq_eq_true hk.1,?_⟩
       have:=Mk (hj rest) m er' hr' hk.2 G' w' a' s' hn' r'
       exact zn (fun e a2 w2 p2=>by rw[hd']at p2;exact p2.step ev) m a' w' this
     | _=>exact⟨env',h',G',⟨e',t',n',er',hr',hk⟩,s',ev,r',hn',hd'⟩
    ·cases k
   ·cases k
 | _=>intro e env t n h K er hr k;cases k
theorem A7 (ht:oQ tb) (hc:jV P call):∀ (c:Code) {e:ET}{env:Env}{t:HT}{n:Nat}{h:ae}{K:Exit→ET→HT→Nat→Bool},ER e env→HR t n h→(Rs P tb nt c).f call e t n K=true→AWp P nt c env h (KX K):=
 IA ht hc (IA ht hc fun c {e env t n h K} er hr k=>by cases k)
theorem sR {e:ET}{env:Env}{t:HT}{n:Nat}{h:ae}(er:ER e env) (hr:HR t n h):∀ {rs:List ResultVar}{K:List AV→Bool},(u7 P rs).f e t K=true→HQ P env h rs fun vs=>K vs=true
 | [],K,k=>k
 | .tmp s::rs,K,k=>by
   obtain⟨v,hv,k⟩:=GR k
   unfold HQ
   rw[er s _ hv]
   exact sR er hr k
 | .cell a ty::rs,K,k=>by
   simp only[u7]at k
   unfold HQ
   split at k
   ·split at k
    ·obtain⟨v,hv,k⟩:=GR k
     rw[er a _ hv]
     show kr P ty v h _
     unfold kr
     simp only[*,if_true]
     exact gI (fun r k=>sR er hr k) _ _ _ ⟨CK hr k⟩
    ·obtain⟨v,hv,k⟩:=GR k
     rw[er a _ hv]
     show kr P ty v h _
     unfold kr
     simp only[*,Bool.false_eq_true,if_false]
     exact gK (fun r k=>sR er hr k) _ _ ⟨Cl hr k⟩
   ·cases k
theorem pJ {env:Env}{h:ae}:∀ {rs:List ResultVar}{K K':List AV→Prop},(∀ vs,K vs→K' vs)→HQ P env h rs K→HQ P env h rs K'
 | [],K,K',hk,k=>hk _ k
 | .tmp s::rs,K,K',hk,k=>cT (fun v k=>pJ (fun vs k=>hk _ k) k) k
 | .cell a ty::rs,K,K',hk,k=>cT (fun v k=>by
   unfold kr at *
   split at k
   ·split at k
    ·rename_i hd;rw[if_pos hd];exact gI (fun r k=>pJ (fun vs k=>hk _ k) k) _ _ _ k
    ·rename_i hd;rw[if_neg hd];exact gK (fun r k=>pJ (fun vs k=>hk _ k) k) _ _ k
   ·exact k.elim) k
theorem Bz:∀ (k:Nat) (vs:List AV),ER (NI k vs) (eM k vs)
 | k,[]=>fun i v h=>by rw[NI,Za]at h;cases h
 | k,v::vs=>(Bz (k+1) vs).put k v
theorem XP (ht:oQ tb) (hc:jV P call) {f:FuncId}{fn:Func}(hf:P.funcs[f]?=some fn) {args:List AV}{t:HT}{n:Nat}{h:ae}{K:AV→HT→Nat→Bool}(hr:HR t n h) (k:(Ag P tb fn).f call args t n K=true):ACall P f args h (KH K):=by
 unfold Ag at k
 split at k
 ·cases k
 ·rename_i c hb
  split at k
  ·cases k
  ·rename_i hname
   simp only[dw]at k
   obtain⟨hn,k⟩:=k
   have hn:=Nat.le_of_ble_eq_true hn
   refine⟨⟨fn,hf,hname,by simp[hb]⟩,fun G w vs s r=>?_⟩
   refine calls_of_wp hf hb ?_
   have hl:=r.length
   have hre:EnvRep G (eM 0 args) (vs.toArray++Array.replicate (fn.ntmps-vs.toArray.size) undef):=fun k a e=>by
    obtain⟨_,h1⟩:=tg args 0 k a e
    obtain⟨v,h2,h3⟩:=r.at _ _ h1
    have hk:k<vs.length:=(List.getElem?_eq_some_iff.1 h2).1
    exact⟨v,by rw[Array.getElem?_append_left (by simpa using hk)];simpa using h2,h3⟩
   have W:=A7 ht hc c (Bz 0 args) hr k G w { tmps:=vs.toArray++Array.replicate (fn.ntmps-vs.toArray.size) undef,defers:=[] } s (by simp;omega) hre
   have fin:∀ {e:ET} {env':Env} {t':HT} {n':Nat} {h':ae},ER e env'→HR t' n' h'→(u7 P fn.results.toList).f e t' (fun vs=>K (yl vs) t' n')=true→HB P fn.results.toList env' h' (KH K):=fun er hr k=>
    pJ (fun vs k=>kh hr k) (sR er hr k)
   refine wp_mono W fun e a w' ⟨env',h',G',⟨e',t',n',er',hr',hk⟩,s',ev,r',hn',hd'⟩=>?_
   cases e with
   | normal=>
     obtain⟨v,x,q1,q2,q3⟩:=oU s' r' (fin er' hr' hk)
     exact⟨hd',x,q1,v,x,h',G',rfl,q2,q3,s',ev⟩
   | ret=>
     obtain⟨v,x,q1,q2,q3⟩:=oU s' r' (fin er' hr' hk)
     exact⟨hd',x,q1,v,x,h',G',rfl,q2,q3,s',ev⟩
   | exit id=>cases hk
   | goto l=>cases hk
   | panic ch=>cases hk
   | outgrown=>cases hk
def Qx (P:Program) (sp:Iq):Prop:=∀ (f:FuncId) (args:List AV) (t:HT) (n:Nat) (h:ae) (K:AV→HT→Nat→Bool),HR t n h→sp f args t n K=some true→ACall P f args h (KH K)
end
end
end
end Go.Proofs.YtbhphjpgjgigpaaGreatDoor.AL
