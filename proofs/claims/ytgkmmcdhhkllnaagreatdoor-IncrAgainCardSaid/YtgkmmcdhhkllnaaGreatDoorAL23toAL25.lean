import Derived.Test.YtgkmmcdhhkllnaaGreatDoorAL20toAL22e
import Derived.Test.YtgkmmcdhhkllnaaGreatDoorAL10ntoAL13v
import Derived.ScopeJumps
set_option linter.all false
set_option autoImplicit true
set_option relaxedAutoImplicit true
set_option maxRecDepth 100000
namespace Go.Proofs.YtgkmmcdhhkllnaaGreatDoor.AL
section
noncomputable section
abbrev ET:=E16
abbrev md:=FuncId→List AV→HT→Nat→(AV→HT→Nat→Bool)→Bool
structure ClX where
 f:ET→(AV→Bool)→Bool
structure ClL where
 f:ET→(List AV→Bool)→Bool
structure ClP where
 f:ET→(Option AV→Bool)→Bool
structure ClO where
 f:md→ET→HT→Nat→(AV→HT→Nat→Bool)→Bool
def oM (o:Option AV) (K:AV→Bool):Bool:=match o with|some v=>K v|none=>false
def eX (x:Operand):ClX:=match x with
 | .tmp s=>⟨fun e K=>oM ((tp s).g e) K⟩
 | .const v=>match okV v with
   | true=>⟨fun _ K=>K (ofV v)⟩
   | false=>⟨fun _ _=>false⟩
 | .global _=>⟨fun _ _=>false⟩
 | .func f=>⟨fun _ K=>K (.fn (.func f) [] [])⟩
def sX (l:List Operand):ClL:=match l with
 | []=>⟨fun _ K=>K []⟩
 | x::xs=>⟨fun e K=>(eX x).f e fun v=>(sX xs).f e fun vs=>K (v::vs)⟩
def xP (x:Option Operand):ClP:=match x with
 | none=>⟨fun _ K=>K none⟩
 | some x=>⟨fun e K=>(eX x).f e fun v=>K (some v)⟩
def noO:ClO:=⟨fun _ _ _ _ _=>false⟩
def q1 (x:Operand) (g:AV→(AV→Bool)→Bool):ClO:=⟨fun _ e t n K=>(eX x).f e fun v=>g v fun r=>K r t n⟩
def q1t (x:Operand) (g:AV→HT→(AV→Bool)→Bool):ClO:=⟨fun _ e t n K=>(eX x).f e fun v=>g v t fun r=>K r t n⟩
def q2 (x y:Operand) (g:AV→AV→(AV→Bool)→Bool):ClO:=⟨fun _ e t n K=>(eX x).f e fun v=>(eX y).f e fun u=>g v u fun r=>K r t n⟩
def q2t (x y:Operand) (g:AV→AV→HT→(AV→Bool)→Bool):ClO:=⟨fun _ e t n K=>(eX x).f e fun v=>(eX y).f e fun u=>g v u t fun r=>K r t n⟩
def e1 (x:Operand) (g:AV→HT→Nat→(AV→HT→Nat→Bool)→Bool):ClO:=⟨fun _ e t n K=>(eX x).f e fun v=>g v t n K⟩
def e2 (x y:Operand) (g:AV→AV→HT→Nat→(AV→HT→Nat→Bool)→Bool):ClO:=⟨fun _ e t n K=>(eX x).f e fun v=>(eX y).f e fun u=>g v u t n K⟩
def s2 (x y:Operand) (g:AV→AV→HT→Nat→(HT→Nat→Bool)→Bool):ClO:=⟨fun _ e t n K=>(eX x).f e fun v=>(eX y).f e fun u=>g v u t n fun t n=>K (.tup []) t n⟩
def s3 (x y z:Operand) (g:AV→AV→AV→HT→Nat→(HT→Nat→Bool)→Bool):ClO:=⟨fun _ e t n K=>(eX x).f e fun v=>(eX y).f e fun u=>(eX z).f e fun w=>g v u w t n fun t n=>K (.tup []) t n⟩
def aaA (c a b:AV) (K:AV→Bool):Bool:=match c with|.lit (.bool true)=>K a|.lit (.bool false)=>K b|_=>false
def P2 (P:Program) (t:TypeId) (is:List Nat) (xs:List Operand):ClO:=
 match P.underlying t,P.info? t with
 | some (.struct fs),some i=>(match i.zero,jB P fs.toList with
   | some z,some l=>(match okV z with
     | true=>⟨fun _ e t n K=>(sX xs).f e fun vs=>match Av (fun j=>l[j]?) (is.zip vs) with|some qs=>QV (ofV z).cells qs fun r=>K r t n|none=>false⟩
     | false=>noO)
   | _,_=>noO)
 | _,_=>noO
def xk (P:Program) (t:TypeId) (m:Nat) (is:List Nat) (xs:List Operand):ClO:=
 match P.underlying t with
 | some (.slice e)=>(match P.info? e with
   | some i=>(match i.zero with
     | some _=>(match is==List.range m&&decide (m*i.size≤16777216) with
       | true=>⟨fun _ e t n K=>(sX xs).f e fun vs=>xU m i.size vs fun r=>K r t n⟩
       | false=>noO)
     | none=>noO)
   | none=>noO)
 | _=>noO
def aaJ (P:Program) (t:TypeId) (x:Operand):ClO:=
 match P.underlying t,P.info? t with
 | some d,some i=>(match l6 d with|true=>q1t x (Gq i.size)|false=>q1t x Ic)
 | _,_=>noO
def abW (P:Program) (op:BinOp) (t:TypeId) (x y:Operand):ClO:=
 match P.underlying t with
 | some .bool=>q2 x y (Xo op)
 | some (.pointer _)=>q2 x y (Xl op)
 | some (.int _)=>q2 x y (Wh op)
 | some .string=>q2 x y (Wh op)
 | some (.float _)=>q2 x y (Wh op)
 | _=>noO
def aaL (P:Program) (s d:TypeId) (x:Operand):ClO:=
 match P.underlying s,P.underlying d with
 | some (.int _),some (.int k)=>q1 x (Lm k)
 | some (.int _),some (.float k)=>q1 x (Mo k)
 | some .string,some .string=>q1 x Ma
 | _,_=>noO
def WL (P:Program) (t:TypeId) (x:Operand) (lo hi mx:Option Operand):ClO:=
 match P.underlying t,mx with
 | some .string,none=>⟨fun _ e t n K=>(eX x).f e fun v=>(xP lo).f e fun l=>(xP hi).f e fun u=>KT v l u fun r=>K r t n⟩
 | some (.slice el),none=>(match P.info? el with|some i=>⟨fun _ e t n K=>(eX x).f e fun v=>(xP lo).f e fun l=>(xP hi).f e fun u=>MR i.size v l u fun r=>K r t n⟩|none=>noO)
 | some (.slice el),some m=>⟨fun _ e t n K=>(eX x).f e fun v=>(xP lo).f e fun l=>(xP hi).f e fun u=>(eX m).f e fun mv=>(match P.info? el,l,u,mv with|some _,none,some (.lit (.int _ 0)),.lit (.int _ 0)=>Lg v fun r=>K r t n|_,_,_,_=>false)⟩
 | _,_=>noO
def Gv (P:Program) (t:TypeId) (x:Operand) (f:Nat):ClO:=
 match P.underlying t with
 | some (.struct fs)=>(match fs[f]? with
   | some fd=>(match P.info? fd.type with|some i=>(match i.size with|0=>noO|_+1=>q1 x (Aa fd.offset))|none=>noO)
   | none=>noO)
 | _=>noO
def aaC (P:Program) (t:TypeId) (off:Nat) (x:Operand):ClO:=
 match P.underlying t,P.info? t with
 | some d,some i=>(match l6 d with|true=>q1 x (Sh off i.size)|false=>q1 x (RD off))
 | _,_=>noO
def XR (P:Program) (t:TypeId) (x:Operand) (f:Nat):ClO:=
 match P.underlying t with
 | some (.struct fs)=>(match fs[f]? with|some fd=>aaC P fd.type fd.offset x|none=>noO)
 | _=>noO
def HP (P:Program) (t:TypeId) (x i:Operand):ClO:=
 match P.underlying t with
 | some (.slice e)=>(match P.info? e with|some ei=>q2 x i (Ap ei.size)|none=>noO)
 | some (.array m e)=>(match P.info? e with|some ei=>q2 x i (rN m ei.size)|none=>noO)
 | _=>noO
def YX (P:Program) (t:TypeId) (x i:Operand):ClO:=
 match P.underlying t with
 | some .string=>q2 x i Ld
 | _=>noO
def ab5 (P:Program) (t:TypeId) (x:Operand):ClO:=
 match P.underlying t with
 | some .string=>q1 x XH
 | some (.slice _)=>q1 x X8
 | some (.map _ _)=>q1t x YJ
 | _=>noO
def SW (P:Program) (t t2:TypeId) (x y:Operand):ClO:=
 match P.underlying t,P.underlying t2 with
 | some (.slice e),some d2=>(match P.info? e with
   | some i=>(match X5 i d2 with|true=>e2 x y (Lx i.size i.bytes)|false=>noO)
   | none=>noO)
 | _,_=>noO
def acf (P:Program) (t:TypeId):ClO:=
 match P.info? t with
 | some i=>(match i.zero with|some z=>(match okV z with|true=>⟨fun _ _ t n K=>Y7 (ofV z).cells t n K⟩|false=>noO)|none=>noO)
 | none=>noO
def WQ (P:Program) (t:TypeId) (x u:Operand):ClO:=
 match P.info? t with
 | some i=>s2 x u (P8 i.size)
 | none=>noO
def Wi (P:Program) (t:TypeId) (x:Operand):ClO:=
 match P.underlying t with
 | some (.interface _)=>noO
 | some _=>q1 x (Sd t)
 | none=>noO
def aaI (c:md) (v:AV) (vs:List AV) (t:HT) (n:Nat) (K:AV→HT→Nat→Bool):Bool:=
 match v with
 | .fn (.func f) fi ca=>c f (fi++vs++ca) t n K
 | _=>false
def XB (P:Program) (c:Call):ClO:=match c.callee with
 | .value f=>⟨fun call e t n K=>(sX c.args.toList).f e fun vs=>(eX f).f e fun v=>aaI call v vs t n K⟩
 | .builtin .len=>(match c.args.toList,c.argTypes.toList with|[x],[t]=>ab5 P t x|_,_=>noO)
 | .builtin .append=>(match c.args.toList,c.argTypes.toList with|[x,y],[t,t2]=>SW P t t2 x y|_,_=>noO)
 | .builtin .max=>(match c.args.toList with|[x,y]=>q2 x y abv|_=>noO)
 | .builtin .min=>(match c.args.toList with|[x,y]=>q2 x y aa7|_=>noO)
 | _=>noO
def WS (P:Program) (op:Op):ClO:=match op with
 | .move x=>⟨fun _ e t n K=>(eX x).f e fun v=>K v t n⟩
 | .assign x=>⟨fun _ e t n K=>(eX x).f e fun v=>K v t n⟩
 | .pick c a b=>⟨fun _ e t n K=>(eX c).f e fun cv=>(eX a).f e fun av=>(eX b).f e fun bv=>aaA cv av bv fun r=>K r t n⟩
 | .alloc e=>acf P e
 | .box _ x=>e1 x abt
 | .build t ps=>P2 P t (ps.toList.map (·.1)) (ps.toList.map (·.2))
 | .buildSlice t m ps=>xk P t m (ps.toList.map (·.1)) (ps.toList.map (·.2))
 | .load t x=>aaJ P t x
 | .store t x u=>WQ P t x u
 | .nilCheck x=>q1 x abl
 | .binOp op t x y _=>abW P op t x y
 | .unOp op _ x=>q1 x (tUn op)
 | .convert s d x=>aaL P s d x
 | .makeInterface t x=>Wi P t x
 | .makeFunc f fi ca=>⟨fun _ e t n K=>(sX fi.toList).f e fun vs=>(sX ca.toList).f e fun ws=>K (.fn f vs ws) t n⟩
 | .slice t x lo hi mx=>WL P t x lo hi mx
 | .fieldAddr t x f=>Gv P t x f
 | .field t x f=>XR P t x f
 | .indexAddr t x i=>HP P t x i
 | .index t x i=>YX P t x i
 | .extract x i=>q1 x (GK i)
 | .call c=>XB P c
 | _=>noO
def S6 (P:Program) (t:TypeId) (g:TypeDesc→Value→ClO):ClO:=
 match P.underlying t with
 | some (.map kt et)=>(match P.underlying kt,P.info? et with
   | some d,some i=>(match i.zero with|some z=>(match okV z with|true=>g d z|false=>noO)|none=>noO)
   | _,_=>noO)
 | _=>noO
def NF (P:Program) (t:TypeId) (g:TypeDesc→ClO):ClO:=
 match P.underlying t with
 | some (.map kt _)=>(match P.underlying kt with|some d=>g d|none=>noO)
 | _=>noO
def Sw (P:Program) (op:BinOp) (t:TypeId) (x y:Operand):ClO:=
 match P.underlying t,y with
 | some (.slice _),.const (.slice none 0 0)=>q1 x (Mm op)
 | some (.map _ _),.const (.map none)=>q1 x (KZ op)
 | some (.interface _),.const .nilIface=>q1 x (Mc op)
 | some (.func _ _ _),.const .nilFunc=>q1 x (KR op)
 | _,_=>noO
def XP (P:Program) (op:Op):ClO:=match op with
 | .makeMap _ none=>⟨fun _ _ t n K=>G9 t n K⟩
 | .lookup t x i ok=>S6 P t fun d z=>q2t x i (Mx d ok (ofV z))
 | .mapUpdate t m k v=>NF P t fun d=>s3 m k v (uC d)
 | .insert t m k v=>NF P t fun d=>s3 m k v (uC d)
 | .mapEntry t m k=>S6 P t fun d z=>e2 m k (C1 d (ofV z))
 | .entryStore t m s v=>s3 m s v wW
 | .range t x=>(match P.underlying t with
   | some .string=>e1 x L9
   | some (.map _ _)=>e1 x Li
   | _=>noO)
 | .next x b=>(match b with|true=>e1 x Rn|false=>e1 x RN)
 | .entry x=>q1t x QH
 | .makeSlice t l c=>(match P.underlying t with
   | some (.slice e)=>(match P.info? e with
     | some i=>(match i.zero with|some z=>(match i.size==1&&z.oneCell' with|true=>e2 l c (AH i.bytes (GL z))|false=>noO)|none=>noO)
     | none=>noO)
   | _=>noO)
 | .convert s d x=>(match P.underlying s,P.underlying d with
   | some (.slice e),some .string=>(match yi P e with|true=>q1t x CA|false=>noO)
   | some .string,some (.slice e)=>(match yi P e with|true=>e1 x CS|false=>noO)
   | _,_=>noO)
 | .binOp op t x y _=>(match P.underlying t with
   | some (.struct fs)=>(match xS P fs.toList 0 with
     | some ds=>(match !P.stoodInHeld t&&!P.eqGuardType P.depth t with|true=>q2 x y (abh op ds)|false=>noO)
     | none=>noO)
   | _=>Sw P op t x y)
 | .call c=>(match c.callee with
   | .builtin .delete=>(match c.args.toList,c.argTypes.toList with
     | [m,k],t::_=>NF P t fun d=>s2 m k (Lb d)
     | _,_=>noO)
   | _=>noO)
 | _=>noO
def YT (P:Program) (op:Op):ClO:=match DN P op with
 | true=>XP P op
 | false=>WS P op
def Vw:List UInt8→UInt8→Nat→Int
 | [],_,_=>.negSucc 0
 | b::l,c,i=>@Bool.casesOn (fun _=>Int) (uEq b c) (Vw l c (Nat.succ i)) (.ofNat i)
def Vp:List UInt8→UInt8→Nat→Nat
 | [],_,n=>n
 | b::l,c,n=>Vp l c (@Bool.casesOn (fun _=>Nat) (uEq b c) n (Nat.succ n))
def abx (e:Ext) (vs:List AV) (K:AV→Bool):Bool:=
 match e,vs with
 | .index,[.lit (.string s),.lit (.int .u8 c)]=>fI (Vw s.data.toList c.toNat.toUInt8 0) fun r=>K (I r)
 | .count,[.lit (.string s),.lit (.int .u8 c)]=>fN (Vp s.data.toList c.toNat.toUInt8 0) fun r=>K (I (.ofNat r))
 | .bits,[.lit (.float .f64 b)]=>K (.lit (.int .u64 (.ofNat b)))
 | .frombits,[.lit (.int .u64 n)]=>fN n.toNat fun m=>K (.lit (.float .f64 m))
 | _,_=>false
def Z3 (m n:Nat):Nat:=@Bool.casesOn (fun _=>Nat) (Nat.ble m n) n m
def XW (size:Nat) (v x:AV) (t:HT) (n:Nat) (K:AV→HT→Nat→Bool):Bool:=
 match HU t size x with
 | none=>false
 | some (m,xs)=>match v with
   | .sl i off len sz=>(match t.get i with
     | some (.cells cs)=>decide (sz=size∧off+len*size≤cs.length∧xs.all AV.one=true)&&fN (Z3 m len) fun l=>K (I (.ofNat l)) (t.set (.cells (splice cs off (xs.take (l*size)))) i) n
     | _=>false)
   | .full n0 _=>bA (Nat.beq (Z3 m n0) 0) (K (I 0) t n)
   | .snap n0 _=>bA (Nat.beq (Z3 m n0) 0) (K (I 0) t n)
   | _=>false
def Qa (size:Nat) (u v:AV) (t:HT) (n:Nat) (K:HT→Nat→Bool):Bool:=
 match v with
 | .sl i off len sz=>(match t.get i with
   | some (.cells cs)=>decide (u.isTup=false∧u.cells.length=size∧sz=size∧off+len*size≤cs.length∧u.cells.all AV.one=true)&&K (t.set (.cells (splice cs off (List.replicate len u.cells).flatten)) i) n
   | _=>false)
 | .full 0 _=>K t n
 | .snap 0 _=>K t n
 | _=>false
def Sj (P:Program) (ts:Array TypeId) (K:Value→TypeInfo→ClO):ClO:=
 match ts.toList with
 | t::_=>(match P.underlying t with
   | some (.slice e)=>(match P.info? e with
     | some i=>(match i.zero with|some z=>(match okV z with|true=>K z i|false=>noO)|none=>noO)
     | none=>noO)
   | _=>noO)
 | _=>noO
abbrev qV:=Nat→Option (List AV)
def XC (P:Program) (t:TypeId) (cs:List AV):ClO:=
 match P.underlying t,P.info? t with
 | some d,some i=>(match l6 d with|true=>⟨fun _ _ t n K=>Gq i.size (.cptr cs) t fun r=>K r t n⟩|false=>⟨fun _ _ t n K=>Ic (.cptr cs) t fun r=>K r t n⟩)
 | _,_=>noO
def Qz (P:Program) (tb:qV) (op:Op):ClO:=match op with
 | .call c=>(match c.callee with
   | .value (.func f)=>(match O8 P f with
     | some x=>⟨fun _ e t n K=>(sX c.args.toList).f e fun vs=>abx x vs fun r=>K r t n⟩
     | none=>noO)
   | .builtin .copy=>Sj P c.argTypes fun _ i=>(match c.args.toList with|[x,y]=>e2 x y (XW i.size)|_=>noO)
   | .builtin .clear=>Sj P c.argTypes fun z i=>(match c.args.toList with|[x]=>⟨fun _ e t n K=>(eX x).f e fun v=>Qa i.size (ofV z) v t n fun t n=>K (.tup []) t n⟩|_=>noO)
   | _=>noO)
 | .indexAddr t (.global g) i=>(match tb g with
   | some cs=>(match P.underlying t with
     | some (.array m e)=>(match P.info? e with|some ei=>q1 i fun iv=>rN m ei.size (.cptr cs) iv|none=>noO)
     | _=>noO)
   | none=>noO)
 | .load t (.global g)=>(match tb g with
   | some cs=>XC P t cs
   | none=>noO)
 | _=>noO
def Ef (P:Program) (tb:qV) (op:Op):ClO:=match isX P op with
 | true=>Qz P tb op
 | false=>YT P op
def ER (e:ET) (env:Env):Prop:=∀ k v,(tp k).g e=some v→AL.get env k=some v
theorem ER.put {e:ET}{env:Env}(r:ER e env) (d:Nat) (v:AV):ER ((tp d).s e v) ((d,v)::env):=fun k u h=>by
 simp only[AL.get]
 rcases V3 h with ⟨rfl,rfl⟩|⟨hn,h⟩
 ·rw[if_pos rfl]
 ·rw[if_neg (Ne.symm hn)];exact r k u h
theorem bw {e:ET}{env:Env}(r:ER e env) {x:Operand}{K:AV→Bool}(k:(eX x).f e K=true):∃ v,opv env x=some v∧K v=true:=by
 cases x with
 | tmp s=>
   simp only[eX,oM]at k
   split at k
   ·rename_i v hv;exact⟨v,by rw[opv];exact r s v hv,k⟩
   ·cases k
 | const v=>
   simp only[eX]at k
   cases h:okV v
   ·rw[h]at k;cases k
   ·rw[h]at k;exact⟨_,by simp[opv,h],k⟩
 | global g=>cases k
 | func f=>exact⟨_,rfl,k⟩
theorem lO {e:ET}{env:Env}(r:ER e env):∀ {xs:List Operand}{K:List AV→Bool},(sX xs).f e K=true→∃ vs,kS env xs=some vs∧K vs=true
 | [],K,k=>⟨[],rfl,k⟩
 | x::xs,K,k=>by
   simp only[sX]at k
   obtain⟨v,h1,k⟩:=bw r k
   obtain⟨vs,h2,k⟩:=lO r k
   exact⟨_,by simp[kS,h1,h2],k⟩
theorem qj {e:ET}{env:Env}(r:ER e env) {x:Option Operand}{K:Option AV→Bool}(k:(xP x).f e K=true):∃ v,EF env x=some v∧K v=true:=by
 cases x with
 | none=>exact⟨none,rfl,k⟩
 | some x=>
   simp only[xP]at k
   obtain⟨v,h1,k⟩:=bw r k
   exact⟨some v,by simp[EF,h1],k⟩
end
end
section
noncomputable section
variable [Tabs]
section
variable {P:Program}{e:ET}{env:Env}{t:HT}{n:Nat}{h:ae}{K:AV→HT→Nat→Bool}{call:md}
def kz (P:Program) (call:md):Prop:=∀ (f:FuncId) (args:List AV) (t:HT) (n:Nat) (h:ae) (K:AV→HT→Nat→Bool),HR t n h→call f args t n K=true→ACall P f args h (KH K)
theorem kh {r:AV}(hr:HR t n h) (k:K r t n=true):KH K r h:=⟨t,n,hr,k⟩
theorem oE (er:ER e env) (hr:HR t n h) {x:Operand}{g:AV→(AV→Bool)→Bool}{p:AV→(AV→Prop)→Prop}(hg:∀ v K,g v K=true→p v fun r=>K r=true) (hm:∀ v K K',(∀ r,K r→K' r)→p v K→p v K')
  (k:(q1 x g).f call e t n K=true):bV (opv env x) fun v=>p v fun r=>KH K r h:=by
 obtain⟨v,h1,k⟩:=bw er k
 rw[h1]
 exact hm _ _ _ (fun r k=>kh hr k) (hg _ _ k)
theorem Hw (er:ER e env) (hr:HR t n h) {x:Operand}{g:AV→HT→(AV→Bool)→Bool}{p:AV→ae→(AV→Prop)→Prop}(hg:∀ v K,g v t K=true→p v h fun r=>K r=true) (hm:∀ v K K',(∀ r,K r→K' r)→p v h K→p v h K')
  (k:(q1t x g).f call e t n K=true):bV (opv env x) fun v=>p v h fun r=>KH K r h:=by
 obtain⟨v,h1,k⟩:=bw er k
 rw[h1]
 exact hm _ _ _ (fun r k=>kh hr k) (hg _ _ k)
theorem xL (er:ER e env) (hr:HR t n h) {x y:Operand}{g:AV→AV→(AV→Bool)→Bool}{p:AV→AV→(AV→Prop)→Prop}(hg:∀ v u K,g v u K=true→p v u fun r=>K r=true) (hm:∀ v u K K',(∀ r,K r→K' r)→p v u K→p v u K')
  (k:(q2 x y g).f call e t n K=true):ez (opv env x) (opv env y) fun v u=>p v u fun r=>KH K r h:=by
 obtain⟨v,h1,k⟩:=bw er k
 obtain⟨u,h2,k⟩:=bw er k
 rw[h1,h2]
 exact hm _ _ _ _ (fun r k=>kh hr k) (hg _ _ _ k)
theorem aa4 (er:ER e env) (hr:HR t n h) {x y:Operand}{g:AV→AV→HT→(AV→Bool)→Bool}{p:AV→AV→ae→(AV→Prop)→Prop}(hg:∀ v u K,g v u t K=true→p v u h fun r=>K r=true) (hm:∀ v u K K',(∀ r,K r→K' r)→p v u h K→p v u h K')
  (k:(q2t x y g).f call e t n K=true):ez (opv env x) (opv env y) fun v u=>p v u h fun r=>KH K r h:=by
 obtain⟨v,h1,k⟩:=bw er k
 obtain⟨u,h2,k⟩:=bw er k
 rw[h1,h2]
 exact hm _ _ _ _ (fun r k=>kh hr k) (hg _ _ _ k)
theorem Ks (er:ER e env) (hr:HR t n h) {x:Operand}{g:AV→HT→Nat→(AV→HT→Nat→Bool)→Bool}{p:AV→ae→(QT)→Prop}(hg:∀ v K,g v t n K=true→p v h (KH K))
  (k:(e1 x g).f call e t n K=true):bV (opv env x) fun v=>p v h (KH K):=by
 obtain⟨v,h1,k⟩:=bw er k
 rw[h1]
 exact hg _ _ k
theorem YU (er:ER e env) (hr:HR t n h) {x y:Operand}{g:AV→AV→HT→Nat→(AV→HT→Nat→Bool)→Bool}{p:AV→AV→ae→(QT)→Prop}(hg:∀ v u K,g v u t n K=true→p v u h (KH K))
  (k:(e2 x y g).f call e t n K=true):ez (opv env x) (opv env y) fun v u=>p v u h (KH K):=by
 obtain⟨v,h1,k⟩:=bw er k
 obtain⟨u,h2,k⟩:=bw er k
 rw[h1,h2]
 exact hg _ _ _ k
theorem aaO (er:ER e env) (hr:HR t n h) {x y:Operand}{g:AV→AV→HT→Nat→(HT→Nat→Bool)→Bool}{p:AV→AV→ae→(ae→Prop)→Prop}(hg:∀ v u K,g v u t n K=true→p v u h (KS K))
  (k:(s2 x y g).f call e t n K=true):ez (opv env x) (opv env y) fun v u=>p v u h fun h'=>KH K (.tup []) h':=by
 obtain⟨v,h1,k⟩:=bw er k
 obtain⟨u,h2,k⟩:=bw er k
 rw[h1,h2]
 exact hg _ _ _ k
theorem WE (er:ER e env) (hr:HR t n h) {x y z:Operand}{g:AV→AV→AV→HT→Nat→(HT→Nat→Bool)→Bool}{p:AV→AV→AV→ae→(ae→Prop)→Prop}(hg:∀ v u w K,g v u w t n K=true→p v u w h (KS K))
  (k:(s3 x y z g).f call e t n K=true):ez (opv env x) (opv env y) fun v u=>bV (opv env z) fun w=>p v u w h fun h'=>KH K (.tup []) h':=by
 obtain⟨v,h1,k⟩:=bw er k
 obtain⟨u,h2,k⟩:=bw er k
 obtain⟨w,h3,k⟩:=bw er k
 rw[h1,h2,h3]
 exact hg _ _ _ _ k
omit [Tabs] in
theorem bi {X:Prop}(k:noO.f call e t n K=true):X:=by cases k
theorem cU {o:Option AV}{K K':AV→Prop}(hk:∀ v,K v→K' v) (k:bV o K):bV o K':=by
 unfold bV at *;split at k
 ·exact hk _ k
 ·exact k.elim
theorem Vx (er:ER e env) (hr:HR t n h) {ty:TypeId}{is:List Nat}{xs:List Operand}(k:(P2 P ty is xs).f call e t n K=true):dX (kS env xs) fun vs=>xy P ty is vs fun r=>KH K r h:=by
 unfold P2 at k
 split at k
 ·split at k
  ·split at k
   ·obtain⟨vs,h1,k⟩:=lO er k
    rw[h1]
    show xy P ty is vs _
    unfold xy
    simp only[*,if_true]
    split at k
    ·simp only[*]
     exact w4 (fun r k=>kh hr k) _ _ ⟨Vd _ _ k⟩
    ·cases k
   ·exact bi k
  ·exact bi k
 ·exact bi k
theorem HB (er:ER e env) (hr:HR t n h) {ty:TypeId}{m:Nat}{is:List Nat}{xs:List Operand}(k:(xk P ty m is xs).f call e t n K=true):dX (kS env xs) fun vs=>g6 P ty m is vs fun r=>KH K r h:=by
 unfold xk at k
 split at k
 ·split at k
  ·split at k
   ·split at k
    ·rename_i hc
     obtain⟨vs,h1,k⟩:=lO er k
     rw[h1]
     show g6 P ty m is vs _
     unfold g6
     simp only[*,if_true]
     exact nR (fun r k=>kh hr k) _ _ _ ⟨Gm _ _ _ k⟩
    ·exact bi k
   ·exact bi k
  ·exact bi k
 ·exact bi k
theorem Yu (hcall:kz P call) (er:ER e env) (hr:HR t n h) {c:Call}(k:(XB P c).f call e t n K=true):dX (kS env c.args.toList) fun vs=>(match c.callee with
  | .value f=>bV (opv env f) fun v=>uU P v vs h (KH K)
  | .builtin .len=>(match vs,c.argTypes.toList with|[v],[t]=>Di P t v h fun r=>KH K r h|_,_=>False)
  | .builtin .append=>(match vs,c.argTypes.toList with|[v,u],[t,t2]=>BM P t t2 v u h (KH K)|_,_=>False)
  | .builtin .max=>(match vs with|[v,u]=>Co v u fun r=>KH K r h|_=>False)
  | .builtin .min=>(match vs with|[v,u]=>F0 v u fun r=>KH K r h|_=>False)
  | _=>False):=by
 have two:∀ {x y:Operand} {F:AV→AV→Prop},(ez (opv env x) (opv env y) F)→∃ v u,kS env [x,y]=some [v,u]∧F v u:=fun {x y F} k=>by
  obtain⟨v,h1,k⟩:=aG k
  obtain⟨u,h2,k⟩:=aG k
  exact⟨v,u,by simp[kS,h1,h2],k⟩
 have one:∀ {x:Operand} {F:AV→Prop},(bV (opv env x) F)→∃ v,kS env [x]=some [v]∧F v:=fun {x F} k=>by
  obtain⟨v,h1,k⟩:=aG k
  exact⟨v,by simp[kS,h1],k⟩
 unfold XB at k
 split at k
 ·rename_i f hc
  obtain⟨vs,h1,k⟩:=lO er k
  obtain⟨v,h2,k⟩:=bw er k
  rw[h1]
  simp only[dX,hc,h2,bV]
  unfold aaI at k
  unfold uU
  split at k
  ·exact hcall _ _ _ _ _ _ hr k
  ·cases k
 ·rename_i hc
  split at k
  ·rename_i x ty ha ht
   unfold ab5 at k
   split at k
   ·obtain⟨v,h1,k⟩:=one (oE er hr (p:=fun v K=>bH v K) (fun _ _ k=>⟨VS k⟩) (fun _ _ _ hk k=>Af hk _ k) k)
    rw[ha,h1]
    simp only[dX,hc,Di, *]
   ·obtain⟨v,h1,k⟩:=one (oE er hr (p:=fun v K=>aY v K) (fun _ _ k=>⟨XQ _ k⟩) (fun _ _ _ hk k=>zZ hk _ k) k)
    rw[ha,h1]
    simp only[dX,hc,Di, *]
   ·obtain⟨v,h1,k⟩:=one (Hw er hr (p:=fun v h K=>JK v h K) (fun _ _ k=>⟨W6 hr k⟩) (fun _ _ _ hk k=>zU hk _ _ k) k)
    rw[ha,h1]
    simp only[dX,hc,Di, *]
   ·exact bi k
  ·exact bi k
 ·rename_i hc
  split at k
  ·rename_i x y ty ty2 ha ht
   unfold SW at k
   split at k
   ·split at k
    ·split at k
     ·rename_i hok
      obtain⟨v,u,h1,k⟩:=two (YU er hr (p:=fun v u h K=>bc _ _ v u h K) (fun _ _ _ k=>⟨Qo hr k⟩) k)
      rw[ha,h1]
      simp only[dX,hc,BM, *,if_true]
     ·exact bi k
    ·exact bi k
   ·exact bi k
  ·exact bi k
 ·rename_i hc
  split at k
  ·rename_i x y ha
   obtain⟨v,u,h1,k⟩:=two (xL er hr (p:=fun v u K=>Co v u K) (fun _ _ _ k=>⟨ZA _ _ k⟩) (fun _ _ _ _ hk k=>C0 hk _ _ k) k)
   rw[ha,h1]
   simp only[dX,hc, *]
  ·exact bi k
 ·rename_i hc
  split at k
  ·rename_i x y ha
   obtain⟨v,u,h1,k⟩:=two (xL er hr (p:=fun v u K=>F0 v u K) (fun _ _ _ k=>⟨aap _ _ k⟩) (fun _ _ _ _ hk k=>DE hk _ _ k) k)
   rw[ha,h1]
   simp only[dX,hc, *]
  ·exact bi k
 ·exact bi k
theorem WR (hcall:kz P call) (er:ER e env) (hr:HR t n h) {o:Oper}(k:(WS P o.op).f call e t n K=true):xe P env h o (KH K):=by
 obtain⟨dst,op,ty,pos,after,guard⟩:=o
 cases op<;>simp only[WS]at k<;>simp only[xe]
 case move x=>obtain⟨v,h1,k⟩:=bw er k;rw[h1];exact kh hr k
 case assign x=>obtain⟨v,h1,k⟩:=bw er k;rw[h1];exact kh hr k
 case pick c a b=>
  obtain⟨v,h1,k⟩:=bw er k
  obtain⟨u,h2,k⟩:=bw er k
  obtain⟨w,h3,k⟩:=bw er k
  rw[h1,h2,h3]
  show ifB v (KH K u h) (KH K w h)
  unfold aaA at k
  unfold ifB
  split at k
  ·exact kh hr k
  ·exact kh hr k
  ·cases k
 case alloc el=>
  unfold acf at k
  unfold ZF
  split at k
  ·split at k
   ·split at k
    ·simp only[*,if_true];exact⟨Sr hr k⟩
    ·exact bi k
   ·exact bi k
  ·exact bi k
 case box el x=>exact Ks er hr (p:=fun v h K=>gk v h K) (fun _ _ k=>⟨ZZ hr k⟩) k
 case build=>exact Vx er hr k
 case buildSlice=>exact HB er hr k
 case load ty x=>
  unfold aaJ at k
  split at k
  ·split at k
   ·refine cU (fun v k=>?_) (Hw er hr (p:=fun v h K=>aw _ v h K) (fun _ _ k=>⟨C2 hr k⟩) (fun _ _ _ hk k=>gZ hk _ _ _ k) k)
    unfold kL;simp only[*,if_true]
   ·refine cU (fun v k=>?_) (Hw er hr (p:=fun v h K=>ag v h K) (fun _ _ k=>⟨DD hr k⟩) (fun _ _ _ hk k=>g7 hk _ _ k) k)
    unfold kL;simp only[*,Bool.false_eq_true,if_false]
  ·exact bi k
 case store ty x u=>
  unfold WQ at k
  split at k
  ·refine cU (fun v k=>cU (fun y k=>?_) k) (aaO er hr (p:=fun v u h K=>ak _ v u h K) (fun _ _ _ k=>⟨VI hr k⟩) k)
   unfold Md;simp only[*]
  ·exact bi k
 case nilCheck x=>exact oE er hr (p:=fun v K=>aE v K) (fun _ _ k=>⟨Z0 _ k⟩) (fun _ _ _ hk k=>CT hk _ k) k
 case binOp op ty x y yt=>
  unfold abW at k
  unfold OO
  split at k
  ·simp only[*];exact xL er hr (p:=fun v u K=>Kz op v u K) (fun _ _ _ k=>⟨WD _ _ _ k⟩) (fun _ _ _ _ hk k=>Aq hk _ _ _ k) k
  ·simp only[*];exact xL er hr (p:=fun v u K=>DH op v u K) (fun _ _ _ k=>⟨XT _ _ _ k⟩) (fun _ _ _ _ hk k=>Ae hk _ _ _ k) k
  ·simp only[*];exact xL er hr (p:=fun v u K=>ai op v u K) (fun _ _ _ k=>⟨La k⟩) (fun _ _ _ _ hk k=>tL hk _ _ _ k) k
  ·simp only[*];exact xL er hr (p:=fun v u K=>ai op v u K) (fun _ _ _ k=>⟨La k⟩) (fun _ _ _ _ hk k=>tL hk _ _ _ k) k
  ·simp only[*];exact xL er hr (p:=fun v u K=>ai op v u K) (fun _ _ _ k=>⟨La k⟩) (fun _ _ _ _ hk k=>tL hk _ _ _ k) k
  ·exact bi k
 case unOp op ty x=>exact oE er hr (p:=fun v K=>qUn op v K) (fun _ _ k=>⟨abg k⟩) (fun _ _ _ hk k=>FR hk _ _ k) k
 case convert s d x=>
  unfold aaL at k
  unfold DV
  split at k
  ·simp only[*];exact oE er hr (p:=fun v K=>ci _ v K) (fun _ _ k=>⟨Qy k⟩) (fun _ _ _ hk k=>uE hk _ _ k) k
  ·simp only[*];exact oE er hr (p:=fun v K=>rD _ v K) (fun _ _ k=>⟨Ro k⟩) (fun _ _ _ hk k=>vc hk _ _ k) k
  ·simp only[*];exact oE er hr (p:=fun v K=>yr v K) (fun _ _ k=>⟨Qp _ k⟩) (fun _ _ _ hk k=>vu hk _ k) k
  ·exact bi k
 case makeInterface ty x=>
  unfold Wi at k
  split at k
  ·exact bi k
  ·rename_i hn ht
   refine cU (fun v k=>?_) (oE er hr (p:=fun v K=>wB ty v K) (fun _ _ k=>⟨TX _ _ k⟩) (fun _ _ _ hk k=>xm hk _ _ k) k)
   unfold CU
   split
   ·rename_i he;rw[ht]at he;cases he;exact (hn _ rfl).elim
   ·exact k
   ·rename_i he;rw[ht]at he;cases he
  ·exact bi k
 case makeFunc f fi ca=>
  obtain⟨vs,h1,k⟩:=lO er k
  obtain⟨ws,h2,k⟩:=lO er k
  rw[h1,h2];exact kh hr k
 case slice ty x lo hi mx=>
  unfold WL at k
  split at k
  ·obtain⟨v,h1,k⟩:=bw er k
   obtain⟨l,h2,k⟩:=qj er k
   obtain⟨u,h3,k⟩:=qj er k
   rw[h1,h2,h3]
   show nq P ty v l u none _
   unfold nq;simp only[*]
   exact uW (fun r k=>kh hr k) _ _ _ ⟨Qx k⟩
  ·split at k
   ·obtain⟨v,h1,k⟩:=bw er k
    obtain⟨l,h2,k⟩:=qj er k
    obtain⟨u,h3,k⟩:=qj er k
    rw[h1,h2,h3]
    show nq P ty v l u none _
    unfold nq;simp only[*]
    exact uY (fun r k=>kh hr k) _ _ _ _ ⟨RJ _ _ _ _ k⟩
   ·exact bi k
  ·obtain⟨v,h1,k⟩:=bw er k
   obtain⟨l,h2,k⟩:=qj er k
   obtain⟨u,h3,k⟩:=qj er k
   obtain⟨m,h4,k⟩:=bw er k
   rw[h1,h2,h3]
   simp only[EF,h4]
   show nq P ty v l u (some m) _
   split at k
   ·unfold nq;simp only[*]
    exact ve (fun r k=>kh hr k) _ ⟨Qt _ k⟩
   ·cases k
  ·exact bi k
 case fieldAddr ty x f=>
  unfold Gv at k
  split at k
  ·split at k
   ·split at k
    ·split at k
     ·exact bi k
     ·rename_i hz
      refine cU (fun v k=>?_) (oE er hr (p:=fun v K=>ab _ v K) (fun _ _ k=>⟨IQ k⟩) (fun _ _ _ hk k=>pc hk _ _ k) k)
      unfold nP
      simp only[*]
      rw[if_neg (by simp)]
      trivial
    ·exact bi k
   ·exact bi k
  ·exact bi k
 case field ty x f=>
  unfold XR aaC at k
  split at k
  ·split at k
   ·split at k
    ·split at k
     ·refine cU (fun v k=>?_) (oE er hr (p:=fun v K=>Dt _ _ v K) (fun _ _ k=>⟨U6 _ _ _ k⟩) (fun _ _ _ hk k=>wO hk _ _ _ k) k)
      unfold xX D7;simp only[*,if_true]
     ·refine cU (fun v k=>?_) (oE er hr (p:=fun v K=>Dv _ v K) (fun _ _ k=>⟨Vg _ _ k⟩) (fun _ _ _ hk k=>wN hk _ _ k) k)
      unfold xX D7;simp only[*,Bool.false_eq_true,if_false]
    ·exact bi k
   ·exact bi k
  ·exact bi k
 case indexAddr ty x i=>
  unfold HP at k
  unfold ew
  split at k
  ·split at k
   ·simp only[*];exact xL er hr (p:=fun v u K=>am _ v u K) (fun _ _ _ k=>⟨Ih k⟩) (fun _ _ _ _ hk k=>iz hk _ _ _ k) k
   ·exact bi k
  ·split at k
   ·simp only[*];exact xL er hr (p:=fun v u K=>cd _ _ v u K) (fun _ _ _ k=>⟨yd _ _ _ _ k⟩) (fun _ _ _ _ hk k=>eS hk _ _ _ _ k) k
   ·exact bi k
  ·exact bi k
 case index ty x i=>
  unfold YX at k
  unfold C6
  split at k
  ·simp only[*];exact xL er hr (p:=fun v u K=>bj v u K) (fun _ _ _ k=>⟨P3 k⟩) (fun _ _ _ _ hk k=>vd hk _ _ k) k
  ·exact bi k
 case extract x i=>exact oE er hr (p:=fun v K=>an i v K) (fun _ _ k=>⟨Pf _ _ k⟩) (fun _ _ _ hk k=>sZ hk _ _ k) k
 case call c=>exact Yu hcall er hr k
 all_goals exact bi k
theorem MS {ty:TypeId}{g:TypeDesc→Value→ClO}{F:TypeDesc→Value→Prop}(hg:∀ d z,(g d z).f call e t n K=true→F d z) (k:(S6 P ty g).f call e t n K=true):Dy P ty F:=by
 unfold S6 at k
 unfold Dy
 split at k
 ·split at k
  ·split at k
   ·split at k
    ·have k:=hg _ _ k;simp only[*,if_true]
    ·exact bi k
   ·exact bi k
  ·exact bi k
 ·exact bi k
theorem H5 {ty:TypeId}{g:TypeDesc→ClO}{F:TypeDesc→Prop}(hg:∀ d,(g d).f call e t n K=true→F d) (k:(NF P ty g).f call e t n K=true):Be P ty F:=by
 unfold NF at k
 unfold Be
 split at k
 ·split at k
  ·have k:=hg _ k;simp only[*]
  ·exact bi k
 ·exact bi k
theorem Yt (er:ER e env) (hr:HR t n h) {o:Oper}(k:(XP P o.op).f call e t n K=true):xY P env h o (KH K):=by
 obtain⟨dst,op,ty,pos,after,guard⟩:=o
 have wmapT:∀ {ty:TypeId} {F:TypeDesc→Value→AV→AV→Prop} {x y:Operand},Dy P ty (fun d z=>ez (opv env x) (opv env y) (F d z))→ez (opv env x) (opv env y) fun a b=>Dy P ty fun d z=>F d z a b:=fun {ty F x y} k=>by
  obtain⟨kt,et,d,i,z,h1,h2,h3,h4,h5,k⟩:=Fj k
  refine cU (fun v k=>cU (fun y k=>?_) k) k
  unfold Dy
  simp only[h1,h2,h3,h4,h5,if_true]
  exact k
 have wkeyT3:∀ {ty:TypeId} {F:TypeDesc→AV→AV→AV→Prop} {x y z:Operand},Be P ty (fun d=>ez (opv env x) (opv env y) fun a b=>bV (opv env z) fun c=>F d a b c)→ez (opv env x) (opv env y) fun a b=>bV (opv env z) fun c=>Be P ty fun d=>F d a b c:=fun {ty F x y z} k=>by
  obtain⟨kt,et,d,h1,h2,k⟩:=A5 k
  refine cU (fun v k=>cU (fun y k=>cU (fun w k=>?_) k) k) k
  unfold Be
  simp only[h1,h2]
  exact k
 cases op<;>simp only[XP]at k<;>simp only[xY]
 case makeMap ty re=>
  cases re with
  | none=>exact⟨Pj hr k⟩
  | some x=>exact bi k
 case lookup ty x i ok=>
  refine wmapT (MS (fun d z k=>?_) k)
  exact aa4 er hr (p:=fun v u h K=>fW d ok (ofV z) v u h K) (fun _ _ _ k=>⟨QJ hr k⟩) (fun _ _ _ _ hk k=>vx hk _ _ _ _ _ _ k) k
 case mapUpdate ty m kk v=>
  refine wkeyT3 (H5 (fun d k=>?_) k)
  exact WE er hr (p:=fun v u w h K=>c5 d v u w h K) (fun _ _ _ _ k=>⟨zG hr k⟩) k
 case insert ty m kk v=>
  refine wkeyT3 (H5 (fun d k=>?_) k)
  exact WE er hr (p:=fun v u w h K=>c5 d v u w h K) (fun _ _ _ _ k=>⟨zG hr k⟩) k
 case mapEntry ty m kk=>
  refine wmapT (MS (fun d z k=>?_) k)
  exact YU er hr (p:=fun v u h K=>qk d (ofV z) v u h K) (fun _ _ _ k=>⟨Lc hr k⟩) k
 case entryStore ty m s v=>exact WE er hr (p:=fun v u w h K=>lK v u w h K) (fun _ _ _ _ k=>⟨Hu hr k⟩) k
 case range ty x=>
  split at k
  ·simp only[*];exact Ks er hr (p:=fun v h K=>uK v h K) (fun _ _ k=>⟨R4 hr k⟩) k
  ·simp only[*];exact Ks er hr (p:=fun v h K=>vi v h K) (fun _ _ k=>⟨Sg hr k⟩) k
  ·exact bi k
 case next x b=>
  cases b
  ·exact Ks er hr (p:=fun v h K=>zT v h K) (fun _ _ k=>⟨Vl hr k⟩) k
  ·exact Ks er hr (p:=fun v h K=>AN v h K) (fun _ _ k=>⟨T5 hr k⟩) k
 case entry x=>exact Hw er hr (p:=fun v h K=>zY v h K) (fun _ _ k=>⟨Uc hr k⟩) (fun _ _ _ hk k=>xH hk _ _ k) k
 case makeSlice ty l c=>
  split at k
  ·split at k
   ·split at k
    ·split at k
     ·refine cU (fun v k=>cU (fun y k=>?_) k) (YU er hr (p:=fun v u h K=>lq _ _ v u h K) (fun _ _ _ k=>⟨IP hr k⟩) k)
      simp only[*,if_true]
     ·exact bi k
    ·exact bi k
   ·exact bi k
  ·exact bi k
 case convert s d x=>
  split at k
  ·split at k
   ·simp only[*,if_true];exact Hw er hr (p:=fun v h K=>qi v h K) (fun _ _ k=>⟨LN hr k⟩) (fun _ _ _ hk k=>qP hk _ _ k) k
   ·exact bi k
  ·split at k
   ·simp only[*,if_true];exact Ks er hr (p:=fun v h K=>qe v h K) (fun _ _ k=>⟨LD hr k⟩) k
   ·exact bi k
  ·exact bi k
 case binOp op ty x y yt=>
  split at k
  ·split at k
   ·split at k
    ·simp only[*,if_true]
     exact xL er hr (p:=fun v u K=>Y3 op _ v u K) (fun _ _ _ k=>⟨aag _ _ _ _ k⟩) (fun _ _ _ _ hk k=>CW hk _ _ _ _ k) k
    ·exact bi k
   ·exact bi k
  ·rename_i hns
   have:bV (opv env x) fun a=>yp P op ty a y fun r=>KH K r h:=by
    unfold Sw at k
    unfold yp
    split at k
    ·simp only[*];exact oE er hr (p:=fun v K=>jP op v K) (fun _ _ k=>⟨Q4 _ _ k⟩) (fun _ _ _ hk k=>A2 hk _ _ k) k
    ·simp only[*];exact oE er hr (p:=fun v K=>Fa op v K) (fun _ _ k=>⟨Q7 _ _ k⟩) (fun _ _ _ hk k=>uA hk _ _ k) k
    ·simp only[*];exact oE er hr (p:=fun v K=>Fm op v K) (fun _ _ k=>⟨RH _ _ k⟩) (fun _ _ _ hk k=>uP hk _ _ k) k
    ·simp only[*];exact oE er hr (p:=fun v K=>Fh op v K) (fun _ _ k=>⟨QA _ _ k⟩) (fun _ _ _ hk k=>uV hk _ _ k) k
    ·exact bi k
   split
   ·rename_i he;exact (hns _ he).elim
   ·exact this
 case call c=>
  split at k
  ·rename_i hc
   simp only[hc]
   split at k
   ·rename_i m kk ty rest ha ht
    obtain⟨kt,et,d,h1,h2,k⟩:=A5 (H5 (F:=fun d=>ez (opv env m) (opv env kk) fun a b=>B3 d a b h fun h'=>KH K (.tup []) h') (fun d k=>aaO er hr (p:=fun v u h K=>B3 d v u h K) (fun _ _ _ k=>⟨Rv hr k⟩) k) k)
    obtain⟨a,h3,k⟩:=aG k
    obtain⟨b,h4,k⟩:=aG k
    rw[ha,ht]
    simp only[kS,h3,h4,dX]
    unfold Be
    simp only[h1,h2]
    exact k
   ·exact bi k
  ·exact bi k
 all_goals exact bi k
theorem Wv (hcall:kz P call) (er:ER e env) (hr:HR t n h) {o:Oper}(k:(YT P o.op).f call e t n K=true):wY P env h o (KH K):=by
 unfold YT at k
 unfold wY
 split at k
 ·rename_i hn;rw[if_pos hn];exact Yt er hr k
 ·rename_i hn;rw[hn,if_neg (by simp)];exact WR hcall er hr k
omit [Tabs] in
theorem S0 (c:UInt8):∀ (l:List UInt8) (i:Nat),Vw l c i=if Lib.indexByte l c=-1 then -1 else Lib.indexByte l c+i
 | [],i=>rfl
 | b::l,i=>by
   have ih:=S0 c l (i+1)
   have hge:=Lib.indexByte_ge l c
   have e1:Vw (b::l) c i=if (b==c)=true then (i:Int) else Vw l c (i+1):=by
    show @Bool.casesOn (fun _=>Int) (uEq b c) (Vw l c (i+1)) (.ofNat i)=_
    rw[Dr]
    cases hb:(b==c)<;>rfl
   rw[e1,ih]
   simp only[Lib.indexByte]
   by_cases hb:(b==c)=true
   ·simp[hb]
   ·simp only[hb,if_false]
    by_cases h1:Lib.indexByte l c=-1
    ·simp[h1]
    ·rw[if_neg h1,if_neg (show ¬ (Lib.indexByte l c==-1)=true by simpa using h1)]
     simp only[Bool.false_eq_true,if_false]
     rw[if_neg (by omega)];omega
omit [Tabs] in
theorem SX (c:UInt8):∀ (l:List UInt8) (n:Nat),Vp l c n=n+Lib.countByte l c
 | [],n=>rfl
 | b::l,n=>by
   have e1:Vp (b::l) c n=Vp l c (if (b==c)=true then n+1 else n):=by
    show Vp l c (@Bool.casesOn (fun _=>Nat) (uEq b c) n (n+1))=_
    rw[Dr]
    cases hb:(b==c)<;>rfl
   rw[e1,SX c l]
   simp only[Lib.countByte,List.count_cons]
   cases hb:(b==c)<;>simp<;>omega
omit [Tabs] in
theorem Za {x:Ext}{vs:List AV}{K:AV→Bool}(k:abx x vs K=true):Aj x vs fun r=>K r=true:=by
 unfold abx at k
 split at k
 ·rw[M0,S0]at k
  show K (I (Lib.indexByte _ _))=true
  split at k
  ·rename_i h1;rw[h1];exact k
  ·simpa using k
 ·rw[jD,SX]at k
  show K (I (Lib.countByte _ _))=true
  simpa using k
 ·exact k
 ·rw[jD]at k;exact k
 ·cases k
omit [Tabs] in
theorem MK (m n:Nat):Z3 m n=Nat.min m n:=by
 show @Bool.casesOn (fun _=>Nat) (Nat.ble m n) n m=min m n
 cases h:Nat.ble m n
 ·have:¬ m≤n:=fun e=>by rw[Nat.ble_eq_true_of_le e]at h;cases h
  exact (Nat.min_eq_right (Nat.le_of_not_le this)).symm
 ·exact (Nat.min_eq_left (Nat.le_of_ble_eq_true h)).symm
theorem XL (r:HR t n h) {size:Nat}{v x:AV}{K:AV→HT→Nat→Bool}(k:XW size v x t n K=true):DJ size v x h (KH K):=by
 unfold XW at k
 unfold DJ
 split at k
 ·cases k
 ·rename_i m xs hx
  simp only[CY r hx]
  split at k
  ·split at k
   ·rename_i cs hc
    simp only[r.at_ _ _ hc]
    simp only[Bool.and_eq_true,decide_eq_true_eq,jD,MK]at k
    exact⟨k.1,_,_,r.set hc,k.2⟩
   ·cases k
  ·rw[cG,MK]at k
   exact⟨Nat.eq_of_beq_eq_true k.1,_,_,r,k.2⟩
  ·rw[cG,MK]at k
   exact⟨Nat.eq_of_beq_eq_true k.1,_,_,r,k.2⟩
  ·cases k
theorem UP (r:HR t n h) {size:Nat}{u v:AV}{K:HT→Nat→Bool}(k:Qa size u v t n K=true):wG size u v h (KS K):=by
 unfold Qa at k
 unfold wG
 split at k
 ·split at k
  ·rename_i cs hc
   simp only[r.at_ _ _ hc]
   simp only[Bool.and_eq_true,decide_eq_true_eq]at k
   exact⟨k.1,_,_,r.set hc,k.2⟩
  ·cases k
 ·exact⟨_,_,r,k⟩
 ·exact⟨_,_,r,k⟩
 ·cases k
theorem B9 {ts:Array TypeId}{F:Value→TypeInfo→ClO}{K:AV→HT→Nat→Bool}{T:Value→TypeInfo→Prop}(hk:∀ z i,(F z i).f call e t n K=true→T z i) (k:(Sj P ts F).f call e t n K=true):Hn P ts T:=by
 unfold Sj at k
 unfold Hn
 split at k
 ·split at k
  ·split at k
   ·split at k
    ·split at k
     ·simp only[*,if_true]
     ·exact bi k
    ·exact bi k
   ·exact bi k
  ·exact bi k
 ·exact bi k
def pu (tb:qV):Prop:=∀ g cs,tb g=some cs→Tabs.tab g=some cs
theorem Vj {tb:qV}(ht:pu tb) (er:ER e env) (hr:HR t n h) {o:Oper}(k:(Qz P tb o.op).f call e t n K=true):wH P env h o (KH K):=by
 obtain⟨dst,op,ty,pos,after,guard⟩:=o
 cases op<;>simp only[Qz]at k<;>simp only[wH]<;>try exact bi k
 case call c=>
  split at k
  ·rename_i f hc
   simp only[hc]
   split at k
   ·rename_i x hx
    obtain⟨vs,h1,k⟩:=lO er k
    rw[h1]
    simp only[dX,hx]
    exact⟨Dm (fun r k=>kh hr k) (Za k)⟩
   ·exact bi k
  ·rename_i hc
   simp only[hc]
   cases hvs:kS env c.args.toList with
   | none=>
     exfalso
     have:Hn P c.argTypes fun _ _=>False:=B9 (fun z i k=>by
      split at k
      ·rename_i x y ha
       simp only[e2]at k
       obtain⟨v,h1,k⟩:=bw er k
       obtain⟨u,h2,k⟩:=bw er k
       rw[ha]at hvs;simp[kS,h1,h2]at hvs
      ·exact bi k) k
     obtain⟨_,_,_,_,_,_,_,_,_,hf⟩:=Fo this
     exact hf
   | some vs=>
     refine B9 (fun z i k=>?_) k
     split at k
     ·rename_i x y ha
      simp only[e2]at k
      obtain⟨v,h1,k⟩:=bw er k
      obtain⟨u,h2,k⟩:=bw er k
      rw[ha]at hvs
      simp only[kS,h1,h2,Option.some.injEq]at hvs
      subst hvs
      exact⟨XL hr k⟩
     ·exact bi k
  ·rename_i hc
   simp only[hc]
   cases hvs:kS env c.args.toList with
   | none=>
     exfalso
     have:Hn P c.argTypes fun _ _=>False:=B9 (fun z i k=>by
      split at k
      ·rename_i x ha
       obtain⟨v,h1,k⟩:=bw er k
       rw[ha]at hvs;simp[kS,h1]at hvs
      ·exact bi k) k
     obtain⟨_,_,_,_,_,_,_,_,_,hf⟩:=Fo this
     exact hf
   | some vs=>
     refine B9 (fun z i k=>?_) k
     split at k
     ·rename_i x ha
      obtain⟨v,h1,k⟩:=bw er k
      rw[ha]at hvs
      simp only[kS,h1,Option.some.injEq]at hvs
      subst hvs
      exact⟨UP hr k⟩
     ·exact bi k
  ·exact bi k
 case indexAddr ty x i=>
  cases x<;>simp only at k ⊢<;>try exact bi k
  split at k
  ·rename_i cs hg
   simp only[ht _ _ hg]
   split at k
   ·split at k
    ·refine cU (fun v k=>?_) (oE er hr (p:=fun v K=>cd _ _ (.cptr cs) v K) (fun _ _ k=>⟨yd _ _ _ _ k⟩) (fun _ _ _ hk k=>eS hk _ _ _ _ k) k)
     unfold ew;simp only[*]
    ·exact bi k
   ·exact bi k
  ·exact bi k
 case load ty x=>
  cases x<;>simp only at k ⊢<;>try exact bi k
  split at k
  ·rename_i cs hg
   simp only[ht _ _ hg]
   unfold XC at k
   unfold kL
   split at k
   ·split at k
    ·simp only[*,if_true];exact gZ (fun r k=>kh hr k) _ _ _ ⟨C2 hr k⟩
    ·simp only[*,Bool.false_eq_true,if_false];exact g7 (fun r k=>kh hr k) _ _ ⟨DD hr k⟩
   ·exact bi k
  ·exact bi k
theorem tC {tb:qV}(ht:pu tb) (hcall:kz P call) (er:ER e env) (hr:HR t n h) {o:Oper}(k:(Ef P tb o.op).f call e t n K=true):aop P env h o (KH K):=by
 unfold Ef at k
 unfold aop
 split at k
 ·rename_i hn;rw[if_pos hn];exact Vj ht er hr k
 ·rename_i hn;rw[hn,if_neg (by simp)];exact Wv hcall er hr k
end
end
end
section
noncomputable section
structure ClR where
 f:md→ET→HT→Nat→(ET→HT→Nat→Bool)→Bool
structure PD where
 q:Nat
 o:Oper
 e:ET
 v:AV
structure ClD where
 f:md→ET→HT→Nat→List PD→(ET→HT→Nat→List PD→Bool)→Bool
structure ClC where
 f:md→ET→HT→Nat→(Exit→ET→HT→Nat→Bool)→Bool
structure ClF where
 f:md→List AV→HT→Nat→(AV→HT→Nat→Bool)→Bool
structure ClV where
 f:ET→HT→(List AV→Bool)→Bool
def noR:ClR:=⟨fun _ _ _ _ _=>false⟩
def noD:ClD:=⟨fun _ _ _ _ _ _=>false⟩
def noC:ClC:=⟨fun _ _ _ _ _=>false⟩
def noF:ClF:=⟨fun _ _ _ _ _=>false⟩
def Cv (e:ET) (d:Option Tmp) (v:AV):ET:=match d with|some d=>(tp d).s e v|none=>e
def JG (P:Program) (tb:qV) (nt:Nat) (o:Oper):ClR:=match ft nt o.dst with
 | true=>(match o.dst with
   | some d=>⟨fun c e t n K=>(Ef P tb o.op).f c e t n fun v t n=>K ((tp d).s e v) t n⟩
   | none=>⟨fun c e t n K=>(Ef P tb o.op).f c e t n fun _ t n=>K e t n⟩)
 | false=>noR
def ifV (v:AV) (x y:Bool):Bool:=match v with|.lit (.bool true)=>x|.lit (.bool false)=>y|_=>false
def T6 (g:Bool) (v:AV) (x y z:Bool):Bool:=match v with|.lit (.bool true)=>x|.lit (.bool false)=>y|.tup []=>bA g z|_=>false
def sN (P:Program) (tb:qV) (nt:Nat) (ops:Array Oper):List Nat→ClR
 | []=>⟨fun _ e t n K=>K e t n⟩
 | i::rest=>match ops[i]? with
   | none=>noR
   | some o=>match o.guard with
     | none=>⟨fun c e t n K=>(JG P tb nt o).f c e t n fun e t n=>(sN P tb nt ops rest).f c e t n K⟩
     | some (j,want)=>match (ops[j]?).bind (·.dst) with
       | none=>noR
       | some s=>match want with
         | true=>⟨fun c e t n K=>oM ((tp s).g e) fun v=>T6 (Uz ops j) v ((JG P tb nt o).f c e t n fun e t n=>(sN P tb nt ops rest).f c e t n K) (bA (ft nt o.dst) ((sN P tb nt ops rest).f c (Cv e o.dst (.tup [])) t n K)) (bA (ft nt o.dst) ((sN P tb nt ops rest).f c (Cv e o.dst (.tup [])) t n K))⟩
         | false=>⟨fun c e t n K=>oM ((tp s).g e) fun v=>T6 (Uz ops j) v (bA (ft nt o.dst) ((sN P tb nt ops rest).f c (Cv e o.dst (.tup [])) t n K)) ((JG P tb nt o).f c e t n fun e t n=>(sN P tb nt ops rest).f c e t n K) (bA (ft nt o.dst) ((sN P tb nt ops rest).f c (Cv e o.dst (.tup [])) t n K))⟩
def Yw:Value→Value→Bool
 | .bool a,.bool b=>a==b
 | .int j a,.int k b=>kEq j k&&iEq a b
 | .string a,.string b=>sEq a b
 | .pointer none,.pointer none=>true
 | .map none,.map none=>true
 | .nilFunc,.nilFunc=>true
 | .nilIface,.nilIface=>true
 | _,_=>false
theorem YB {a b:Value}(h:Yw a b=true):a=b:=by
 unfold Yw at h
 split at h<;>first
  | rfl
  | (cases h;done)
  | (simp only[beq_iff_eq]at h;rw[h])
  | (simp only[Bool.and_eq_true,SA,Tu]at h;rw[h.1,h.2])
  | (rw[KC]at h;rw[h])
def acj:Fn→Fn→Bool
 | .func a,.func b=>Nat.beq a b
 | _,_=>false
mutual
def yO:AV→AV→Bool
 | .lit a,.lit b=>Yw a b
 | .ptr i o,.ptr j p=>Nat.beq i j&&Nat.beq o p
 | .cptr a,.cptr b=>w9 a b
 | .sl i o l s,.sl j p m r=>Nat.beq i j&&Nat.beq o p&&Nat.beq l m&&Nat.beq s r
 | .snap n a,.snap m b=>Nat.beq n m&&w9 a b
 | .full n a,.full m b=>Nat.beq n m&&w9 a b
 | .map i,.map j=>Nat.beq i j
 | .fn f a b,.fn g c d=>acj f g&&(w9 a c&&w9 b d)
 | .iface t v,.iface u w=>Nat.beq t u&&yO v w
 | .agg a,.agg b=>w9 a b
 | .tup a,.tup b=>w9 a b
 | .sym i,.sym j=>Nat.beq i j
 | _,_=>false
def w9:List AV→List AV→Bool
 | [],[]=>true
 | a::l,b::m=>yO a b&&w9 l m
 | _,_=>false
end
theorem Zo:∀ {a b:Fn},acj a b=true→a=b
 | .func a,.func b,h=>by have:=Nat.eq_of_beq_eq_true h;rw[this]
mutual
theorem LY:∀ (a b:AV),yO a b=true→a=b
 | .lit a,b,h=>by cases b<;>simp only[yO]at h<;>first|(cases h;done)|(rw[YB h])
 | .ptr i o,b,h=>by
   cases b<;>simp only[yO,Bool.and_eq_true]at h<;>first|(cases h;done)|skip
   rw[Nat.eq_of_beq_eq_true h.1,Nat.eq_of_beq_eq_true h.2]
 | .cptr a,b,h=>by cases b<;>simp only[yO]at h<;>first|(cases h;done)|(rw[ou _ _ h])
 | .sl i o l s,b,h=>by
   cases b<;>simp only[yO,Bool.and_eq_true]at h<;>first|(cases h;done)|skip
   rw[Nat.eq_of_beq_eq_true h.1.1.1,Nat.eq_of_beq_eq_true h.1.1.2,Nat.eq_of_beq_eq_true h.1.2,Nat.eq_of_beq_eq_true h.2]
 | .snap n a,b,h=>by
   cases b<;>simp only[yO,Bool.and_eq_true]at h<;>first|(cases h;done)|skip
   rw[Nat.eq_of_beq_eq_true h.1,ou _ _ h.2]
 | .full n a,b,h=>by
   cases b<;>simp only[yO,Bool.and_eq_true]at h<;>first|(cases h;done)|skip
   rw[Nat.eq_of_beq_eq_true h.1,ou _ _ h.2]
 | .map i,b,h=>by cases b<;>simp only[yO]at h<;>first|(cases h;done)|(rw[Nat.eq_of_beq_eq_true h])
 | .fn f a c,b,h=>by
   cases b<;>simp only[yO,Bool.and_eq_true]at h<;>first|(cases h;done)|skip
   rw[Zo h.1,ou _ _ h.2.1,ou _ _ h.2.2]
 | .iface t v,b,h=>by
   cases b<;>simp only[yO,Bool.and_eq_true]at h<;>first|(cases h;done)|skip
   rw[Nat.eq_of_beq_eq_true h.1,LY _ _ h.2]
 | .agg a,b,h=>by cases b<;>simp only[yO]at h<;>first|(cases h;done)|(rw[ou _ _ h])
 | .tup a,b,h=>by cases b<;>simp only[yO]at h<;>first|(cases h;done)|(rw[ou _ _ h])
 | .sym i,b,h=>by cases b<;>simp only[yO]at h<;>first|(cases h;done)|(rw[Nat.eq_of_beq_eq_true h])
theorem ou:∀ (a b:List AV),w9 a b=true→a=b
 | [],b,h=>by cases b<;>simp only[w9]at h<;>first|rfl|(cases h;done)
 | a::l,b,h=>by
   cases b<;>simp only[w9,Bool.and_eq_true]at h<;>first|(cases h;done)|skip
   rw[LY _ _ h.1,ou _ _ h.2]
end
def N1 (P:Program) (tb:qV) (c:md) (m:Nat) (t:HT) (n:Nat) (k:Bool):List PD→Bool
 | []=>k
 | ⟨q,o,e,v⟩::r=>bI (Nat.testBit m q) (N1 P tb c m t n k r) (bA ((Ef P tb o.op).f c e t n fun r _ _=>yO r v) (N1 P tb c m t n k r))
def HK (P:Program) (tb:qV) (nt:Nat) (m i:Nat) (o:Oper):ClD:=match ft nt o.dst with
 | true=>(match qOp P o.op with
   | true=>(match hOp P o.op with
     | true=>⟨fun c e t n pd K=>(Ef P tb o.op).f c e t n fun v t n=>K (Cv e o.dst v) t n (⟨i,o,e,v⟩::pd)⟩
     | false=>⟨fun c e t n pd K=>(Ef P tb o.op).f c e t n fun v t n=>K (Cv e o.dst v) t n pd⟩)
   | false=>⟨fun c e t n pd K=>(Ef P tb o.op).f c e t n fun v t n=>N1 P tb c m t n (K (Cv e o.dst v) t n pd) pd⟩)
 | false=>noD
def zJ (P:Program) (tb:qV) (nt:Nat) (ops:Array Oper) (ms:List (Nat×Nat)):List Nat→ClD
 | []=>⟨fun _ e t n pd K=>K e t n pd⟩
 | i::rest=>match ops[i]? with
   | none=>noD
   | some o=>match o.guard with
     | none=>⟨fun c e t n pd K=>(HK P tb nt (qY ms i) i o).f c e t n pd fun e t n pd=>(zJ P tb nt ops ms rest).f c e t n pd K⟩
     | some (j,want)=>match (ops[j]?).bind (·.dst) with
       | none=>noD
       | some s=>match want with
         | true=>⟨fun c e t n pd K=>oM ((tp s).g e) fun v=>T6 (Uz ops j) v ((HK P tb nt (qY ms i) i o).f c e t n pd fun e t n pd=>(zJ P tb nt ops ms rest).f c e t n pd K) (bA (ft nt o.dst) ((zJ P tb nt ops ms rest).f c (Cv e o.dst (.tup [])) t n pd K)) (bA (ft nt o.dst) ((zJ P tb nt ops ms rest).f c (Cv e o.dst (.tup [])) t n pd K))⟩
         | false=>⟨fun c e t n pd K=>oM ((tp s).g e) fun v=>T6 (Uz ops j) v (bA (ft nt o.dst) ((zJ P tb nt ops ms rest).f c (Cv e o.dst (.tup [])) t n pd K)) ((HK P tb nt (qY ms i) i o).f c e t n pd fun e t n pd=>(zJ P tb nt ops ms rest).f c e t n pd K) (bA (ft nt o.dst) ((zJ P tb nt ops ms rest).f c (Cv e o.dst (.tup [])) t n pd K))⟩
def ab2 (P:Program) (ops:Array Oper) (done:List Nat):Option Nat:=
 let ready:=(List.range ops.size).filter fun i=>!done.contains i&&(match ops[i]? with|some o=>(vS o).all done.contains|none=>false)
 match ready.find? (fun i=>match ops[i]? with|some o=>qOp P o.op|none=>false) with
 | some i=>some i
 | none=>ready.head?
def V6 (P:Program) (ops:Array Oper):Nat→List Nat→List Nat
 | 0,done=>done.reverse
 | k+1,done=>match ab2 P ops done with
   | some i=>V6 P ops k (i::done)
   | none=>done.reverse
def HS (P:Program) (ops:Array Oper):Option (List Nat):=
 match uG P ops (V6 P ops ops.size []) with
 | true=>some (V6 P ops ops.size [])
 | false=>match uG P ops (List.range ops.size) with
   | true=>some (List.range ops.size)
   | false=>none
def abX (body:ClC) (c:md):Nat→ET→HT→Nat→(Exit→ET→HT→Nat→Bool)→Bool
 | 0,_,_,_,_=>false
 | k+1,e,t,n,K=>body.f c e t n fun ex e t n=>match ex with|.normal=>abX body c k e t n K|ex=>K ex e t n
def Wy (body:ClC) (c:md) (k:Nat):ET→HT→Nat→(Exit→ET→HT→Nat→Bool)→Bool:=
 @Nat.rec (fun _=>ET→HT→Nat→(Exit→ET→HT→Nat→Bool)→Bool) (fun _ _ _ _=>false) (fun _ ih e t n K=>body.f c e t n fun ex e t n=>match ex with|.normal=>ih e t n K|ex=>K ex e t n) k
def uh:Nat:=1000000
def uS:Code→Option Nat
 | .label l=>some l
 | .seq a b=>match uS a with|some l=>some l|none=>uS b
 | .cond _ a b=>match uS a with|some l=>some l|none=>uS b
 | .block _ b=>uS b
 | .loop b=>uS b
 | _=>none
def Hl (l:Nat) (again:ET→HT→Nat→Bool) (K:Exit→ET→HT→Nat→Bool):Exit→ET→HT→Nat→Bool:=
 fun ex e t n=>match ex with|.goto l'=>bA (Nat.beq l' l) (again e t n)|ex=>K ex e t n
def abM (body:ClC) (c:md) (l:Nat):Nat→ET→HT→Nat→(Exit→ET→HT→Nat→Bool)→Bool
 | 0,_,_,_,_=>false
 | k+1,e,t,n,K=>body.f c e t n (Hl l (fun e t n=>abM body c l k e t n K) K)
def Sx (body:ClC) (c:md) (l:Nat) (k:Nat):ET→HT→Nat→(Exit→ET→HT→Nat→Bool)→Bool:=
 @Nat.rec (fun _=>ET→HT→Nat→(Exit→ET→HT→Nat→Bool)→Bool) (fun _ _ _ _=>false) (fun _ ih e t n K=>body.f c e t n (Hl l (fun e t n=>ih e t n K) K)) k
def mD (P:Program) (tb:qV) (nt:Nat) (jmp:Code→ClC):Code→ClC
 | .skip=>⟨fun _ e t n K=>K .normal e t n⟩
 | .ret=>⟨fun _ e t n K=>K .ret e t n⟩
 | .exit id=>⟨fun _ e t n K=>K (.exit id) e t n⟩
 | .goto l=>⟨fun _ e t n K=>K (.goto l) e t n⟩
 | .label _=>⟨fun _ e t n K=>K .normal e t n⟩
 | .region _ ops d=>match d with
   | false=>⟨fun c e t n K=>(sN P tb nt ops (List.range ops.size)).f c e t n fun e t n=>K .normal e t n⟩
   | true=>match HS P ops,P.follows .mixedOrders with
     | some l,true=>⟨fun c e t n K=>(zJ P tb nt ops (AP ops l []) l).f c e t n [] fun e t n _=>K .normal e t n⟩
     | _,_=>noC
 | .seq x y=>⟨fun c e t n K=>(mD P tb nt jmp x).f c e t n fun ex e t n=>match ex with|.normal=>(mD P tb nt jmp y).f c e t n K|ex=>K ex e t n⟩
 | .cond x a b=>⟨fun c e t n K=>(eX x).f e fun v=>ifV v ((mD P tb nt jmp a).f c e t n K) ((mD P tb nt jmp b).f c e t n K)⟩
 | .block id x=>⟨fun c e t n K=>(mD P tb nt jmp x).f c e t n fun ex e t n=>match ex with|.exit i=>bI (Nat.beq i id) (K .normal e t n) (K (.exit i) e t n)|ex=>K ex e t n⟩
 | .loop x=>⟨fun c e t n K=>Wy (mD P tb nt jmp x) c uh e t n K⟩
 | .scope x=>match uS x with
   | some l=>(match findLabel x l with
     | some rest=>⟨fun c e t n K=>(mD P tb nt jmp x).f c e t n (Hl l (fun e t n=>Sx (jmp rest) c l uh e t n K) K)⟩
     | none=>noC)
   | none=>noC
 | _=>noC
def abj (P:Program) (tb:qV) (nt:Nat):Code→ClC:=mD P tb nt fun _=>noC
def Ty (P:Program) (tb:qV) (nt:Nat):Code→ClC:=mD P tb nt (abj P tb nt)
def vJ (P:Program):List ResultVar→ClV
 | []=>⟨fun _ _ K=>K []⟩
 | .tmp s::rs=>⟨fun e t K=>oM ((tp s).g e) fun v=>(vJ P rs).f e t fun vs=>K (v::vs)⟩
 | .cell a ty::rs=>match P.underlying ty,P.info? ty with
   | some d,some i=>(match l6 d with
     | true=>⟨fun e t K=>oM ((tp a).g e) fun p=>Gq i.size p t fun v=>(vJ P rs).f e t fun vs=>K (v::vs)⟩
     | false=>⟨fun e t K=>oM ((tp a).g e) fun p=>Ic p t fun v=>(vJ P rs).f e t fun vs=>K (v::vs)⟩)
   | _,_=>⟨fun _ _ _=>false⟩
def N4:Nat→List AV→ET
 | _,[]=>ee0
 | k,v::vs=>(tp k).s (N4 (k+1) vs) v
def Bk (P:Program) (tb:qV) (fn:Func):ClF:=match fn.body with
 | none=>noF
 | some c => match fn.name == "runtime.NumGoroutine" with
   | true=>noF
   | false=>⟨fun call args t n K=>bA (Nat.ble args.length fn.ntmps) ((Ty P tb fn.ntmps c).f call (N4 0 args) t n fun ex e t n=>match ex with
     | .normal=>(vJ P fn.results.toList).f e t fun vs=>K (yY vs) t n
     | .ret=>(vJ P fn.results.toList).f e t fun vs=>K (yY vs) t n
     | _=>false)⟩
abbrev Gb:=FuncId→List AV→HT→Nat→(AV→HT→Nat→Bool)→Option Bool
variable [Tabs]
section
variable {P:Program}{nt:Nat}{call:md}{tb:qV}
def KE (K:ET→HT→Nat→Bool) (env:Env) (h:ae):Prop:=∃ e t n,ER e env∧HR t n h∧K e t n=true
theorem ER.putD {e:ET}{env:Env}(r:ER e env) (d:Option Tmp) (v:AV):ER (Cv e d v) (putD env d v):=by
 cases d with
 | none=>exact r
 | some d=>exact r.put d v
theorem ER.know {e:ET}{env:Env}(r:ER e env) {s:Nat}{v:AV}(h:(tp s).g e=some v):ER e ((s,v)::env):=fun k u hu=>by
 simp only[AL.get]
 by_cases hk:s=k
 ·subst hk;rw[if_pos rfl,← h,hu]
 ·rw[if_neg hk];exact r k u hu
theorem BF (ht:pu tb) (hc:kz P call) {o:Oper}{e:ET}{env:Env}{t:HT}{n:Nat}{h:ae}{K:ET→HT→Nat→Bool}(er:ER e env) (hr:HR t n h) (k:(JG P tb nt o).f call e t n K=true):qC P nt env h o (KE K):=by
 unfold JG at k
 unfold qC
 split at k
 ·rename_i hd
  rw[if_pos hd]
  split at k
  ·rename_i d ho
   refine kW (fun v h' k=>?_) (tC ht hc er hr k)
   obtain⟨t',n',hr',k⟩:=k
   refine⟨_,t',n',?_,hr',k⟩
   rw[ho];exact er.put d v
  ·rename_i ho
   refine kW (fun v h' k=>?_) (tC ht hc er hr k)
   obtain⟨t',n',hr',k⟩:=k
   refine⟨_,t',n',?_,hr',k⟩
   rw[ho];exact er
 ·cases k
theorem Gn {o:Option AV}{K:AV→Bool}(k:oM o K=true):∃ v,o=some v∧K v=true:=by
 unfold oM at k;split at k
 ·exact⟨_,rfl,k⟩
 ·cases k
theorem abN {v:AV}{x y:Bool}(k:ifV v x y=true):(v=B true∧x=true)∨(v=B false∧y=true):=by
 unfold ifV at k;split at k
 ·exact .inl ⟨rfl,k⟩
 ·exact .inr ⟨rfl,k⟩
 ·cases k
theorem Fb {g:Bool}{v:AV}{x y z:Bool}(k:T6 g v x y z=true):(v=B true∧x=true)∨(v=B false∧y=true)∨(v=.tup []∧g=true∧z=true):=by
 unfold T6 at k;split at k
 ·exact .inl ⟨rfl,k⟩
 ·exact .inr (.inl ⟨rfl,k⟩)
 ·rw[cG]at k;exact .inr (.inr ⟨rfl,k⟩)
 ·cases k
theorem PB {ops:Array Oper}{l:List Nat}{env:Env}{h:ae}{K K':Env→ae→Prop}(hk:∀ env' h',K env' h'→K' env' h') (k:jd P nt ops l env h K):jd P nt ops l env h K':=
 uZ ops l env h K K' (fun env' h' _ k=>hk env' h' k) k
theorem wT {env:Env}{h:ae}{o:Oper}{K K':Env→ae→Prop}(hk:∀ env' h',K env' h'→K' env' h') (k:qC P nt env h o K):qC P nt env h o K':=
 HJ (fun v h' k=>hk _ _ k) k
theorem lF (ht:pu tb) (hc:kz P call) (ops:Array Oper):∀ (l:List Nat) {e:ET}{env:Env}{t:HT}{n:Nat}{h:ae}{K:ET→HT→Nat→Bool},ER e env→HR t n h→(sN P tb nt ops l).f call e t n K=true→jd P nt ops l env h (KE K)
 | [],e,env,t,n,h,K,er,hr,k=>⟨e,t,n,er,hr,k⟩
 | i::rest,e,env,t,n,h,K,er,hr,k=>by
   unfold sN at k
   unfold jd
   split at k
   ·cases k
   ·rename_i o ho
    simp only[ho]
    split at k
    ·rename_i hg
     simp only[hg]
     exact wT (fun env' h' ⟨e',t',n',er',hr',k'⟩=>lF ht hc ops rest er' hr' k') (BF ht hc er hr k)
    ·rename_i j want hg
     simp only[hg]
     split at k
     ·cases k
     ·rename_i s hs
      simp only[hs]
      split at k
      ·obtain⟨v,hv,k⟩:=Gn k
       rw[er s _ hv]
       replace k:=Fb k
       rcases k with ⟨rfl,k⟩|⟨rfl,k⟩|⟨rfl,hgd,k⟩
       ·refine ST ?_
        simp only[if_true]
        exact wT (fun env' h' ⟨e',t',n',er',hr',k'⟩=>lF ht hc ops rest er' hr' k') (BF ht hc (er.know hv) hr k)
       ·refine S7 ?_
        simp only[if_true]
        rw[cG]at k
        rw[if_pos k.1]
        exact lF ht hc ops rest ((er.know hv).putD _ _) hr k.2
       ·simp only[bV,hgd,ifG,ifT]
        rw[cG]at k
        rw[if_pos k.1]
        exact lF ht hc ops rest ((er.know hv).putD _ _) hr k.2
      ·obtain⟨v,hv,k⟩:=Gn k
       rw[er s _ hv]
       replace k:=Fb k
       rcases k with ⟨rfl,k⟩|⟨rfl,k⟩|⟨rfl,hgd,k⟩
       ·refine ST ?_
        simp only[Bool.false_eq_true,if_false]
        rw[cG]at k
        rw[if_pos k.1]
        exact lF ht hc ops rest ((er.know hv).putD _ _) hr k.2
       ·refine S7 ?_
        simp only[Bool.false_eq_true,if_false]
        exact wT (fun env' h' ⟨e',t',n',er',hr',k'⟩=>lF ht hc ops rest er' hr' k') (BF ht hc (er.know hv) hr k)
       ·simp only[bV,hgd,ifG,ifT]
        rw[cG]at k
        rw[if_pos k.1]
        exact lF ht hc ops rest ((er.know hv).putD _ _) hr k.2
def PR (P:Program):List PD→qE→Prop
 | [],p=>p=[]
 | ⟨q,o,e,v⟩::r,p=>∃ env p',p=(q,fun h2=>aop P env h2 o fun r _=>r=v)::p'∧ER e env∧PR P r p'
theorem Hr (ht:pu tb) (hc:kz P call) {m:Nat}{t:HT}{n:Nat}{h:ae}(hr:HR t n h) {k:Bool}{X:Prop}(hk:k=true→X):∀ {pd:List PD}{p:qE},PR P pd p→N1 P tb call m t n k pd=true→tg m p h X
 | [],p,hp,b=>by simp only[PR]at hp;subst hp;exact hk b
 | ⟨q,o,e,v⟩::r,p,hp,b=>by
   obtain⟨env,p',rfl,er,hp⟩:=hp
   unfold N1 at b
   unfold tg
   rcases (Km _ _ _).1 b with ⟨hq,b⟩|⟨hq,b⟩
   ·rw[if_pos hq];exact Hr ht hc hr hk hp b
   ·rw[if_neg (by rw[hq];simp)]
    rw[cG]at b
    exact⟨kW (fun r h' ⟨t',n',_,k⟩=>LY _ _ k) (tC ht hc er hr b.1),Hr ht hc hr hk hp b.2⟩
def KD (P:Program) (K:ET→HT→Nat→List PD→Bool) (env:Env) (h:ae) (p:qE):Prop:=∃ e t n pd,ER e env∧HR t n h∧PR P pd p∧K e t n pd=true
theorem CI (ht:pu tb) (hc:kz P call) {m i:Nat}{o:Oper}{e:ET}{env:Env}{t:HT}{n:Nat}{h:ae}{pd:List PD}{p:qE}{K:ET→HT→Nat→List PD→Bool}(er:ER e env) (hr:HR t n h) (hp:PR P pd p) (k:(HK P tb nt m i o).f call e t n pd K=true):qR P nt m i o env h p (KD P K):=by
 unfold HK at k
 unfold qR
 split at k
 ·rename_i hd
  rw[if_pos hd]
  split at k
  ·rename_i hq
   rw[if_pos hq]
   split at k
   ·rename_i hh
    refine kW (fun v h' k=>?_) (tC ht hc er hr k)
    obtain⟨t',n',hr',k⟩:=k
    rw[if_pos hh]
    exact⟨_,t',n',⟨i,o,e,v⟩::pd,er.putD _ _,hr',⟨env,p,rfl,er,hp⟩,k⟩
   ·rename_i hh
    refine kW (fun v h' k=>?_) (tC ht hc er hr k)
    obtain⟨t',n',hr',k⟩:=k
    rw[if_neg (by rw[hh];simp)]
    exact⟨_,t',n',_,er.putD _ _,hr',hp,k⟩
  ·rename_i hq
   rw[if_neg (by rw[hq];simp)]
   refine kW (fun v h' k=>?_) (tC ht hc er hr k)
   obtain⟨t',n',hr',k⟩:=k
   exact Hr ht hc hr' (fun k=>⟨_,t',n',_,er.putD _ _,hr',hp,k⟩) hp k
 ·cases k
theorem oR (ht:pu tb) (hc:kz P call) (ops:Array Oper) (ms:List (Nat×Nat)):∀ (l:List Nat) {e:ET}{env:Env}{t:HT}{n:Nat}{h:ae}{pd:List PD}{p:qE}{K:ET→HT→Nat→List PD→Bool},ER e env→HR t n h→PR P pd p→(zJ P tb nt ops ms l).f call e t n pd K=true→
  nu P nt ops ms l env h p fun env' h'=>∃ e t n pd,ER e env'∧HR t n h'∧K e t n pd=true
 | [],e,env,t,n,h,pd,p,K,er,hr,hp,k=>⟨e,t,n,pd,er,hr,k⟩
 | i::rest,e,env,t,n,h,pd,p,K,er,hr,hp,k=>by
   unfold zJ at k
   unfold nu
   have sm:∀ {env:Env} {K' K2:Env→ae→qE→Prop} {o:Oper},(∀ env' h' p',K' env' h' p'→K2 env' h' p')→qR P nt (qY ms i) i o env h p K'→qR P nt (qY ms i) i o env h p K2:=fun hk k=>Gk (fun v h' p' k=>hk _ _ _ k) k
   split at k
   ·cases k
   ·rename_i o ho
    simp only[ho]
    split at k
    ·rename_i hg
     simp only[hg]
     exact sm (fun env' h' p' ⟨e',t',n',pd',er',hr',hp',k'⟩=>oR ht hc ops ms rest er' hr' hp' k') (CI ht hc er hr hp k)
    ·rename_i j want hg
     simp only[hg]
     split at k
     ·cases k
     ·rename_i s hs
      simp only[hs]
      split at k
      ·obtain⟨v,hv,k⟩:=Gn k
       rw[er s _ hv]
       replace k:=Fb k
       rcases k with ⟨rfl,k⟩|⟨rfl,k⟩|⟨rfl,hgd,k⟩
       ·refine ST ?_
        simp only[if_true]
        exact sm (fun env' h' p' ⟨e',t',n',pd',er',hr',hp',k'⟩=>oR ht hc ops ms rest er' hr' hp' k') (CI ht hc (er.know hv) hr hp k)
       ·refine S7 ?_
        simp only[if_true]
        rw[cG]at k
        rw[if_pos k.1]
        exact oR ht hc ops ms rest ((er.know hv).putD _ _) hr hp k.2
       ·simp only[bV,hgd,ifG,ifT]
        rw[cG]at k
        rw[if_pos k.1]
        exact oR ht hc ops ms rest ((er.know hv).putD _ _) hr hp k.2
      ·obtain⟨v,hv,k⟩:=Gn k
       rw[er s _ hv]
       replace k:=Fb k
       rcases k with ⟨rfl,k⟩|⟨rfl,k⟩|⟨rfl,hgd,k⟩
       ·refine ST ?_
        simp only[Bool.false_eq_true,if_false]
        rw[cG]at k
        rw[if_pos k.1]
        exact oR ht hc ops ms rest ((er.know hv).putD _ _) hr hp k.2
       ·refine S7 ?_
        simp only[Bool.false_eq_true,if_false]
        exact sm (fun env' h' p' ⟨e',t',n',pd',er',hr',hp',k'⟩=>oR ht hc ops ms rest er' hr' hp' k') (CI ht hc (er.know hv) hr hp k)
       ·simp only[bV,hgd,ifG,ifT]
        rw[cG]at k
        rw[if_pos k.1]
        exact oR ht hc ops ms rest ((er.know hv).putD _ _) hr hp k.2
theorem Pz {ops:Array Oper}{l:List Nat}(h:HS P ops=some l):uG P ops l=true:=by
 unfold HS at h
 split at h
 ·cases h;assumption
 ·split at h
  ·cases h;assumption
  ·cases h
theorem DT {c:Code}{Q Q':Exit→Act→World→Prop}(hq:∀ e a w,Q e a w→Q' e a w):∀ (k:Nat) (a:Act) (w:World),Code.rounds P c Q k a w→Code.rounds P c Q' k a w
 | 0,a,w,h=>h
 | k+1,a,w,h=>Go.wp_mono h fun e a' w' p=>by
   cases e with
   | normal=>exact DT hq k a' w' p
   | _=>exact hq _ _ _ p
def KX (K:Exit→ET→HT→Nat→Bool) (ex:Exit) (env:Env) (h:ae):Prop:=∃ e t n,ER e env∧HR t n h∧K ex e t n=true
theorem SZ {c:Code}{body:ClC}(hb:∀ {e:ET}{env:Env}{t:HT}{n:Nat}{h:ae}{K:Exit→ET→HT→Nat→Bool},ER e env→HR t n h→body.f call e t n K=true→AWp P nt c env h (KX K)):
  ∀ (k:Nat) {e:ET} {env:Env} {t:HT} {n:Nat} {h:ae} {K:Exit→ET→HT→Nat→Bool},ER e env→HR t n h→Wy body call k e t n K=true→
    ∀ (G:Gh) (w:World) (a:Act),Sim G h w→a.tmps.size=nt→EnvRep G env a.tmps→Code.rounds P c (Post G h w nt a.defers (KX K)) k a w
 | 0,e,env,t,n,h,K,er,hr,k=>by cases k
 | m+1,e,env,t,n,h,K,er,hr,k=>by
   intro G w a s hn r
   refine Go.wp_mono (hb er hr k G w a s hn r) fun ex a' w' p=>?_
   obtain⟨env',h',G',⟨e',t',n',er',hr',hk⟩,s',ev,r',hn',hd'⟩:=p
   cases ex with
   | normal=>
     have:=SZ hb m er' hr' hk G' w' a' s' hn' r'
     exact DT (fun e a2 w2 p2=>by rw[hd']at p2;exact p2.step ev) m a' w' this
   | _=>exact⟨env',h',G',⟨e',t',n',er',hr',hk⟩,s',ev,r',hn',hd'⟩
def aa3 (P:Program) (nt:Nat) (call:md) (f:Code→ClC):Prop:=∀ (c:Code) {e:ET}{env:Env}{t:HT}{n:Nat}{h:ae}{K:Exit→ET→HT→Nat→Bool},ER e env→HR t n h→(f c).f call e t n K=true→AWp P nt c env h (KX K)
def Ca (P:Program) (rest:Code) (l:Nat) (Q:Exit→Act→World→Prop):Nat→Act→World→Prop
 | 0,_,_=>False
 | n+1,a,w=>rest.wp P (Exit.jump l (Ca P rest l Q n) Q) a w
theorem z8 {rest:Code}{l:Nat}{Q Q':Exit→Act→World→Prop}(hq:∀ e a w,Q e a w→Q' e a w):∀ (k:Nat) (a:Act) (w:World),Ca P rest l Q k a w→Ca P rest l Q' k a w
 | 0,a,w,h=>h
 | k+1,a,w,h=>Go.wp_mono h fun e a' w' p=>by
   cases e with
   | goto l'=>exact⟨p.1,z8 hq k a' w' p.2⟩
   | _=>exact hq _ _ _ p
theorem I4 {c rest:Code}{Q:Exit→Act→World→Prop}{a:Act}{w:World}(l m:Nat) (hf:findLabel c l=some rest) (first:c.wp P (Exit.jump l (Ca P rest l Q m) Q) a w):(Code.scope c).wp P Q a w:=by
 refine wp_scope_jumps l (fun a w=>∃ k,Ca P rest l Q k a w) (fun a w=>Cw fun k=>Ca P rest l Q k a w) hf (Go.wp_mono first fun e a' w' p=>?_) fun a w hJ=>?_
 ·cases e with
  | goto l'=>exact⟨p.1,m,p.2⟩
  | _=>exact p
 ·have hsp:=xQ hJ
  generalize hk:Cw (fun k=>Ca P rest l Q k a w)=k at hsp
  cases k with
  | zero=>exact hsp.elim
  | succ k=>
    refine Go.wp_mono (show rest.wp P (Exit.jump l (Ca P rest l Q k) Q) a w from hsp) fun e a' w' p=>?_
    cases e with
    | goto l'=>exact⟨p.1,⟨k,p.2⟩,Nat.lt_of_le_of_lt (C3 p.2) (Nat.lt_succ_self k)⟩
    | _=>exact p
theorem NX {rest:Code}{body:ClC}{l:Nat}(hb:∀ {e:ET}{env:Env}{t:HT}{n:Nat}{h:ae}{K:Exit→ET→HT→Nat→Bool},ER e env→HR t n h→body.f call e t n K=true→AWp P nt rest env h (KX K)):
  ∀ (k:Nat) {e:ET} {env:Env} {t:HT} {n:Nat} {h:ae} {K:Exit→ET→HT→Nat→Bool},ER e env→HR t n h→Sx body call l k e t n K=true→
    ∀ (G:Gh) (w:World) (a:Act),Sim G h w→a.tmps.size=nt→EnvRep G env a.tmps→Ca P rest l (Post G h w nt a.defers (KX K)) k a w
 | 0,e,env,t,n,h,K,er,hr,k=>by cases k
 | m+1,e,env,t,n,h,K,er,hr,k=>by
   intro G w a s hn r
   have k:body.f call e t n (Hl l (fun e t n=>Sx body call l m e t n K) K)=true:=k
   refine Go.wp_mono (hb er hr k G w a s hn r) fun ex a' w' p=>?_
   obtain⟨env',h',G',⟨e',t',n',er',hr',hk⟩,s',ev,r',hn',hd'⟩:=p
   cases ex with
   | goto l'=>
     simp only[Hl,cG]at hk
     refine⟨Nat.eq_of_beq_eq_true hk.1,?_⟩
     have:=NX hb m er' hr' hk.2 G' w' a' s' hn' r'
     exact z8 (fun e a2 w2 p2=>by rw[hd']at p2;exact p2.step ev) m a' w' this
   | _=>exact⟨env',h',G',⟨e',t',n',er',hr',hk⟩,s',ev,r',hn',hd'⟩
theorem Jm (ht:pu tb) (hc:kz P call) {jmp:Code→ClC}(hj:aa3 P nt call jmp):∀ (c:Code) {e:ET}{env:Env}{t:HT}{n:Nat}{h:ae}{K:Exit→ET→HT→Nat→Bool},ER e env→HR t n h→(mD P tb nt jmp c).f call e t n K=true→AWp P nt c env h (KX K):=by
 intro c
 induction c with
 | skip=>exact fun er hr k=>MV ⟨_,_,_,er,hr,k⟩
 | ret=>exact fun er hr k=>S1 ⟨_,_,_,er,hr,k⟩
 | exit id=>exact fun er hr k=>PP ⟨_,_,_,er,hr,k⟩
 | goto l=>exact fun er hr k=>PN ⟨_,_,_,er,hr,k⟩
 | label l=>exact fun er hr k=>JZ ⟨_,_,_,er,hr,k⟩
 | region id ops d=>
   intro e env t n h K er hr k
   cases d with
   | false=>exact Ho (PB (fun env' h' ⟨e',t',n',er',hr',k'⟩=>⟨e',t',n',er',hr',k'⟩) (lF ht hc ops _ er hr k))
   | true=>
     simp only[mD]at k
     split at k
     ·rename_i l hl hf
      refine Jo hf (Pz hl) (yk ops _ l env h [] _ _ (fun env' h' _ ⟨e',t',n',pd,er',hr',k'⟩=>⟨e',t',n',er',hr',k'⟩) (oR ht hc ops _ l er hr (pd:=[]) (by simp[PR]) k))
     ·cases k
 | seq x y hx hy=>
   intro e env t n h K er hr k
   refine Lv ((hx er hr k).mono fun ex env' h' ⟨e',t',n',er',hr',k'⟩=>?_)
   cases ex with
   | normal=>exact hy er' hr' k'
   | _=>exact⟨e',t',n',er',hr',k'⟩
 | cond x a b ha hb=>
   intro e env t n h K er hr k
   obtain⟨v,hv,k⟩:=bw er k
   refine M3 ?_
   rw[hv]
   rcases abN k with ⟨rfl,k1⟩|⟨rfl,k1⟩
   ·exact ha er hr k1
   ·exact hb er hr k1
 | block id x hx=>
   intro e env t n h K er hr k
   refine Kn ((hx er hr k).mono fun ex env' h' ⟨e',t',n',er',hr',k'⟩=>?_)
   cases ex with
   | exit i=>
     simp only[Km]at k'
     rcases k' with ⟨hi,k'⟩|⟨hi,k'⟩
     ·show if i=id then _ else _
      rw[if_pos (Nat.eq_of_beq_eq_true hi)];exact⟨e',t',n',er',hr',k'⟩
     ·show if i=id then _ else _
      rw[if_neg (fun e=>by rw[Nat.beq_eq.mpr e]at hi;cases hi)];exact⟨e',t',n',er',hr',k'⟩
   | _=>exact⟨e',t',n',er',hr',k'⟩
 | loop x hx=>
   intro e env t n h K er hr k G w a s hn r
   have k':Wy (mD P tb nt jmp x) call uh e t n K=true:=k
   generalize uh=m at k'
   exact wp_loop_rounds m (SZ (fun er hr k=>hx er hr k) m er hr k' G w a s hn r)
 | scope x hx=>
   intro e env t n h K er hr k
   simp only[mD]at k
   split at k
   ·rename_i l hl
    split at k
    ·rename_i rest hrest
     intro G w a s hn r
     have k':(mD P tb nt jmp x).f call e t n (Hl l (fun e t n=>Sx (jmp rest) call l uh e t n K) K)=true:=k
     clear k
     generalize uh=m at k'
     refine I4 l m hrest (Go.wp_mono (hx er hr k' G w a s hn r) fun ex a' w' p=>?_)
     obtain⟨env',h',G',⟨e',t',n',er',hr',hk⟩,s',ev,r',hn',hd'⟩:=p
     cases ex with
     | goto l'=>
       simp only[Hl,cG]at hk
       refine⟨Nat.eq_of_beq_eq_true hk.1,?_⟩
       have:=NX (hj rest) m er' hr' hk.2 G' w' a' s' hn' r'
       exact z8 (fun e a2 w2 p2=>by rw[hd']at p2;exact p2.step ev) m a' w' this
     | _=>exact⟨env',h',G',⟨e',t',n',er',hr',hk⟩,s',ev,r',hn',hd'⟩
    ·cases k
   ·cases k
 | _=>intro e env t n h K er hr k;cases k
theorem BP (ht:pu tb) (hc:kz P call):∀ (c:Code) {e:ET}{env:Env}{t:HT}{n:Nat}{h:ae}{K:Exit→ET→HT→Nat→Bool},ER e env→HR t n h→(Ty P tb nt c).f call e t n K=true→AWp P nt c env h (KX K):=
 Jm ht hc (Jm ht hc fun c {e env t n h K} er hr k=>by cases k)
theorem ua {e:ET}{env:Env}{t:HT}{n:Nat}{h:ae}(er:ER e env) (hr:HR t n h):∀ {rs:List ResultVar}{K:List AV→Bool},(vJ P rs).f e t K=true→Ij P env h rs fun vs=>K vs=true
 | [],K,k=>k
 | .tmp s::rs,K,k=>by
   obtain⟨v,hv,k⟩:=Gn k
   unfold Ij
   rw[er s _ hv]
   exact ua er hr k
 | .cell a ty::rs,K,k=>by
   simp only[vJ]at k
   unfold Ij
   split at k
   ·split at k
    ·obtain⟨v,hv,k⟩:=Gn k
     rw[er a _ hv]
     show kL P ty v h _
     unfold kL
     simp only[*,if_true]
     exact gZ (fun r k=>ua er hr k) _ _ _ ⟨C2 hr k⟩
    ·obtain⟨v,hv,k⟩:=Gn k
     rw[er a _ hv]
     show kL P ty v h _
     unfold kL
     simp only[*,Bool.false_eq_true,if_false]
     exact g7 (fun r k=>ua er hr k) _ _ ⟨DD hr k⟩
   ·cases k
theorem qm {env:Env}{h:ae}:∀ {rs:List ResultVar}{K K':List AV→Prop},(∀ vs,K vs→K' vs)→Ij P env h rs K→Ij P env h rs K'
 | [],K,K',hk,k=>hk _ k
 | .tmp s::rs,K,K',hk,k=>cU (fun v k=>qm (fun vs k=>hk _ k) k) k
 | .cell a ty::rs,K,K',hk,k=>cU (fun v k=>by
   unfold kL at *
   split at k
   ·split at k
    ·rename_i hd;rw[if_pos hd];exact gZ (fun r k=>qm (fun vs k=>hk _ k) k) _ _ _ k
    ·rename_i hd;rw[if_neg hd];exact g7 (fun r k=>qm (fun vs k=>hk _ k) k) _ _ k
   ·exact k.elim) k
theorem BV:∀ (k:Nat) (vs:List AV),ER (N4 k vs) (fb k vs)
 | k,[]=>fun i v h=>by rw[N4,ZK]at h;cases h
 | k,v::vs=>(BV (k+1) vs).put k v
theorem Ys (ht:pu tb) (hc:kz P call) {f:FuncId}{fn:Func}(hf:P.funcs[f]?=some fn) {args:List AV}{t:HT}{n:Nat}{h:ae}{K:AV→HT→Nat→Bool}(hr:HR t n h) (k:(Bk P tb fn).f call args t n K=true):ACall P f args h (KH K):=by
 unfold Bk at k
 split at k
 ·cases k
 ·rename_i c hb
  split at k
  ·cases k
  ·rename_i hname
   simp only[cG]at k
   obtain⟨hn,k⟩:=k
   have hn:=Nat.le_of_ble_eq_true hn
   refine⟨⟨fn,hf,hname,by simp[hb]⟩,fun G w vs s r=>?_⟩
   refine calls_of_wp hf hb ?_
   have hl:=r.length
   have hre:EnvRep G (fb 0 args) (vs.toArray++Array.replicate (fn.ntmps-vs.toArray.size) undef):=fun k a e=>by
    obtain⟨_,h1⟩:=un args 0 k a e
    obtain⟨v,h2,h3⟩:=r.at _ _ h1
    have hk:k<vs.length:=(List.getElem?_eq_some_iff.1 h2).1
    exact⟨v,by rw[Array.getElem?_append_left (by simpa using hk)];simpa using h2,h3⟩
   have W:=BP ht hc c (BV 0 args) hr k G w { tmps:=vs.toArray++Array.replicate (fn.ntmps-vs.toArray.size) undef,defers:=[] } s (by simp;omega) hre
   have fin:∀ {e:ET} {env':Env} {t':HT} {n':Nat} {h':ae},ER e env'→HR t' n' h'→(vJ P fn.results.toList).f e t' (fun vs=>K (yY vs) t' n')=true→IB P fn.results.toList env' h' (KH K):=fun er hr k=>
    qm (fun vs k=>kh hr k) (ua er hr k)
   refine wp_mono W fun e a w' ⟨env',h',G',⟨e',t',n',er',hr',hk⟩,s',ev,r',hn',hd'⟩=>?_
   cases e with
   | normal=>
     obtain⟨v,x,q1,q2,q3⟩:=pP s' r' (fin er' hr' hk)
     exact⟨hd',x,q1,v,x,h',G',rfl,q2,q3,s',ev⟩
   | ret=>
     obtain⟨v,x,q1,q2,q3⟩:=pP s' r' (fin er' hr' hk)
     exact⟨hd',x,q1,v,x,h',G',rfl,q2,q3,s',ev⟩
   | exit id=>cases hk
   | goto l=>cases hk
   | panic ch=>cases hk
   | outgrown=>cases hk
def L5 (P:Program) (sp:Gb):Prop:=∀ (f:FuncId) (args:List AV) (t:HT) (n:Nat) (h:ae) (K:AV→HT→Nat→Bool),HR t n h→sp f args t n K=some true→ACall P f args h (KH K)
end
end
end
end Go.Proofs.YtgkmmcdhhkllnaaGreatDoor.AL
