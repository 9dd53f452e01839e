import Derived.Test.YtgkmmcdhhkllnaaGreatDoorAL18toAL19
import Derived.IntWalk
set_option linter.all false
set_option autoImplicit true
set_option relaxedAutoImplicit true
set_option maxRecDepth 100000
namespace Go.Proofs.YtgkmmcdhhkllnaaGreatDoor.AL
section
def acB (op:BinOp) (x y:AV) (K:AV→Bool):Bool:=
 match x,y with
 | .lit a,.lit b=>(match cz op a b with|some r=>K (.lit r)|none=>false)
 | _,_=>false
def Xo (op:BinOp) (x y:AV) (K:AV→Bool):Bool:=
 match x,y with
 | .lit (.bool a),.lit (.bool b)=>(match op with|.eql=>K (B (a==b))|.neq=>K (B (!(a==b)))|_=>false)
 | _,_=>false
def Xl (op:BinOp) (x y:AV) (K:AV→Bool):Bool:=
 match x,y with
 | .ptr _ _,.lit (.pointer none)=>(match op with|.eql=>K (B false)|.neq=>K (B true)|_=>false)
 | .lit (.pointer none),.lit (.pointer none)=>(match op with|.eql=>K (B true)|.neq=>K (B false)|_=>false)
 | _,_=>false
def bUn (op:UnOp) (x:AV) (K:AV→Bool):Bool:=
 match op,x with
 | .neg,.lit (.int k n)=>K (.lit (.int k (k.wrap (0-n))))
 | .xor,.lit (.int k n)=>K (.lit (.int k (k.wrap ((BitVec.ofInt k.bits (if k.signed then -1 else k.max) ^^^ BitVec.ofInt k.bits n).toNat:Int))))
 | .not,.lit (.bool b)=>K (B !b)
 | .neg,.lit (.float k b)=>K (.lit (.float k (Op.negFloat k b)))
 | _,_=>false
def Ma (x:AV) (K:AV→Bool):Bool:=match x with|.lit (.string s)=>K (S s)|_=>false
def abl (v:AV) (K:AV→Bool):Bool:=match v with|.ptr i o=>K (.ptr i o)|.cptr cs=>K (.cptr cs)|.fn (.func f) fi ca=>K (.fn (.func f) fi ca)|_=>false
def aaV (off:Nat) (v:AV) (K:AV→Bool):Bool:=match v with|.ptr i o=>K (.ptr i (o+off))|.cptr cs=>K (.cptr (cs.drop off))|_=>false
def acv (n:Nat) (v:AV) (h:ae) (K:AV→Bool):Bool:=match rF h n v with|some l=>K (.agg l)|none=>false
def acs (v:AV) (h:ae) (K:AV→Bool):Bool:=match rF h 1 v with|some [a]=>K a|_=>false
def Sh (off n:Nat) (v:AV) (K:AV→Bool):Bool:=match v with|.agg cs=>K (.agg ((cs.drop off).take n))|_=>false
def RD (off:Nat) (v:AV) (K:AV→Bool):Bool:=match v with|.agg cs=>(match cs[off]? with|some a=>K a|none=>false)|_=>false
def abc (size:Nat) (v i:AV) (K:AV→Bool):Bool:=
 match asI i with
 | none=>false
 | some n=>match v with
   | .sl j off len sz=>decide (0≤n∧n<len∧sz=size)&&K (.ptr j (off+n.toNat*size))
   | .snap m cs=>decide (0≤n∧n<m)&&K (.cptr (cs.drop (n.toNat*size)))
   | .full m cs=>decide (0≤n∧n<m)&&K (.cptr (cs.drop (n.toNat*size)))
   | _=>false
def rN (len size:Nat) (v i:AV) (K:AV→Bool):Bool:=
 match asI i with
 | none=>false
 | some n=>match v with
   | .ptr j off=>decide (0≤n∧n<len)&&K (.ptr j (off+n.toNat*size))
   | .cptr cs=>decide (0≤n∧n<len)&&K (.cptr (cs.drop (n.toNat*size)))
   | _=>false
def acm (v:AV) (lo hi:Option AV) (K:AV→Bool):Bool:=
 match v with
 | .lit (.string s)=>(match kU lo 0,kU hi s.size with
   | some l,some h=>decide (0≤l∧l≤h∧h≤s.size)&&K (S (s.extract l.toNat h.toNat))
   | _,_=>false)
 | _=>false
def MR (size:Nat) (v:AV) (lo hi:Option AV) (K:AV→Bool):Bool:=
 match v with
 | .sl i off len sz=>(match kU lo 0,kU hi len with
   | some l,some h=>decide (0≤l∧l≤h∧h≤len∧sz=size)&&K (.sl i (off+l.toNat*size) (h.toNat-l.toNat) size)
   | _,_=>false)
 | .snap n cs=>(match kU lo 0,kU hi n with
   | some l,some h=>decide (0≤l∧l≤h∧h≤n)&&K (.snap (h.toNat-l.toNat) ((cs.drop (l.toNat*size)).take ((h.toNat-l.toNat)*size)))
   | _,_=>false)
 | .full n cs=>(match kU lo 0,kU hi n with
   | some l,some h=>decide (0≤l∧l≤h∧h≤n)&&K (.snap (h.toNat-l.toNat) ((cs.drop (l.toNat*size)).take ((h.toNat-l.toNat)*size)))
   | _,_=>false)
 | _=>false
def Lg (v:AV) (K:AV→Bool):Bool:=match v with|.sl _ _ _ _=>K (.full 0 [])|.snap _ _=>K (.full 0 [])|.full _ _=>K (.full 0 [])|_=>false
def GK (i:Nat) (v:AV) (K:AV→Bool):Bool:=match v with|.tup vs=>(match vs[i]? with|some a=>K a|none=>false)|_=>false
def Sd (t:TypeId) (v:AV) (K:AV→Bool):Bool:=K (.iface t v)
def QV (zs:List AV) (ps:List (Nat×Nat×AV)) (K:AV→Bool):Bool:=match Es zs ps with|some cs=>K (.agg cs)|none=>false
def xU (n size:Nat) (vs:List AV) (K:AV→Bool):Bool:=decide (vs.length=n∧(vs.all fun v=>!v.isTup&&v.cells.length==size)=true)&&K (.full n (vs.flatMap (·.cells)))
def acl (d:TypeDesc) (ok:Bool) (z x key:AV) (h:ae) (K:AV→Bool):Bool:=
 match key with
 | .lit k=>match x with
   | .lit (.map none)=>if kOk d k=true then K (if ok then .tup [z,B false] else z) else false
   | .map i=>match h[i]? with
     | some (.amap es _)=>if (kOk d k&&es.all fun e=>kOk d e.1)=true then (match lN k es 0 with
       | some (_,_,v)=>K (if ok then .tup [v,B true] else v)
       | none=>K (if ok then .tup [z,B false] else z)) else false
     | _=>false
   | _=>false
 | _=>false
def abL (bytes:Nat) (z l c:AV) (h:ae) (K:AV→ae→Bool):Bool:=
 match l,c with
 | .lit (.int _ l),.lit (.int _ c)=>decide (0≤l∧l≤c∧(bytes:Int)*c≤1099511627776∧c≤1099511627776)&&K (.sl h.length 0 l.toNat 1) (h++[.cells (List.replicate c.toNat z)])
 | _,_=>false
def KZ (op:BinOp) (x:AV) (K:AV→Bool):Bool:=
 match op,x with
 | .eql,.map _=>K (B false)
 | .neq,.map _=>K (B true)
 | .eql,.lit (.map none)=>K (B true)
 | .neq,.lit (.map none)=>K (B false)
 | _,_=>false
def Mc (op:BinOp) (x:AV) (K:AV→Bool):Bool:=
 match op,x with
 | .eql,.iface _ _=>K (B false)
 | .neq,.iface _ _=>K (B true)
 | .eql,.lit .nilIface=>K (B true)
 | .neq,.lit .nilIface=>K (B false)
 | _,_=>false
def KR (op:BinOp) (x:AV) (K:AV→Bool):Bool:=
 match op,x with
 | .eql,.fn _ _ _=>K (B false)
 | .neq,.fn _ _ _=>K (B true)
 | .eql,.lit .nilFunc=>K (B true)
 | .neq,.lit .nilFunc=>K (B false)
 | _,_=>false
def I3 (op:BinOp) (b:Bool) (K:AV→Bool):Bool:=match op with|.eql=>K (B b)|.neq=>K (B !b)|_=>false
def Mm (op:BinOp) (x:AV) (K:AV→Bool):Bool:=
 match x with
 | .sl _ _ _ _=>I3 op false K
 | .full n _=>if n=0 then I3 op true K&&I3 op false K else I3 op false K
 | .snap n _=>if n=0 then I3 op true K&&I3 op false K else I3 op false K
 | _=>false
def abh (op:BinOp) (ds:List TypeDesc) (x y:AV) (K:AV→Bool):Bool:=
 match x,y with
 | .agg az,.agg bs=>(match ym ds az bs with|some b=>I3 op b K|none=>false)
 | _,_=>false
def X8 (v:AV) (K:AV→Bool):Bool:=match v with|.sl _ _ len _=>K (I len)|.snap n _=>K (I n)|.full n _=>K (I n)|_=>false
def abv (x y:AV) (K:AV→Bool):Bool:=match x,y with|.lit (.int k a),.lit (.int _ b)=>K (.lit (.int k (if b > a then b else a)))|_,_=>false
def aa7 (x y:AV) (K:AV→Bool):Bool:=match x,y with|.lit (.int k a),.lit (.int _ b)=>K (.lit (.int k (if b<a then b else a)))|_,_=>false
theorem rJ {K:AV→Bool}(op:BinOp) (b:Bool) (k:I3 op b K=true):sT op b (fun r=>K r=true):=by
 unfold I3 at k
 unfold sT
 (repeat' split at k)<;>first|(cases k;done)|exact k|(simp only[Bool.and_eq_true,decide_eq_true_eq]at k;exact k)|(rw[if_pos ‹_›];exact k)|(rw[if_neg ‹_›];exact k)|(simp only[*,↓reduceIte,Bool.false_eq_true];done)|(simp_all;done)
theorem WD {K:AV→Bool}(op:BinOp) (x y:AV) (k:Xo op x y K=true):xi op x y (fun r=>K r=true):=by
 unfold Xo at k
 unfold xi
 (repeat' split at k)<;>first|(cases k;done)|exact k|(simp only[Bool.and_eq_true,decide_eq_true_eq]at k;exact k)|(rw[if_pos ‹_›];exact k)|(rw[if_neg ‹_›];exact k)|(simp only[*,↓reduceIte,Bool.false_eq_true];done)|(simp_all;done)
theorem XT {K:AV→Bool}(op:BinOp) (x y:AV) (k:Xl op x y K=true):wd op x y (fun r=>K r=true):=by
 unfold Xl at k
 unfold wd
 (repeat' split at k)<;>first|(cases k;done)|exact k|(simp only[Bool.and_eq_true,decide_eq_true_eq]at k;exact k)|(rw[if_pos ‹_›];exact k)|(rw[if_neg ‹_›];exact k)|(simp only[*,↓reduceIte,Bool.false_eq_true];done)|(simp_all;done)
theorem abe {K:AV→Bool}(op:UnOp) (x:AV) (k:bUn op x K=true):pUn op x (fun r=>K r=true):=by
 unfold bUn at k
 unfold pUn
 (repeat' split at k)<;>first|(cases k;done)|exact k|(simp only[Bool.and_eq_true,decide_eq_true_eq]at k;exact k)|(rw[if_pos ‹_›];exact k)|(rw[if_neg ‹_›];exact k)|(simp only[*,↓reduceIte,Bool.false_eq_true];done)|(simp_all;done)
theorem Qp {K:AV→Bool}(x:AV) (k:Ma x K=true):lV x (fun r=>K r=true):=by
 unfold Ma at k
 unfold lV
 (repeat' split at k)<;>first|(cases k;done)|exact k|(simp only[Bool.and_eq_true,decide_eq_true_eq]at k;exact k)|(rw[if_pos ‹_›];exact k)|(rw[if_neg ‹_›];exact k)|(simp only[*,↓reduceIte,Bool.false_eq_true];done)|(simp_all;done)
theorem Z0 {K:AV→Bool}(v:AV) (k:abl v K=true):IR v (fun r=>K r=true):=by
 unfold abl at k
 unfold IR
 (repeat' split at k)<;>first|(cases k;done)|exact k|(simp only[Bool.and_eq_true,decide_eq_true_eq]at k;exact k)|(rw[if_pos ‹_›];exact k)|(rw[if_neg ‹_›];exact k)|(simp only[*,↓reduceIte,Bool.false_eq_true];done)|(simp_all;done)
theorem U6 {K:AV→Bool}(off n:Nat) (v:AV) (k:Sh off n v K=true):qU off n v (fun r=>K r=true):=by
 unfold Sh at k
 unfold qU
 (repeat' split at k)<;>first|(cases k;done)|exact k|(simp only[Bool.and_eq_true,decide_eq_true_eq]at k;exact k)|(rw[if_pos ‹_›];exact k)|(rw[if_neg ‹_›];exact k)|(simp only[*,↓reduceIte,Bool.false_eq_true];done)|(simp_all;done)
theorem Vg {K:AV→Bool}(off:Nat) (v:AV) (k:RD off v K=true):qx off v (fun r=>K r=true):=by
 unfold RD at k
 unfold qx
 (repeat' split at k)<;>first|(cases k;done)|exact k|(simp only[Bool.and_eq_true,decide_eq_true_eq]at k;exact k)|(rw[if_pos ‹_›];exact k)|(rw[if_neg ‹_›];exact k)|(simp only[*,↓reduceIte,Bool.false_eq_true];done)|(simp_all;done)
theorem yd {K:AV→Bool}(len size:Nat) (v i:AV) (k:rN len size v i K=true):cR len size v i (fun r=>K r=true):=by
 unfold rN at k
 unfold cR
 (repeat' split at k)<;>first|(cases k;done)|exact k|(simp only[Bool.and_eq_true,decide_eq_true_eq]at k;exact k)|(rw[if_pos ‹_›];exact k)|(rw[if_neg ‹_›];exact k)|(simp only[*,↓reduceIte,Bool.false_eq_true];done)|(simp_all;done)
theorem RJ {K:AV→Bool}(size:Nat) (v:AV) (lo hi:Option AV) (k:MR size v lo hi K=true):ij size v lo hi (fun r=>K r=true):=by
 unfold MR at k
 unfold ij
 (repeat' split at k)<;>first|(cases k;done)|exact k|(simp only[Bool.and_eq_true,decide_eq_true_eq]at k;exact k)|(rw[if_pos ‹_›];exact k)|(rw[if_neg ‹_›];exact k)|(simp only[*,↓reduceIte,Bool.false_eq_true];done)|(simp_all;done)
theorem Qt {K:AV→Bool}(v:AV) (k:Lg v K=true):ma v (fun r=>K r=true):=by
 unfold Lg at k
 unfold ma
 (repeat' split at k)<;>first|(cases k;done)|exact k|(simp only[Bool.and_eq_true,decide_eq_true_eq]at k;exact k)|(rw[if_pos ‹_›];exact k)|(rw[if_neg ‹_›];exact k)|(simp only[*,↓reduceIte,Bool.false_eq_true];done)|(simp_all;done)
theorem Pf {K:AV→Bool}(i:Nat) (v:AV) (k:GK i v K=true):iA i v (fun r=>K r=true):=by
 unfold GK at k
 unfold iA
 (repeat' split at k)<;>first|(cases k;done)|exact k|(simp only[Bool.and_eq_true,decide_eq_true_eq]at k;exact k)|(rw[if_pos ‹_›];exact k)|(rw[if_neg ‹_›];exact k)|(simp only[*,↓reduceIte,Bool.false_eq_true];done)|(simp_all;done)
theorem TX {K:AV→Bool}(t:TypeId) (v:AV) (k:Sd t v K=true):CO t v (fun r=>K r=true):=by
 unfold Sd at k
 unfold CO
 (repeat' split at k)<;>first|(cases k;done)|exact k|(simp only[Bool.and_eq_true,decide_eq_true_eq]at k;exact k)|(rw[if_pos ‹_›];exact k)|(rw[if_neg ‹_›];exact k)|(simp only[*,↓reduceIte,Bool.false_eq_true];done)|(simp_all;done)
theorem Vd {K:AV→Bool}(zs:List AV) (ps:List (Nat×Nat×AV)) (k:QV zs ps K=true):pa zs ps (fun r=>K r=true):=by
 unfold QV at k
 unfold pa
 (repeat' split at k)<;>first|(cases k;done)|exact k|(simp only[Bool.and_eq_true,decide_eq_true_eq]at k;exact k)|(rw[if_pos ‹_›];exact k)|(rw[if_neg ‹_›];exact k)|(simp only[*,↓reduceIte,Bool.false_eq_true];done)|(simp_all;done)
theorem Gm {K:AV→Bool}(n size:Nat) (vs:List AV) (k:xU n size vs K=true):g9 n size vs (fun r=>K r=true):=by
 unfold xU at k
 unfold g9
 (repeat' split at k)<;>first|(cases k;done)|exact k|(simp only[Bool.and_eq_true,decide_eq_true_eq]at k;exact k)|(rw[if_pos ‹_›];exact k)|(rw[if_neg ‹_›];exact k)|(simp only[*,↓reduceIte,Bool.false_eq_true];done)|(simp_all;done)
theorem Q7 {K:AV→Bool}(op:BinOp) (x:AV) (k:KZ op x K=true):lR op x (fun r=>K r=true):=by
 unfold KZ at k
 unfold lR
 (repeat' split at k)<;>first|(cases k;done)|exact k|(simp only[Bool.and_eq_true,decide_eq_true_eq]at k;exact k)|(rw[if_pos ‹_›];exact k)|(rw[if_neg ‹_›];exact k)|(simp only[*,↓reduceIte,Bool.false_eq_true];done)|(simp_all;done)
theorem RH {K:AV→Bool}(op:BinOp) (x:AV) (k:Mc op x K=true):lY op x (fun r=>K r=true):=by
 unfold Mc at k
 unfold lY
 (repeat' split at k)<;>first|(cases k;done)|exact k|(simp only[Bool.and_eq_true,decide_eq_true_eq]at k;exact k)|(rw[if_pos ‹_›];exact k)|(rw[if_neg ‹_›];exact k)|(simp only[*,↓reduceIte,Bool.false_eq_true];done)|(simp_all;done)
theorem QA {K:AV→Bool}(op:BinOp) (x:AV) (k:KR op x K=true):mR op x (fun r=>K r=true):=by
 unfold KR at k
 unfold mR
 (repeat' split at k)<;>first|(cases k;done)|exact k|(simp only[Bool.and_eq_true,decide_eq_true_eq]at k;exact k)|(rw[if_pos ‹_›];exact k)|(rw[if_neg ‹_›];exact k)|(simp only[*,↓reduceIte,Bool.false_eq_true];done)|(simp_all;done)
theorem Q4 {K:AV→Bool}(op:BinOp) (x:AV) (k:Mm op x K=true):od op x (fun r=>K r=true):=by
 unfold Mm at k
 unfold od
 split at k
 ·exact rJ _ _ k
 ·split at k
  ·rename_i h0;simp only[if_pos h0];simp only[Bool.and_eq_true]at k;exact⟨rJ _ _ k.1,rJ _ _ k.2⟩
  ·rename_i h0;simp only[if_neg h0];exact rJ _ _ k
 ·split at k
  ·rename_i h0;simp only[if_pos h0];simp only[Bool.and_eq_true]at k;exact⟨rJ _ _ k.1,rJ _ _ k.2⟩
  ·rename_i h0;simp only[if_neg h0];exact rJ _ _ k
 ·cases k
theorem aag {K:AV→Bool}(op:BinOp) (ds:List TypeDesc) (x y:AV) (k:abh op ds x y K=true):GB op ds x y (fun r=>K r=true):=by
 unfold abh at k
 unfold GB
 split at k
 ·split at k
  ·rename_i hm;simp only[hm];exact rJ _ _ k
  ·cases k
 ·cases k
theorem XQ {K:AV→Bool}(v:AV) (k:X8 v K=true):zD v (fun r=>K r=true):=by
 unfold X8 at k
 unfold zD
 (repeat' split at k)<;>first|(cases k;done)|exact k|(simp only[Bool.and_eq_true,decide_eq_true_eq]at k;exact k)|(rw[if_pos ‹_›];exact k)|(rw[if_neg ‹_›];exact k)|(simp only[*,↓reduceIte,Bool.false_eq_true];done)|(simp_all;done)
theorem ZA {K:AV→Bool}(x y:AV) (k:abv x y K=true):EV x y (fun r=>K r=true):=by
 unfold abv at k
 unfold EV
 (repeat' split at k)<;>first|(cases k;done)|exact k|(simp only[Bool.and_eq_true,decide_eq_true_eq]at k;exact k)|(rw[if_pos ‹_›];exact k)|(rw[if_neg ‹_›];exact k)|(simp only[*,↓reduceIte,Bool.false_eq_true];done)|(simp_all;done)
theorem aap {K:AV→Bool}(x y:AV) (k:aa7 x y K=true):Et x y (fun r=>K r=true):=by
 unfold aa7 at k
 unfold Et
 (repeat' split at k)<;>first|(cases k;done)|exact k|(simp only[Bool.and_eq_true,decide_eq_true_eq]at k;exact k)|(rw[if_pos ‹_›];exact k)|(rw[if_neg ‹_›];exact k)|(simp only[*,↓reduceIte,Bool.false_eq_true];done)|(simp_all;done)
end
section
noncomputable section
def bI (c t e:Bool):Bool:=@Bool.casesOn (fun _=>Bool) c e t
theorem Km (c t e:Bool):bI c t e=true↔(c=true∧t=true)∨(c=false∧e=true):=by cases c<;>simp[bI]
def bA (c t:Bool):Bool:=@Bool.casesOn (fun _=>Bool) c false t
theorem cG (c t:Bool):bA c t=true↔c=true∧t=true:=by cases c<;>simp[bA]
def fN (m:Nat) (K:Nat→Bool):Bool:=@Nat.casesOn (fun _=>Bool) m (K 0) (fun m=>K (Nat.succ m))
theorem jD (m:Nat) (K:Nat→Bool):fN m K=K m:=by cases m<;>rfl
def fI (n:Int) (K:Int→Bool):Bool:=@Int.casesOn (fun _=>Bool) n (fun m=>fN m fun m=>K (.ofNat m)) (fun m=>fN m fun m=>K (.negSucc m))
theorem M0 (n:Int) (K:Int→Bool):fI n K=K n:=by cases n<;>simp[fI,jD]
def fB (b:Bool) (K:Bool→Bool):Bool:=@Bool.casesOn (fun _=>Bool) b (K false) (K true)
theorem Su (b:Bool) (K:Bool→Bool):fB b K=K b:=by cases b<;>rfl
theorem nbF {a b:Nat}(h:¬ a=b):Nat.beq a b=false:=by
 cases e:Nat.beq a b
 ·rfl
 ·exact (h (Nat.eq_of_beq_eq_true e)).elim
inductive Tr (α:Type) where
 | leaf
 | node (l:Tr α) (v:Option α) (r:Tr α)
namespace Tr
variable {α:Type}
def ack:Tr α→Nat→Option α
 | .leaf,_=>none
 | .node l v r,i=>if i=0 then v else if i%2=1 then ack l (i / 2) else ack r (i / 2-1)
def Xq (x:α):Nat→Nat→Tr α
 | 0,_=>.leaf
 | f+1,i=>if i=0 then .node .leaf (some x) .leaf else if i%2=1 then .node (Xq x f (i / 2)) none .leaf else .node .leaf none (Xq x f (i / 2-1))
def abT (t:Tr α) (x:α) (i:Nat):Tr α:=match t with
 | .leaf=>Xq x (i+1) i
 | .node l v r=>if i=0 then .node l (some x) r else if i%2=1 then .node (abT l x (i / 2)) v r else .node l v (abT r x (i / 2-1))
def get (t:Tr α):Nat→Option α:=
 @Tr.rec α (fun _=>Nat→Option α) (fun _=>none) (fun _ v _ gl gr i=>@Bool.rec (fun _=>Option α) (@Bool.rec (fun _=>Option α) (gr (Nat.sub (Nat.div i 2) 1)) (gl (Nat.div i 2)) (Nat.beq (Nat.mod i 2) 1)) v (Nat.beq i 0)) t
def Nf (x:α):Nat→Nat→Tr α:=
 fun f=>@Nat.rec (fun _=>Nat→Tr α) (fun _=>.leaf) (fun _ ih i=>@Bool.rec (fun _=>Tr α) (@Bool.rec (fun _=>Tr α) (.node .leaf none (ih (Nat.sub (Nat.div i 2) 1))) (.node (ih (Nat.div i 2)) none .leaf) (Nat.beq (Nat.mod i 2) 1)) (.node .leaf (some x) .leaf) (Nat.beq i 0)) f
def set (t:Tr α) (x:α):Nat→Tr α:=
 @Tr.rec α (fun _=>Nat→Tr α) (fun i=>Nf x (Nat.succ i) i) (fun l v r sl sr i=>@Bool.rec (fun _=>Tr α) (@Bool.rec (fun _=>Tr α) (.node l v (sr (Nat.sub (Nat.div i 2) 1))) (.node (sl (Nat.div i 2)) v r) (Nat.beq (Nat.mod i 2) 1)) (.node l (some x) r) (Nat.beq i 0)) t
theorem HG (i:Nat):(Tr.leaf:Tr α).get i=none:=rfl
theorem qn (l:Tr α) (v:Option α) (r:Tr α) (i:Nat):(Tr.node l v r).get i=if i=0 then v else if i%2=1 then l.get (i / 2) else r.get (i / 2-1):=by
 show @Bool.rec (fun _=>Option α) (@Bool.rec (fun _=>Option α) (r.get (i / 2-1)) (l.get (i / 2)) (Nat.beq (i%2) 1)) v (Nat.beq i 0)=_
 by_cases h0:i=0
 ·subst h0;rfl
 ·have:Nat.beq i 0=false:=nbF h0
  rw[this,if_neg h0]
  by_cases h1:i%2=1
  ·have:Nat.beq (i%2) 1=true:=Nat.beq_eq.mpr h1
   rw[this,if_pos h1]
  ·have:Nat.beq (i%2) 1=false:=nbF h1
   rw[this,if_neg h1]
theorem VG (x:α) (f i:Nat):Nf x (f+1) i=if i=0 then .node .leaf (some x) .leaf else if i%2=1 then .node (Nf x f (i / 2)) none .leaf else .node .leaf none (Nf x f (i / 2-1)):=by
 show @Bool.rec (fun _=>Tr α) (@Bool.rec (fun _=>Tr α) (.node .leaf none (Nf x f (i / 2-1))) (.node (Nf x f (i / 2)) none .leaf) (Nat.beq (i%2) 1)) (.node .leaf (some x) .leaf) (Nat.beq i 0)=_
 by_cases h0:i=0
 ·subst h0;rfl
 ·have:Nat.beq i 0=false:=nbF h0
  rw[this,if_neg h0]
  by_cases h1:i%2=1
  ·have:Nat.beq (i%2) 1=true:=Nat.beq_eq.mpr h1
   rw[this,if_pos h1]
  ·have:Nat.beq (i%2) 1=false:=nbF h1
   rw[this,if_neg h1]
theorem Xv (x:α) (i:Nat):(Tr.leaf:Tr α).set x i=Nf x (i+1) i:=rfl
theorem VV (l:Tr α) (v:Option α) (r:Tr α) (x:α) (i:Nat):(Tr.node l v r).set x i=if i=0 then .node l (some x) r else if i%2=1 then .node (l.set x (i / 2)) v r else .node l v (r.set x (i / 2-1)):=by
 show @Bool.rec (fun _=>Tr α) (@Bool.rec (fun _=>Tr α) (.node l v (r.set x (i / 2-1))) (.node (l.set x (i / 2)) v r) (Nat.beq (i%2) 1)) (.node l (some x) r) (Nat.beq i 0)=_
 by_cases h0:i=0
 ·subst h0;rfl
 ·have:Nat.beq i 0=false:=nbF h0
  rw[this,if_neg h0]
  by_cases h1:i%2=1
  ·have:Nat.beq (i%2) 1=true:=Nat.beq_eq.mpr h1
   rw[this,if_pos h1]
  ·have:Nat.beq (i%2) 1=false:=nbF h1
   rw[this,if_neg h1]
theorem FU (x:α):∀ (f i j:Nat),i<f→(Nf x f i).get j=if j=i then some x else none
 | 0,i,j,h=>by omega
 | f+1,i,j,h=>by
   rw[VG]
   by_cases h0:i=0
   ·rw[if_pos h0,qn]
    subst h0
    split
    ·rfl
    ·split<;>rfl
   ·rw[if_neg h0]
    by_cases h1:i%2=1
    ·rw[if_pos h1,qn]
     by_cases hj:j=0
     ·rw[if_pos hj,if_neg (by omega)]
     ·rw[if_neg hj]
      by_cases hj1:j%2=1
      ·rw[if_pos hj1,FU x f (i / 2) (j / 2) (by omega)]
       by_cases e:j / 2=i / 2
       ·rw[if_pos e,if_pos (by omega)]
       ·rw[if_neg e,if_neg (fun h=>e (by rw[h]))]
      ·rw[if_neg hj1,HG,if_neg (fun h=>by subst h;omega)]
    ·rw[if_neg h1,qn]
     by_cases hj:j=0
     ·rw[if_pos hj,if_neg (by omega)]
     ·rw[if_neg hj]
      by_cases hj1:j%2=1
      ·rw[if_pos hj1,HG,if_neg (fun h=>by subst h;omega)]
      ·rw[if_neg hj1,FU x f (i / 2-1) (j / 2-1) (by omega)]
       by_cases e:j / 2-1=i / 2-1
       ·rw[if_pos e,if_pos (by omega)]
       ·rw[if_neg e,if_neg (fun h=>e (by rw[h]))]
theorem get_set (x:α):∀ (t:Tr α) (i j:Nat),(t.set x i).get j=if j=i then some x else t.get j
 | .leaf,i,j=>by rw[Xv,FU x _ _ _ (Nat.lt_succ_self _),HG]
 | .node l v r,i,j=>by
   rw[VV,qn]
   by_cases h0:i=0
   ·subst h0
    rw[if_pos rfl,qn]
    by_cases hj:j=0
    ·rw[if_pos hj,if_pos hj]
    ·rw[if_neg hj,if_neg hj,if_neg hj]
   ·rw[if_neg h0]
    by_cases h1:i%2=1
    ·rw[if_pos h1,qn]
     by_cases hj:j=0
     ·subst hj;rw[if_pos rfl,if_neg (Ne.symm h0),if_pos rfl]
     ·rw[if_neg hj,if_neg hj]
      by_cases hj1:j%2=1
      ·rw[if_pos hj1,if_pos hj1,get_set x l]
       by_cases e:j / 2=i / 2
       ·rw[if_pos e,if_pos (by omega)]
       ·rw[if_neg e,if_neg (fun h=>e (by rw[h]))]
      ·rw[if_neg hj1,if_neg hj1,if_neg (fun h=>by subst h;omega)]
    ·rw[if_neg h1,qn]
     by_cases hj:j=0
     ·subst hj;rw[if_pos rfl,if_neg (Ne.symm h0),if_pos rfl]
     ·rw[if_neg hj,if_neg hj]
      by_cases hj1:j%2=1
      ·rw[if_pos hj1,if_pos hj1,if_neg (fun h=>by subst h;omega)]
      ·rw[if_neg hj1,if_neg hj1,get_set x r]
       by_cases e:j / 2-1=i / 2-1
       ·rw[if_pos e,if_pos (by omega)]
       ·rw[if_neg e,if_neg (fun h=>e (by rw[h]))]
end Tr
abbrev HT:=Tr AObj
structure HR (t:HT) (n:Nat) (h:ae):Prop where
 len:h.length=n
 at_:∀ i x,t.get i=some x→h[i]?=some x
theorem HR.set {t:HT}{n:Nat}{h:ae}(r:HR t n h) {i:Nat}{o x:AObj}(hi:t.get i=some x):HR (t.set o i) n (h.set i o) where
 len:=by simp[r.len]
 at_:=fun j y hy=>by
  have hl:i<h.length:=(List.getElem?_eq_some_iff.1 (r.at_ i x hi)).1
  rw[Tr.get_set]at hy
  rw[List.getElem?_set]
  by_cases e:j=i
  ·subst e;rw[if_pos rfl]at hy;rw[if_pos rfl,if_pos hl];exact hy
  ·rw[if_neg e]at hy;rw[if_neg (Ne.symm e)];exact r.at_ j y hy
theorem HR.push {t:HT}{n:Nat}{h:ae}(r:HR t n h) (o:AObj):HR (t.set o n) (n+1) (h++[o]) where
 len:=by simp[r.len]
 at_:=fun j y hy=>by
  have hl:=r.len
  rw[Tr.get_set]at hy
  by_cases e:j=n
  ·subst e;rw[if_pos rfl]at hy;rw[List.getElem?_append_right (by omega)];simp[hl];cases hy;rfl
  ·rw[if_neg e]at hy
   have:=r.at_ j y hy
   have hj:j<h.length:=(List.getElem?_eq_some_iff.1 this).1
   rw[List.getElem?_append_left hj];exact this
theorem HR.more {t:HT}{n:Nat}{h:ae}(r:HR t n h) (l:ae):HR t (n+l.length) (h++l) where
 len:=by simp[r.len]
 at_:=fun j y hy=>by
  have:=r.at_ j y hy
  have hj:j<h.length:=(List.getElem?_eq_some_iff.1 this).1
  rw[List.getElem?_append_left hj];exact this
theorem HR.none {n:Nat}{h:ae}(e:h.length=n):HR .leaf n h:=⟨e,fun i x hx=>by cases hx⟩
def KH (K:AV→HT→Nat→Bool) (r:AV) (h:ae):Prop:=∃ t n,HR t n h∧K r t n=true
def KS (K:HT→Nat→Bool) (h:ae):Prop:=∃ t n,HR t n h∧K t n=true
section
variable {t:HT}{n:Nat}{h:ae}
def Tc (t:HT) (m:Nat) (v:AV):Option (List AV):=match v with
 | .ptr i o=>match t.get i with
   | some (.cells cs)=>if o+m≤cs.length then some ((cs.drop o).take m) else none
   | _=>none
 | .cptr cs=>if m≤cs.length then some (cs.take m) else none
 | _=>none
theorem NE (r:HR t n h) {m:Nat}{v:AV}{l:List AV}(e:Tc t m v=some l):rF h m v=some l:=by
 unfold Tc at e
 unfold rF
 split at e
 ·split at e
  ·rename_i hc;simp only[r.at_ _ _ hc];exact e
  ·cases e
 ·exact e
 ·cases e
def Gq (m:Nat) (v:AV) (t:HT) (K:AV→Bool):Bool:=match Tc t m v with|some l=>K (.agg l)|none=>false
def Ic (v:AV) (t:HT) (K:AV→Bool):Bool:=match Tc t 1 v with|some [a]=>K a|_=>false
theorem C2 (r:HR t n h) {m:Nat}{v:AV}{K:AV→Bool}(k:Gq m v t K=true):nM m v h (fun r=>K r=true):=by
 unfold Gq at k
 unfold nM
 split at k
 ·rename_i hl;simp only[NE r hl];exact k
 ·cases k
theorem DD (r:HR t n h) {v:AV}{K:AV→Bool}(k:Ic v t K=true):mc v h (fun r=>K r=true):=by
 unfold Ic at k
 unfold mc
 split at k
 ·rename_i hl;simp only[NE r hl];exact k
 ·cases k
def Y7 (cs:List AV) (t:HT) (n:Nat) (K:AV→HT→Nat→Bool):Bool:=fN n fun n=>K (.ptr n 0) (t.set (.cells cs) n) (n+1)
theorem Sr (r:HR t n h) {cs:List AV}{K:AV→HT→Nat→Bool}(k:Y7 cs t n K=true):XS cs h (KH K):=by
 unfold Y7 at k;rw[jD]at k
 unfold XS
 rw[r.len]
 exact⟨_,_,r.push _,k⟩
def abt (v:AV) (t:HT) (n:Nat) (K:AV→HT→Nat→Bool):Bool:=bI v.isTup false (Y7 v.cells t n K)
theorem ZZ (r:HR t n h) {v:AV}{K:AV→HT→Nat→Bool}(k:abt v t n K=true):aca v h (KH K):=by
 unfold abt at k
 rcases (Km _ _ _).1 k with ⟨_,k⟩|⟨hv,k⟩
 ·cases k
 ·exact⟨hv,Sr r k⟩
def P8 (m:Nat) (v u:AV) (t:HT) (n:Nat) (K:HT→Nat→Bool):Bool:=
 match v with
 | .ptr i o=>(match t.get i with
   | some (.cells cs)=>decide (u.isTup=false∧u.cells.length=m∧u.cells.all AV.one=true∧o+m≤cs.length)&&K (t.set (.cells (splice cs o u.cells)) i) n
   | _=>false)
 | _=>false
theorem VI (r:HR t n h) {m:Nat}{v u:AV}{K:HT→Nat→Bool}(k:P8 m v u t n K=true):ux m v u h (KS K):=by
 unfold P8 at k
 unfold ux
 split at k
 ·rename_i i o
  skip
  split at k
  ·rename_i cs hc
   simp only[r.at_ _ _ hc]
   simp only[Bool.and_eq_true,decide_eq_true_eq]at k
   exact⟨k.1,_,_,r.set hc,k.2⟩
  ·cases k
 ·cases k
def HU (t:HT) (size:Nat) (v:AV):Option (Nat×List AV):=match v with
 | .snap n cs=>if cs.length=n*size then some (n,cs) else none
 | .full n cs=>if cs.length=n*size then some (n,cs) else none
 | .sl i off len sz=>match t.get i with
   | some (.cells cs)=>if sz=size∧off+len*size≤cs.length then some (len,(cs.drop off).take (len*size)) else none
   | _=>none
 | .lit (.string s)=>if size=1 then some (s.size,s.data.toList.map fun b=>.lit (.int .u8 b.toNat)) else none
 | _=>none
theorem CY (r:HR t n h) {m:Nat}{v:AV}{x:Nat×List AV}(e:HU t m v=some x):cr h m v=some x:=by
 unfold HU at e
 unfold cr
 split at e
 ·exact e
 ·exact e
 ·split at e
  ·rename_i hc;simp only[r.at_ _ _ hc];exact e
  ·cases e
 ·exact e
 ·cases e
def Lx (size bytes:Nat) (v x:AV) (t:HT) (n:Nat) (K:AV→HT→Nat→Bool):Bool:=
 match HU t size x with
 | none=>false
 | some (m,xs)=>match v with
   | .full n0 cs=>decide (cs.length=n0*size∧(n0+m)*bytes≤1099511627776)&&(bI (Nat.beq m 0) (K (.full n0 cs) t n) (fN n fun n=>fN (n0+m) fun l=>K (.sl n 0 l size) (t.set (.cells (cs++xs)) n) (n+1)))
   | .sl i off len sz=>(match t.get i with
     | some (.cells cs)=>decide (sz=size∧off+len*size=cs.length∧xs.all AV.one=true∧(len+m)*bytes≤1099511627776)&&fN n fun n=>fN (len+m) fun l=>K (.sl n 0 l size) ((t.set .dead i).set (.cells (cs.drop off++xs)) n) (n+1)
     | _=>false)
   | _=>false
theorem Qo (r:HR t n h) {size bytes:Nat}{v x:AV}{K:AV→HT→Nat→Bool}(k:Lx size bytes v x t n K=true):eb size bytes v x h (KH K):=by
 unfold Lx at k
 unfold eb
 split at k
 ·cases k
 ·rename_i m xs hx
  simp only[CY r hx]
  split at k
  ·simp only[Bool.and_eq_true,decide_eq_true_eq,Km,jD]at k
   refine⟨k.1,?_⟩
   rcases k.2 with ⟨h0,k⟩|⟨h0,k⟩
   ·rw[if_pos (Nat.eq_of_beq_eq_true h0)];exact⟨t,n,r,k⟩
   ·rw[if_neg (fun e=>by rw[Nat.beq_eq.mpr e]at h0;cases h0),r.len];exact⟨_,_,r.push _,k⟩
  ·rename_i i off len sz
   skip
   split at k
   ·rename_i cs hc
    simp only[r.at_ _ _ hc]
    simp only[Bool.and_eq_true,decide_eq_true_eq,jD]at k
    refine⟨k.1,?_⟩
    rw[r.len]
    exact⟨_,_,(r.set hc).push _,k.2⟩
   ·cases k
  ·cases k
def CA (x:AV) (t:HT) (K:AV→Bool):Bool:=
 bA (zq x) (match HU t 1 x with
  | some (_,xs)=>(match yq xs with|some l=>K (S ⟨l.toArray⟩)|none=>false)
  | none=>false)
theorem LN (r:HR t n h) {x:AV}{K:AV→Bool}(k:CA x t K=true):gQ x h (fun r=>K r=true):=by
 unfold CA at k
 unfold gQ
 rw[cG]at k
 rw[if_pos k.1]
 have k:=k.2
 split at k
 ·rename_i hx
  simp only[CY r hx]
  split at k
  ·simp only[*]
  ·cases k
 ·cases k
def CS (x:AV) (t:HT) (n:Nat) (K:AV→HT→Nat→Bool):Bool:=
 match x with
 | .lit (.string s)=>fN n fun n=>fN s.size fun l=>K (.sl n 0 l 1) (t.set (.cells (s.data.toList.map fun b=>.lit (.int .u8 b.toNat))) n) (n+1)
 | _=>false
theorem LD (r:HR t n h) {x:AV}{K:AV→HT→Nat→Bool}(k:CS x t n K=true):jW x h (KH K):=by
 unfold CS at k
 unfold jW
 split at k
 ·simp only[jD]at k
  rw[r.len]
  exact⟨_,_,r.push _,k⟩
 ·cases k
def AH (bytes:Nat) (z l c:AV) (t:HT) (n:Nat) (K:AV→HT→Nat→Bool):Bool:=
 match l,c with
 | .lit (.int _ l),.lit (.int _ c)=>decide (0≤l∧l≤c∧(bytes:Int)*c≤1099511627776∧c≤1099511627776)&&fN n fun n=>fN l.toNat fun l=>K (.sl n 0 l 1) (t.set (.cells (List.replicate c.toNat z)) n) (n+1)
 | _,_=>false
theorem IP (r:HR t n h) {bytes:Nat}{z l c:AV}{K:AV→HT→Nat→Bool}(k:AH bytes z l c t n K=true):ig bytes z l c h (KH K):=by
 unfold AH at k
 unfold ig
 split at k
 ·simp only[jD,Bool.and_eq_true,decide_eq_true_eq]at k
  rw[r.len]
  exact⟨k.1,_,_,r.push _,k.2⟩
 ·cases k
def YJ (v:AV) (t:HT) (K:AV→Bool):Bool:=match v with|.map i=>(match t.get i with|some (.amap es _)=>fN es.length fun l=>K (I l)|_=>false)|_=>false
theorem W6 (r:HR t n h) {v:AV}{K:AV→Bool}(k:YJ v t K=true):y6 v h (fun r=>K r=true):=by
 unfold YJ at k
 unfold y6
 split at k
 ·split at k
  ·rename_i hc
   simp only[jD]at k;simp only[r.at_ _ _ hc];exact k
  ·cases k
 ·cases k
def uEq (a b:UInt8):Bool:=Nat.beq a.toNat b.toNat
theorem Dr (a b:UInt8):uEq a b=(a==b):=by
 rw[Bool.eq_iff_iff,uEq,Nat.beq_eq,beq_iff_eq,UInt8.toNat_inj]
def lEq:List UInt8→List UInt8→Bool
 | [],[]=>true
 | a::l,b::m=>bA (uEq a b) (lEq l m)
 | _,_=>false
theorem Wc:∀ a b:List UInt8,lEq a b=true↔a=b
 | [],[]=>by simp[lEq]
 | [],b::m=>by simp[lEq]
 | a::l,[]=>by simp[lEq]
 | a::l,b::m=>by simp only[lEq,cG,Dr,beq_iff_eq,Wc l m,List.cons.injEq]
def sEq (a b:ByteArray):Bool:=lEq a.data.toList b.data.toList
theorem KC (a b:ByteArray):sEq a b=true↔a=b:=by
 unfold sEq
 rw[Wc]
 constructor
 ·intro h
  rcases a with ⟨⟨a⟩⟩;rcases b with ⟨⟨b⟩⟩
  simp at h;subst h;rfl
 ·rintro rfl;rfl
theorem abI (a b:ByteArray):sEq a b=(a==b):=by
 rw[Bool.eq_iff_iff,KC]
 show a=b↔(a.data==b.data)=true
 rw[beq_iff_eq]
 exact⟨fun h=>by rw[h],fun h=>by cases a;cases b;simp at h;rw[h]⟩
def iEq (a b:Int):Bool:=@Int.casesOn (fun _=>Bool) a (fun m=>@Int.casesOn (fun _=>Bool) b (fun k=>Nat.beq m k) (fun _=>false)) (fun m=>@Int.casesOn (fun _=>Bool) b (fun _=>false) (fun k=>Nat.beq m k))
theorem Tu (a b:Int):iEq a b=true↔a=b:=by
 cases a<;>cases b<;>simp[iEq]
 exact⟨fun h=>by rw[h],fun h=>Int.ofNat.inj h⟩
theorem W9 (a b:Int):iEq a b=(a==b):=by
 rw[Bool.eq_iff_iff,Tu,beq_iff_eq]
def aba:Value→Value→Bool
 | .string a,.string b=>sEq a b
 | .int _ a,.int _ b=>iEq a b
 | _,_=>false
theorem Z5 (a b:Value):aba a b=keq a b:=by
 unfold aba keq
 split<;>simp_all [abI,W9]
def Hz (k:Value):dY→Nat→Option (Nat×Nat×AV)
 | [],_=>none
 | (k',n,v)::r,i=>match aba k k' with
   | true=>some (i,n,v)
   | false=>Hz k r (i+1)
theorem wr (k:Value):∀ (es:dY) (i:Nat),Hz k es i=lN k es i
 | [],_=>rfl
 | (k',n,v)::r,i=>by
   simp only[Hz,lN]
   rw[Z5]
   cases h:keq k k'
   ·simp[wr k r]
   ·simp
def aa5 (k:Value) (v:AV) (clock:Nat) (es:dY):AObj:=
 match Hz k es 0 with
 | some (i,n,_)=>.amap (es.set i (k,n,v)) clock
 | none=>.amap (es++[(k,clock,v)]) (clock+1)
theorem Zs (k:Value) (v:AV) (clock:Nat) (es:dY):aa5 k v clock es=Of k v clock es:=by
 unfold aa5 Of;rw[wr]
 split<;>simp_all
def RU (d:TypeDesc):dY→Bool
 | []=>true
 | e::es=>bA (kOk d e.1) (RU d es)
theorem Cd (d:TypeDesc):∀ es:dY,RU d es=es.all fun e=>kOk d e.1
 | []=>rfl
 | e::es=>by
   simp only[RU,List.all_cons,← Cd d es]
   cases kOk d e.1<;>rfl
def Mx (d:TypeDesc) (ok:Bool) (z x key:AV) (t:HT) (K:AV→Bool):Bool:=
 match key with
 | .lit k=>match x with
   | .lit (.map none)=>bA (kOk d k) (K (if ok then .tup [z,B false] else z))
   | .map i=>match t.get i with
     | some (.amap es _)=>bA (kOk d k) (bA (RU d es) (match Hz k es 0 with
       | some (_,_,v)=>K (if ok then .tup [v,B true] else v)
       | none=>K (if ok then .tup [z,B false] else z)))
     | _=>false
   | _=>false
 | _=>false
theorem QJ (r:HR t n h) {d:TypeDesc}{ok:Bool}{z x key:AV}{K:AV→Bool}(k:Mx d ok z x key t K=true):i5 d ok z x key h (fun r=>K r=true):=by
 unfold Mx at k
 unfold i5
 split at k
 ·split at k
  ·rw[cG]at k;simp only[if_pos k.1];exact k.2
  ·split at k
   ·rename_i hc
    simp only[r.at_ _ _ hc]
    rw[cG,cG,Cd,wr]at k
    rw[if_pos (by simp[k.1,k.2.1])]
    have k:=k.2.2
    split at k<;>simp only[*]
   ·cases k
  ·cases k
 ·cases k
def uC (d:TypeDesc) (x key v:AV) (t:HT) (n:Nat) (K:HT→Nat→Bool):Bool:=
 match key,x with
 | .lit k,.map i=>(match t.get i with
   | some (.amap es clock)=>bA (kOk d k) (bA (RU d es) (K (t.set (aa5 k v clock es) i) n))
   | _=>false)
 | _,_=>false
theorem zG (r:HR t n h) {d:TypeDesc}{x key v:AV}{K:HT→Nat→Bool}(k:uC d x key v t n K=true):fZ d x key v h (KS K):=by
 unfold uC at k
 unfold fZ
 split at k
 ·skip
  split at k
  ·rename_i hc
   simp only[r.at_ _ _ hc]
   rw[cG,cG,Cd,Zs]at k
   rw[if_pos (by simp[k.1,k.2.1])]
   exact⟨_,_,r.set hc,k.2.2⟩
  ·cases k
 ·cases k
def C1 (d:TypeDesc) (z x key:AV) (t:HT) (n:Nat) (K:AV→HT→Nat→Bool):Bool:=
 match key,x with
 | .lit k,.map i=>(match t.get i with
   | some (.amap es clock)=>bA (kOk d k) (bA (RU d es) (match Hz k es 0 with
     | some (_,m,v)=>K (.tup [v,I m]) t n
     | none=>K (.tup [z,I clock]) (t.set (.amap (es++[(k,clock,z)]) (clock+1)) i) n))
   | _=>false)
 | _,_=>false
theorem Lc (r:HR t n h) {d:TypeDesc}{z x key:AV}{K:AV→HT→Nat→Bool}(k:C1 d z x key t n K=true):jO d z x key h (KH K):=by
 unfold C1 at k
 unfold jO
 split at k
 ·skip
  split at k
  ·rename_i hc
   simp only[r.at_ _ _ hc]
   rw[cG,cG,Cd,wr]at k
   rw[if_pos (by simp[k.1,k.2.1])]
   have k:=k.2.2
   split at k
   ·simp only[*];exact⟨_,_,r,k⟩
   ·simp only[*];exact⟨_,_,r.set hc,k⟩
  ·cases k
 ·cases k
def wW (x st v:AV) (t:HT) (n:Nat) (K:HT→Nat→Bool):Bool:=
 match st,x with
 | .lit (.int .i64 m),.map i=>(match t.get i with
   | some (.amap es clock)=>(match uv m es 0 with
     | some (j,k,b)=>K (t.set (.amap (es.set j (k,b,v)) clock) i) n
     | none=>false)
   | _=>false)
 | _,_=>false
theorem Hu (r:HR t n h) {x st v:AV}{K:HT→Nat→Bool}(k:wW x st v t n K=true):fJ x st v h (KS K):=by
 unfold wW at k
 unfold fJ
 split at k
 ·skip
  split at k
  ·rename_i hc
   simp only[r.at_ _ _ hc]
   split at k
   ·simp only[*];exact⟨_,_,r.set hc,k⟩
   ·cases k
  ·cases k
 ·cases k
def Lb (d:TypeDesc) (x key:AV) (t:HT) (n:Nat) (K:HT→Nat→Bool):Bool:=
 match key with
 | .lit k=>match x with
   | .lit (.map none)=>bA (kOk d k) (K t n)
   | .map i=>(match t.get i with
     | some (.amap es clock)=>bA (kOk d k) (bA (RU d es) (match Hz k es 0 with
       | some (j,_,_)=>K (t.set (.amap (es.eraseIdx j) clock) i) n
       | none=>K t n))
     | _=>false)
   | _=>false
 | _=>false
theorem Rv (r:HR t n h) {d:TypeDesc}{x key:AV}{K:HT→Nat→Bool}(k:Lb d x key t n K=true):rx d x key h (KS K):=by
 unfold Lb at k
 unfold rx
 split at k
 ·split at k
  ·rw[cG]at k;simp only[if_pos k.1];exact⟨_,_,r,k.2⟩
  ·skip
   split at k
   ·rename_i hc
    simp only[r.at_ _ _ hc]
    rw[cG,cG,Cd,wr]at k
    rw[if_pos (by simp[k.1,k.2.1])]
    have k:=k.2.2
    split at k
    ·simp only[*];exact⟨_,_,r.set hc,k⟩
    ·simp only[*];exact⟨_,_,r,k⟩
   ·cases k
  ·cases k
 ·cases k
def G9 (t:HT) (n:Nat) (K:AV→HT→Nat→Bool):Bool:=fN n fun n=>K (.map n) (t.set (.amap [] 0) n) (n+1)
theorem Pj (r:HR t n h) {K:AV→HT→Nat→Bool}(k:G9 t n K=true):uk h (KH K):=by
 unfold G9 at k;rw[jD]at k
 unfold uk
 rw[r.len]
 exact⟨_,_,r.push _,k⟩
def L9 (x:AV) (t:HT) (n:Nat) (K:AV→HT→Nat→Bool):Bool:=
 match x with
 | .lit (.string s)=>fN n fun n=>K (.ptr n 0) (t.set (.siter s 0) n) (n+1)
 | _=>false
theorem R4 (r:HR t n h) {x:AV}{K:AV→HT→Nat→Bool}(k:L9 x t n K=true):rp x h (KH K):=by
 unfold L9 at k
 unfold rp
 split at k
 ·rw[jD]at k;rw[r.len];exact⟨_,_,r.push _,k⟩
 ·cases k
def Rn (x:AV) (t:HT) (n:Nat) (K:AV→HT→Nat→Bool):Bool:=
 match x with
 | .ptr i 0=>(match t.get i with
   | some (.siter s pos)=>bI (Nat.blt pos s.size) (K (.tup [B true,I pos,.lit (.int .i32 (Utf8.decode s pos).1)]) (t.set (.siter s (pos+(Utf8.decode s pos).2)) i) n) (K (.tup [B false]) t n)
   | _=>false)
 | _=>false
theorem T5 (r:HR t n h) {x:AV}{K:AV→HT→Nat→Bool}(k:Rn x t n K=true):vm x h (KH K):=by
 unfold Rn at k
 unfold vm
 split at k
 ·skip
  split at k
  ·rename_i hc
   simp only[r.at_ _ _ hc]
   rw[Km]at k
   rcases k with ⟨hp,k⟩|⟨hp,k⟩
   ·rw[if_pos (by rw[Nat.blt_eq]at hp;exact hp)];exact⟨_,_,r.set hc,k⟩
   ·rw[if_neg (fun e=>by rw[← Nat.blt_eq,hp]at e;cases e)];exact⟨_,_,r,k⟩
  ·cases k
 ·cases k
def Li (x:AV) (t:HT) (n:Nat) (K:AV→HT→Nat→Bool):Bool:=
 match x with
 | .lit (.map none)=>fN n fun n=>K (.ptr n 0) (t.set (.miter none 0 [] 0) n) (n+1)
 | .map i=>(match t.get i with
   | some (.amap es clock)=>fN n fun n=>K (.ptr n 0) (t.set (.miter (some i) clock [] clock) n) (n+1)
   | _=>false)
 | _=>false
theorem Sg (r:HR t n h) {x:AV}{K:AV→HT→Nat→Bool}(k:Li x t n K=true):pW x h (KH K):=by
 unfold Li at k
 unfold pW
 split at k
 ·rw[jD]at k;rw[r.len];exact⟨_,_,r.push _,k⟩
 ·skip
  split at k
  ·rename_i hc
   simp only[r.at_ _ _ hc]
   rw[jD]at k;rw[r.len];exact⟨_,_,r.push _,k⟩
  ·cases k
 ·cases k
def RN (x:AV) (t:HT) (n:Nat) (K:AV→HT→Nat→Bool):Bool:=
 match x with
 | .ptr i 0=>(match t.get i with
   | some (.miter none _ _ _)=>K (.tup [B false]) t n
   | some (.miter (some j) since seen last)=>(match t.get j with
     | some (.amap es clock)=>
       decide ((es.all fun e=>e.1.oneCell')=true∧(!seen.isEmpty&&!es.isEmpty&&es.all fun e=>decide (e.2.1≥last))=false)&&
       ((!(es.all fun e=>seen.contains e.2.1||decide (since≤e.2.1))||K (.tup [B false]) t n)&&
       es.all fun e=>seen.contains e.2.1||K (.tup [B true,.lit e.1,e.2.2]) (t.set (.miter (some j) since (seen++[e.2.1]) clock) i) n)
     | _=>false)
   | _=>false)
 | _=>false
theorem Vl (r:HR t n h) {x:AV}{K:AV→HT→Nat→Bool}(k:RN x t n K=true):uQ x h (KH K):=by
 unfold RN at k
 unfold uQ
 split at k
 ·skip
  split at k
  ·rename_i hes;simp only[r.at_ _ _ hes];exact⟨_,_,r,k⟩
  ·rename_i hes
   split at k
   ·rename_i hm
    simp only[r.at_ _ _ hes,r.at_ _ _ hm]
    simp only[Bool.and_eq_true,decide_eq_true_eq,Bool.or_eq_true,Bool.not_eq_true',List.all_eq_true,List.all_eq_false]at k
    obtain⟨k0,k1,k2⟩:=k
    refine⟨⟨List.all_eq_true.2 k0.1,k0.2⟩,fun ha=>?_,fun e he hs=>?_⟩
    ·rcases k1 with ⟨x,hx,hn⟩|k1
     ·exfalso
      rcases ha x hx with h1|h1
      ·exact hn (by simp[h1])
      ·exact hn (by simp[h1])
     ·exact⟨_,_,r,k1⟩
    ·rcases k2 e he with h1|h1
     ·exact (hs (by simpa using h1)).elim
     ·exact⟨_,_,r.set hes,h1⟩
   ·cases k
  ·cases k
 ·cases k
def QH (x:AV) (t:HT) (K:AV→Bool):Bool:=
 match x with
 | .ptr i 0=>(match t.get i with
   | some (.miter (some j) _ seen last)=>(match t.get j,seen.getLast? with
     | some (.amap es clock),some n=>(match oO n es with
       | some (k,v)=>bA (k.oneCell'&&clock==last) (K (.tup [.lit k,v]))
       | none=>false)
     | _,_=>false)
   | _=>false)
 | _=>false
theorem Uc (r:HR t n h) {x:AV}{K:AV→Bool}(k:QH x t K=true):o8 x h (fun r=>K r=true):=by
 unfold QH at k
 unfold o8
 split at k
 ·split at k
  ·rename_i hc
   simp only[r.at_ _ _ hc]
   split at k
   ·rename_i h1 h2
    simp only[r.at_ _ _ h1,h2]
    split at k
    ·rw[cG]at k;simp only[*,if_true]
    ·cases k
   ·cases k
  ·cases k
 ·cases k
end
end
end
section
noncomputable section
def kNo (k:IntKind):Nat:=match k with|.i8=>0|.i16=>1|.i32=>2|.i64=>3|.u8=>4|.u16=>5|.u32=>6|.u64=>7
def kEq (j k:IntKind):Bool:=Nat.beq (kNo j) (kNo k)
theorem SA (j k:IntKind):kEq j k=true↔j=k:=by cases j<;>cases k<;>decide
def abw (n:Int):Bool:=@Int.casesOn (fun _=>Bool) n (fun m=>Nat.ble m 9223372036854775807) (fun m=>Nat.ble m 9223372036854775807)
theorem Ug {n:Int}(h:abw n=true):IntKind.i64.wrap n=n:=by
 have hb:-9223372036854775808≤n∧n≤9223372036854775807:=by
  cases n with
  | ofNat m=>have:m≤9223372036854775807:=Nat.le_of_ble_eq_true h;constructor<;>simp<;>omega
  | negSucc m=>have:m≤9223372036854775807:=Nat.le_of_ble_eq_true h;constructor<;>omega
 exact IntWalk.i64_in _ hb
def wI (k:IntKind) (n:Int) (K:Int→Bool):Bool:=bI (bA (Nat.beq (kNo k) 3) (abw n)) (fI n K) (fI (k.wrap n) K)
theorem aaB (k:IntKind) (n:Int) (K:Int→Bool):wI k n K=K (k.wrap n):=by
 unfold wI
 cases h:bA (Nat.beq (kNo k) 3) (abw n)
 ·simp[bI,M0]
 ·rw[cG]at h
  have hk:k=.i64:=by
   have h1:=Nat.eq_of_beq_eq_true h.1
   cases k<;>simp_all [kNo]
  subst hk
  simp[bI,M0,Ug h.2]
def iLt (a b:Int):Bool:=@Int.casesOn (fun _=>Bool) a (fun m=>@Int.casesOn (fun _=>Bool) b (fun k=>Nat.blt m k) (fun _=>false)) (fun m=>@Int.casesOn (fun _=>Bool) b (fun _=>true) (fun k=>Nat.blt k m))
theorem rI (a b:Nat):Nat.blt a b=true↔a<b:=by simp
theorem SO (a b:Int):iLt a b=true↔a<b:=by
 cases a<;>cases b
 ·exact (rI _ _).trans ⟨fun h=>by simpa using h,fun h=>by simpa using h⟩
 ·exact⟨fun h=>(by cases h),fun h=>by simp at h;omega⟩
 ·exact⟨fun h=>by simp;omega,fun h=>rfl⟩
 ·exact (rI _ _).trans ⟨fun h=>by omega,fun h=>by omega⟩
def fS:List UInt8→(List UInt8→Bool)→Bool
 | [],K=>K []
 | a::l,K=>fS l fun l=>K (a::l)
theorem Yy:∀ (l:List UInt8) (K:List UInt8→Bool),fS l K=K l
 | [],K=>rfl
 | a::l,K=>by simp only[fS,Yy l]
def uLt (a b:UInt8):Bool:=Nat.blt a.toNat b.toNat
def lLt:List UInt8→List UInt8→Bool
 | _,[]=>false
 | [],_::_=>true
 | a::x,b::y=>bI (uLt a b) true (bA (uEq a b) (lLt x y))
theorem Yr:∀ a b:List UInt8,lLt a b=Op.bytesLess a b
 | [],[]=>rfl
 | a::x,[]=>rfl
 | [],b::y=>rfl
 | a::x,b::y=>by
   simp only[lLt,Op.bytesLess,Yr x y,Dr]
   have:uLt a b=decide (a<b):=by
    rw[Bool.eq_iff_iff,uLt,rI,decide_eq_true_eq,UInt8.lt_iff_toNat_lt]
   rw[this]
   cases decide (a<b)<;>cases (a==b)<;>rfl
def oV (o:Option Value) (K:AV→Bool):Bool:=match o with
 | some (.int k r)=>fI r fun r=>K (.lit (.int k r))
 | some (.bool b)=>fB b fun b=>K (.lit (.bool b))
 | some (.float k r)=>fN r fun r=>K (.lit (.float k r))
 | some r=>K (.lit r)
 | none=>false
theorem Xg (o:Option Value) (K:AV→Bool) (h:oV o K=true):∃ r,o=some r∧K (.lit r)=true:=by
 unfold oV at h
 split at h
 ·rw[M0]at h;exact⟨_,rfl,h⟩
 ·rw[Su]at h;exact⟨_,rfl,h⟩
 ·rw[jD]at h;exact⟨_,rfl,h⟩
 ·exact⟨_,rfl,h⟩
 ·cases h
def aa1 (op:BinOp) (k k':IntKind) (a b:Int) (K:AV→Bool):Bool:=
 match op with
 | .add=>bA (kEq k k') (wI k (Int.add a b) fun r=>K (.lit (.int k r)))
 | .sub=>bA (kEq k k') (wI k (Int.sub a b) fun r=>K (.lit (.int k r)))
 | .mul=>bA (kEq k k') (wI k (Int.mul a b) fun r=>K (.lit (.int k r)))
 | .eql=>bA (kEq k k') (fB (iEq a b) fun r=>K (B r))
 | .neq=>bA (kEq k k') (fB (iEq a b) fun r=>K (B !r))
 | .lss=>bA (kEq k k') (fB (iLt a b) fun r=>K (B r))
 | .leq=>bA (kEq k k') (fB (iLt b a) fun r=>K (B !r))
 | .gtr=>bA (kEq k k') (fB (iLt b a) fun r=>K (B r))
 | .geq=>bA (kEq k k') (fB (iLt a b) fun r=>K (B !r))
 | op=>oV (cz op (.int k a) (.int k' b)) K
def abp (op:BinOp) (x y:ByteArray) (K:AV→Bool):Bool:=
 match op with
 | .add=>bA (Nat.ble (Nat.add x.data.toList.length y.data.toList.length) 1099511627776) (fS (x.data.toList++y.data.toList) fun l=>K (S ⟨⟨l⟩⟩))
 | .eql=>fB (sEq x y) fun r=>K (B r)
 | .neq=>fB (sEq x y) fun r=>K (B !r)
 | .lss=>fB (lLt x.data.toList y.data.toList) fun r=>K (B r)
 | .leq=>fB (bI (lLt x.data.toList y.data.toList) true (sEq x y)) fun r=>K (B r)
 | .gtr=>fB (bI (lLt x.data.toList y.data.toList) true (sEq x y)) fun r=>K (B !r)
 | .geq=>fB (lLt x.data.toList y.data.toList) fun r=>K (B !r)
 | _=>false
def Wh (op:BinOp) (x y:AV) (K:AV→Bool):Bool:=
 match x,y with
 | .lit (.int k a),.lit (.int k' b)=>aa1 op k k' a b K
 | .lit (.string a),.lit (.string b)=>abp op a b K
 | .lit a,.lit b=>oV (cz op a b) K
 | _,_=>false
theorem Y8 {op:BinOp}{k k':IntKind}{a b:Int}{K:AV→Bool}(h:aa1 op k k' a b K=true):∃ r,cz op (.int k a) (.int k' b)=some r∧K (.lit r)=true:=by
 unfold aa1 at h
 have h1:decide (b<a)=!decide (a≤b):=by by_cases hh:a≤b<;>simp[hh]<;>omega
 have h2:decide (a<b)=!decide (b≤a):=by by_cases hh:b≤a<;>simp[hh]<;>omega
 have e1:iLt a b=decide (a<b):=by rw[Bool.eq_iff_iff,SO,decide_eq_true_eq]
 have e2:iLt b a=decide (b<a):=by rw[Bool.eq_iff_iff,SO,decide_eq_true_eq]
 split at h
 case h_10=>exact Xg _ _ h
 all_goals
  rw[cG,SA]at h
  obtain⟨rfl,h⟩:=h
  first|rw[aaB]at h|rw[Su]at h
  refine⟨_,by simp only[cz,gL,if_true];rfl,?_⟩
  first
   | exact h
   | (rw[W9]at h;exact h)
   | (rw[e1]at h;exact h)
   | (rw[e2]at h;exact h)
   | (rw[e1,h2,Bool.not_not]at h;exact h)
   | (rw[e2,h1,Bool.not_not]at h;exact h)
theorem aan {op:BinOp}{x y:ByteArray}{K:AV→Bool}(h:abp op x y K=true):∃ r,cz op (.string x) (.string y)=some r∧K (.lit r)=true:=by
 have he:(x.toList==y.toList)=sEq x y:=by
  rw[Bool.eq_iff_iff,KC,beq_iff_eq,ByteArray.toList_eq,ByteArray.toList_eq]
  exact⟨fun h=>by rcases x with ⟨⟨x⟩⟩;rcases y with ⟨⟨y⟩⟩;simp at h;rw[h],fun h=>by rw[h]⟩
 have hl:Op.bytesLess x.toList y.toList=lLt x.data.toList y.data.toList:=by rw[ByteArray.toList_eq,ByteArray.toList_eq,Yr]
 have hor:∀ a b:Bool,bI a true b=(a||b):=fun a b=>by cases a<;>rfl
 have hbl:cz op (.string x) (.string y)=wK op x y:=by cases op<;>rfl
 rw[hbl]
 unfold abp at h
 unfold wK
 simp only[he,hl]
 split at h
 ·rw[cG,Yy]at h
  have hs:=Nat.le_of_ble_eq_true h.1
  have hsz:¬ ((x.size+y.size:Nat):Int) > IntKind.i64.max:=by
   have h1:x.data.toList.length=x.size:=rfl
   have h2:y.data.toList.length=y.size:=rfl
   have h3:Nat.add x.data.toList.length y.data.toList.length=x.size+y.size:=rfl
   rw[h3]at hs
   have:IntKind.i64.max=9223372036854775807:=by decide
   rw[this];omega
  refine⟨_,by rw[if_neg hsz],?_⟩
  have:(x++y:ByteArray)=⟨⟨x.data.toList++y.data.toList⟩⟩:=by
   have:(x++y).data=x.data++y.data:=by simp
   rcases h:x++y with ⟨⟨l⟩⟩
   rw[h]at this
   congr 1
   apply Array.toList_inj.1
   have h2:=congrArg Array.toList this
   simpa using h2
  rw[this]
  exact h.2
 all_goals first
  | cases h;done
  | (rw[Su]at h;exact⟨_,rfl,h⟩)
  | (rw[Su,hor]at h;exact⟨_,rfl,h⟩)
theorem La {op:BinOp}{x y:AV}{K:AV→Bool}(h:Wh op x y K=true):Ez op x y (fun r=>K r=true):=by
 unfold Wh at h
 unfold Ez
 split at h
 ·obtain⟨r,e,k⟩:=Y8 h;simp only[e];exact k
 ·obtain⟨r,e,k⟩:=aan h;simp only[e];exact k
 ·obtain⟨r,e,k⟩:=Xg _ _ h;simp only[e];exact k
 ·cases h
def Mo (kd:FloatKind) (x:AV) (K:AV→Bool):Bool:=match x with|.lit (.int _ n)=>fN (kd.nearest n) fun r=>K (.lit (.float kd r))|_=>false
theorem Ro {kd:FloatKind}{x:AV}{K:AV→Bool}(h:Mo kd x K=true):mU kd x (fun r=>K r=true):=by
 unfold Mo at h
 unfold mU
 split at h
 ·rw[jD]at h;exact h
 ·cases h
def Lm (kd:IntKind) (x:AV) (K:AV→Bool):Bool:=match x with|.lit (.int _ n)=>wI kd n fun r=>K (.lit (.int kd r))|_=>false
theorem Qy {kd:IntKind}{x:AV}{K:AV→Bool}(h:Lm kd x K=true):mN kd x (fun r=>K r=true):=by
 unfold Lm at h
 unfold mN
 split at h
 ·rw[aaB]at h;exact h
 ·cases h
def tUn (op:UnOp) (x:AV) (K:AV→Bool):Bool:=bUn op x fun v=>match v with|.lit r=>oV (some r) K|v=>K v
theorem abg {op:UnOp}{x:AV}{K:AV→Bool}(h:tUn op x K=true):pUn op x (fun r=>K r=true):=by
 have hk:∀ v:AV,(match v with|.lit r=>oV (some r) K|v=>K v)=true→K v=true:=fun v k=>by
  split at k
  ·obtain⟨r',e,k⟩:=Xg _ _ k;cases e;exact k
  ·exact k
 have k:=abe _ _ h
 unfold pUn at k ⊢
 split at k<;>first|exact k.elim|exact hk _ k
def Wj:List UInt8→Nat→Option UInt8
 | [],_=>none
 | b::l,i=>@Nat.casesOn (fun _=>Option UInt8) i (some b) (fun i=>Wj l i)
theorem Tx:∀ (l:List UInt8) (i:Nat),Wj l i=l[i]?
 | [],i=>by simp[Wj]
 | b::l,0=>rfl
 | b::l,i+1=>by show Wj l i=_;rw[Tx l i];simp
def Ld (v i:AV) (K:AV→Bool):Bool:=match v,i with
 | .lit (.string s),.lit (.int _ (.ofNat n))=>(match Wj s.data.toList n with|some b=>fN b.toNat fun c=>K (.lit (.int .u8 (.ofNat c)))|none=>false)
 | _,_=>false
theorem P3 {v i:AV}{K:AV→Bool}(h:Ld v i K=true):k8 v i (fun r=>K r=true):=by
 unfold Ld at h
 unfold k8
 split at h
 ·rename_i s k n
  rw[Tx]at h
  split at h
  ·rename_i b hb
   rw[jD]at h
   have hl:n<s.size:=(List.getElem?_eq_some_iff.1 hb).1
   refine⟨⟨by simp,by simpa using hl⟩,?_⟩
   have:bAt s (Int.ofNat n)=Int.ofNat b.toNat:=by
    unfold bAt
    have:s.data[n]?=some b:=by rw[← Array.getElem?_toList];exact hb
    simp[this]
   rw[this];exact h
  ·cases h
 ·cases h
def ZI (o:Option AV) (d:Nat):Option Nat:=match o with|none=>some d|some (.lit (.int _ (.ofNat n)))=>some n|_=>none
theorem Tg {o:Option AV}{d m:Nat}(h:ZI o d=some m):kU o d=some (m:Int):=by
 unfold ZI at h
 split at h
 ·cases h;rfl
 ·cases h;rfl
 ·cases h
def KT (v:AV) (lo hi:Option AV) (K:AV→Bool):Bool:=
 match v with
 | .lit (.string s)=>(match ZI lo 0,ZI hi s.data.toList.length with
   | some l,some h=>bA (Nat.ble l h) (bA (Nat.ble h s.data.toList.length) (fS ((s.data.toList.drop l).take (Nat.sub h l)) fun r=>K (S ⟨⟨r⟩⟩)))
   | _,_=>false)
 | _=>false
theorem Qq (s:ByteArray) (l h:Nat):s.extract l h=⟨⟨(s.data.toList.drop l).take (h-l)⟩⟩:=by
 have h1:(s.extract l h).data=s.data.extract l h:=by simp
 rcases he:s.extract l h with ⟨d⟩
 rw[he]at h1
 congr 1
 apply Array.toList_inj.1
 have h2:=congrArg Array.toList h1
 simpa [Array.toList_extract,List.extract_eq_take_drop] using h2
theorem Qx {v:AV}{lo hi:Option AV}{K:AV→Bool}(k:KT v lo hi K=true):iX v lo hi (fun r=>K r=true):=by
 unfold KT at k
 unfold iX
 split at k
 ·rename_i s
  split at k
  ·rename_i l h h1 h2
   rw[cG,cG,Yy]at k
   have a1:=Nat.le_of_ble_eq_true k.1
   have a2:=Nat.le_of_ble_eq_true k.2.1
   have h2':kU hi s.size=some (h:Int):=Tg h2
   have h1':kU lo 0=some (l:Int):=Tg h1
   simp only[h1',h2']
   have hz:s.data.toList.length=s.size:=rfl
   rw[hz]at a2
   refine⟨⟨by omega,by omega,by omega⟩,?_⟩
   simp only[Int.toNat_natCast]
   rw[Qq]
   exact k.2.2
  ·cases k
 ·cases k
def XH (v:AV) (K:AV→Bool):Bool:=match v with|.lit (.string s)=>fN s.data.toList.length fun n=>K (I (.ofNat n))|_=>false
theorem VS {v:AV}{K:AV→Bool}(h:XH v K=true):zC v (fun r=>K r=true):=by
 unfold XH at h
 unfold zC
 split at h
 ·rw[jD]at h;exact h
 ·cases h
def Aa (off:Nat) (v:AV) (K:AV→Bool):Bool:=match v with|.ptr i o=>fN (Nat.add o off) fun o=>K (.ptr i o)|.cptr cs=>K (.cptr (cs.drop off))|_=>false
theorem IQ {off:Nat}{v:AV}{K:AV→Bool}(h:Aa off v K=true):eZ off v (fun r=>K r=true):=by
 unfold Aa at h
 unfold eZ
 split at h
 ·rw[jD]at h;exact h
 ·exact h
 ·cases h
def Ap (size:Nat) (v i:AV) (K:AV→Bool):Bool:=
 match i with
 | .lit (.int _ (.ofNat n))=>match v with
   | .sl j off len sz=>bA (Nat.blt n len) (bA (Nat.beq sz size) (fN (Nat.add off (Nat.mul n size)) fun o=>K (.ptr j o)))
   | .snap m cs=>bA (Nat.blt n m) (K (.cptr (cs.drop (Nat.mul n size))))
   | .full m cs=>bA (Nat.blt n m) (K (.cptr (cs.drop (Nat.mul n size))))
   | _=>false
 | _=>false
theorem Ih {size:Nat}{v i:AV}{K:AV→Bool}(h:Ap size v i K=true):dp size v i (fun r=>K r=true):=by
 unfold Ap at h
 unfold dp
 split at h
 ·rename_i k n
  simp only[asI]
  split at h
  ·rw[cG,cG,jD,rI]at h
   exact⟨⟨by simp,by simpa using h.1,Nat.eq_of_beq_eq_true h.2.1⟩,h.2.2⟩
  ·rw[cG,rI]at h
   exact⟨⟨by simp,by simpa using h.1⟩,h.2⟩
  ·rw[cG,rI]at h
   exact⟨⟨by simp,by simpa using h.1⟩,h.2⟩
  ·cases h
 ·cases h
end
end
section
noncomputable section
structure V16 where
 (a0 a1 a2 a3 a4 a5 a6 a7 a8 a9 a10 a11 a12 a13 a14 a15:Option AV)
structure E16 where
 (b0 b1 b2 b3 b4 b5 b6 b7 b8 b9 b10 b11 b12 b13 b14 b15:V16)
structure JB where
 g:V16→Option AV
 s:V16→AV→V16
structure abU where
 g:E16→Option AV
 s:E16→AV→E16
def v0:V16:=⟨none,none,none,none,none,none,none,none,none,none,none,none,none,none,none,none⟩
def ee0:E16:=⟨v0,v0,v0,v0,v0,v0,v0,v0,v0,v0,v0,v0,v0,v0,v0,v0⟩
def J9 (i:Nat):JB:=match i with
 | 0=>⟨fun v=>v.a0,fun v x=>match v with|⟨a0,a1,a2,a3,a4,a5,a6,a7,a8,a9,a10,a11,a12,a13,a14,a15⟩=>⟨some x,a1,a2,a3,a4,a5,a6,a7,a8,a9,a10,a11,a12,a13,a14,a15⟩⟩
 | 1=>⟨fun v=>v.a1,fun v x=>match v with|⟨a0,a1,a2,a3,a4,a5,a6,a7,a8,a9,a10,a11,a12,a13,a14,a15⟩=>⟨a0,some x,a2,a3,a4,a5,a6,a7,a8,a9,a10,a11,a12,a13,a14,a15⟩⟩
 | 2=>⟨fun v=>v.a2,fun v x=>match v with|⟨a0,a1,a2,a3,a4,a5,a6,a7,a8,a9,a10,a11,a12,a13,a14,a15⟩=>⟨a0,a1,some x,a3,a4,a5,a6,a7,a8,a9,a10,a11,a12,a13,a14,a15⟩⟩
 | 3=>⟨fun v=>v.a3,fun v x=>match v with|⟨a0,a1,a2,a3,a4,a5,a6,a7,a8,a9,a10,a11,a12,a13,a14,a15⟩=>⟨a0,a1,a2,some x,a4,a5,a6,a7,a8,a9,a10,a11,a12,a13,a14,a15⟩⟩
 | 4=>⟨fun v=>v.a4,fun v x=>match v with|⟨a0,a1,a2,a3,a4,a5,a6,a7,a8,a9,a10,a11,a12,a13,a14,a15⟩=>⟨a0,a1,a2,a3,some x,a5,a6,a7,a8,a9,a10,a11,a12,a13,a14,a15⟩⟩
 | 5=>⟨fun v=>v.a5,fun v x=>match v with|⟨a0,a1,a2,a3,a4,a5,a6,a7,a8,a9,a10,a11,a12,a13,a14,a15⟩=>⟨a0,a1,a2,a3,a4,some x,a6,a7,a8,a9,a10,a11,a12,a13,a14,a15⟩⟩
 | 6=>⟨fun v=>v.a6,fun v x=>match v with|⟨a0,a1,a2,a3,a4,a5,a6,a7,a8,a9,a10,a11,a12,a13,a14,a15⟩=>⟨a0,a1,a2,a3,a4,a5,some x,a7,a8,a9,a10,a11,a12,a13,a14,a15⟩⟩
 | 7=>⟨fun v=>v.a7,fun v x=>match v with|⟨a0,a1,a2,a3,a4,a5,a6,a7,a8,a9,a10,a11,a12,a13,a14,a15⟩=>⟨a0,a1,a2,a3,a4,a5,a6,some x,a8,a9,a10,a11,a12,a13,a14,a15⟩⟩
 | 8=>⟨fun v=>v.a8,fun v x=>match v with|⟨a0,a1,a2,a3,a4,a5,a6,a7,a8,a9,a10,a11,a12,a13,a14,a15⟩=>⟨a0,a1,a2,a3,a4,a5,a6,a7,some x,a9,a10,a11,a12,a13,a14,a15⟩⟩
 | 9=>⟨fun v=>v.a9,fun v x=>match v with|⟨a0,a1,a2,a3,a4,a5,a6,a7,a8,a9,a10,a11,a12,a13,a14,a15⟩=>⟨a0,a1,a2,a3,a4,a5,a6,a7,a8,some x,a10,a11,a12,a13,a14,a15⟩⟩
 | 10=>⟨fun v=>v.a10,fun v x=>match v with|⟨a0,a1,a2,a3,a4,a5,a6,a7,a8,a9,a10,a11,a12,a13,a14,a15⟩=>⟨a0,a1,a2,a3,a4,a5,a6,a7,a8,a9,some x,a11,a12,a13,a14,a15⟩⟩
 | 11=>⟨fun v=>v.a11,fun v x=>match v with|⟨a0,a1,a2,a3,a4,a5,a6,a7,a8,a9,a10,a11,a12,a13,a14,a15⟩=>⟨a0,a1,a2,a3,a4,a5,a6,a7,a8,a9,a10,some x,a12,a13,a14,a15⟩⟩
 | 12=>⟨fun v=>v.a12,fun v x=>match v with|⟨a0,a1,a2,a3,a4,a5,a6,a7,a8,a9,a10,a11,a12,a13,a14,a15⟩=>⟨a0,a1,a2,a3,a4,a5,a6,a7,a8,a9,a10,a11,some x,a13,a14,a15⟩⟩
 | 13=>⟨fun v=>v.a13,fun v x=>match v with|⟨a0,a1,a2,a3,a4,a5,a6,a7,a8,a9,a10,a11,a12,a13,a14,a15⟩=>⟨a0,a1,a2,a3,a4,a5,a6,a7,a8,a9,a10,a11,a12,some x,a14,a15⟩⟩
 | 14=>⟨fun v=>v.a14,fun v x=>match v with|⟨a0,a1,a2,a3,a4,a5,a6,a7,a8,a9,a10,a11,a12,a13,a14,a15⟩=>⟨a0,a1,a2,a3,a4,a5,a6,a7,a8,a9,a10,a11,a12,a13,some x,a15⟩⟩
 | 15=>⟨fun v=>v.a15,fun v x=>match v with|⟨a0,a1,a2,a3,a4,a5,a6,a7,a8,a9,a10,a11,a12,a13,a14,a15⟩=>⟨a0,a1,a2,a3,a4,a5,a6,a7,a8,a9,a10,a11,a12,a13,a14,some x⟩⟩
 | _=>⟨fun _=>none,fun v _=>v⟩
def I7 (j:Nat) (l:JB):abU:=match j with
 | 0=>⟨fun e=>l.g e.b0,fun e x=>match e with|⟨b0,b1,b2,b3,b4,b5,b6,b7,b8,b9,b10,b11,b12,b13,b14,b15⟩=>⟨l.s b0 x,b1,b2,b3,b4,b5,b6,b7,b8,b9,b10,b11,b12,b13,b14,b15⟩⟩
 | 1=>⟨fun e=>l.g e.b1,fun e x=>match e with|⟨b0,b1,b2,b3,b4,b5,b6,b7,b8,b9,b10,b11,b12,b13,b14,b15⟩=>⟨b0,l.s b1 x,b2,b3,b4,b5,b6,b7,b8,b9,b10,b11,b12,b13,b14,b15⟩⟩
 | 2=>⟨fun e=>l.g e.b2,fun e x=>match e with|⟨b0,b1,b2,b3,b4,b5,b6,b7,b8,b9,b10,b11,b12,b13,b14,b15⟩=>⟨b0,b1,l.s b2 x,b3,b4,b5,b6,b7,b8,b9,b10,b11,b12,b13,b14,b15⟩⟩
 | 3=>⟨fun e=>l.g e.b3,fun e x=>match e with|⟨b0,b1,b2,b3,b4,b5,b6,b7,b8,b9,b10,b11,b12,b13,b14,b15⟩=>⟨b0,b1,b2,l.s b3 x,b4,b5,b6,b7,b8,b9,b10,b11,b12,b13,b14,b15⟩⟩
 | 4=>⟨fun e=>l.g e.b4,fun e x=>match e with|⟨b0,b1,b2,b3,b4,b5,b6,b7,b8,b9,b10,b11,b12,b13,b14,b15⟩=>⟨b0,b1,b2,b3,l.s b4 x,b5,b6,b7,b8,b9,b10,b11,b12,b13,b14,b15⟩⟩
 | 5=>⟨fun e=>l.g e.b5,fun e x=>match e with|⟨b0,b1,b2,b3,b4,b5,b6,b7,b8,b9,b10,b11,b12,b13,b14,b15⟩=>⟨b0,b1,b2,b3,b4,l.s b5 x,b6,b7,b8,b9,b10,b11,b12,b13,b14,b15⟩⟩
 | 6=>⟨fun e=>l.g e.b6,fun e x=>match e with|⟨b0,b1,b2,b3,b4,b5,b6,b7,b8,b9,b10,b11,b12,b13,b14,b15⟩=>⟨b0,b1,b2,b3,b4,b5,l.s b6 x,b7,b8,b9,b10,b11,b12,b13,b14,b15⟩⟩
 | 7=>⟨fun e=>l.g e.b7,fun e x=>match e with|⟨b0,b1,b2,b3,b4,b5,b6,b7,b8,b9,b10,b11,b12,b13,b14,b15⟩=>⟨b0,b1,b2,b3,b4,b5,b6,l.s b7 x,b8,b9,b10,b11,b12,b13,b14,b15⟩⟩
 | 8=>⟨fun e=>l.g e.b8,fun e x=>match e with|⟨b0,b1,b2,b3,b4,b5,b6,b7,b8,b9,b10,b11,b12,b13,b14,b15⟩=>⟨b0,b1,b2,b3,b4,b5,b6,b7,l.s b8 x,b9,b10,b11,b12,b13,b14,b15⟩⟩
 | 9=>⟨fun e=>l.g e.b9,fun e x=>match e with|⟨b0,b1,b2,b3,b4,b5,b6,b7,b8,b9,b10,b11,b12,b13,b14,b15⟩=>⟨b0,b1,b2,b3,b4,b5,b6,b7,b8,l.s b9 x,b10,b11,b12,b13,b14,b15⟩⟩
 | 10=>⟨fun e=>l.g e.b10,fun e x=>match e with|⟨b0,b1,b2,b3,b4,b5,b6,b7,b8,b9,b10,b11,b12,b13,b14,b15⟩=>⟨b0,b1,b2,b3,b4,b5,b6,b7,b8,b9,l.s b10 x,b11,b12,b13,b14,b15⟩⟩
 | 11=>⟨fun e=>l.g e.b11,fun e x=>match e with|⟨b0,b1,b2,b3,b4,b5,b6,b7,b8,b9,b10,b11,b12,b13,b14,b15⟩=>⟨b0,b1,b2,b3,b4,b5,b6,b7,b8,b9,b10,l.s b11 x,b12,b13,b14,b15⟩⟩
 | 12=>⟨fun e=>l.g e.b12,fun e x=>match e with|⟨b0,b1,b2,b3,b4,b5,b6,b7,b8,b9,b10,b11,b12,b13,b14,b15⟩=>⟨b0,b1,b2,b3,b4,b5,b6,b7,b8,b9,b10,b11,l.s b12 x,b13,b14,b15⟩⟩
 | 13=>⟨fun e=>l.g e.b13,fun e x=>match e with|⟨b0,b1,b2,b3,b4,b5,b6,b7,b8,b9,b10,b11,b12,b13,b14,b15⟩=>⟨b0,b1,b2,b3,b4,b5,b6,b7,b8,b9,b10,b11,b12,l.s b13 x,b14,b15⟩⟩
 | 14=>⟨fun e=>l.g e.b14,fun e x=>match e with|⟨b0,b1,b2,b3,b4,b5,b6,b7,b8,b9,b10,b11,b12,b13,b14,b15⟩=>⟨b0,b1,b2,b3,b4,b5,b6,b7,b8,b9,b10,b11,b12,b13,l.s b14 x,b15⟩⟩
 | 15=>⟨fun e=>l.g e.b15,fun e x=>match e with|⟨b0,b1,b2,b3,b4,b5,b6,b7,b8,b9,b10,b11,b12,b13,b14,b15⟩=>⟨b0,b1,b2,b3,b4,b5,b6,b7,b8,b9,b10,b11,b12,b13,b14,l.s b15 x⟩⟩
 | _=>⟨fun _=>none,fun e _=>e⟩
def tp (s:Nat):abU:=I7 (Nat.div s 16) (J9 (Nat.mod s 16))
theorem Lu {i:Nat}(h:i<16):i=0∨i=1∨i=2∨i=3∨i=4∨i=5∨i=6∨i=7∨i=8∨i=9∨i=10∨i=11∨i=12∨i=13∨i=14∨i=15:=by omega
theorem QI {i:Nat}(h:i<16) (v:V16) (x:AV):(J9 i).g ((J9 i).s v x)=some x:=by
 rcases Lu h with rfl|rfl|rfl|rfl|rfl|rfl|rfl|rfl|rfl|rfl|rfl|rfl|rfl|rfl|rfl|rfl<;>rfl
theorem M4 {i j:Nat}(h:i<16) (hj:j<16) (e:i≠j) (v:V16) (x:AV):(J9 i).g ((J9 j).s v x)=(J9 i).g v:=by
 rcases Lu h with rfl|rfl|rfl|rfl|rfl|rfl|rfl|rfl|rfl|rfl|rfl|rfl|rfl|rfl|rfl|rfl<;>rcases Lu hj with rfl|rfl|rfl|rfl|rfl|rfl|rfl|rfl|rfl|rfl|rfl|rfl|rfl|rfl|rfl|rfl<;>first|exact absurd rfl e|rfl
def TU (j:Nat) (e:E16):V16:=match j with
 | 0=>e.b0
 | 1=>e.b1
 | 2=>e.b2
 | 3=>e.b3
 | 4=>e.b4
 | 5=>e.b5
 | 6=>e.b6
 | 7=>e.b7
 | 8=>e.b8
 | 9=>e.b9
 | 10=>e.b10
 | 11=>e.b11
 | 12=>e.b12
 | 13=>e.b13
 | 14=>e.b14
 | 15=>e.b15
 | _=>v0
theorem Tn {j:Nat}(h:j<16) (l:JB) (e:E16):(I7 j l).g e=l.g (TU j e):=by
 rcases Lu h with rfl|rfl|rfl|rfl|rfl|rfl|rfl|rfl|rfl|rfl|rfl|rfl|rfl|rfl|rfl|rfl<;>rfl
theorem UR {j:Nat}(h:j<16) (m:JB) (e:E16) (x:AV):TU j ((I7 j m).s e x)=m.s (TU j e) x:=by
 rcases Lu h with rfl|rfl|rfl|rfl|rfl|rfl|rfl|rfl|rfl|rfl|rfl|rfl|rfl|rfl|rfl|rfl<;>rfl
theorem QZ {j k:Nat}(h:j<16) (hk:k<16) (ne:j≠k) (m:JB) (e:E16) (x:AV):TU j ((I7 k m).s e x)=TU j e:=by
 rcases Lu h with rfl|rfl|rfl|rfl|rfl|rfl|rfl|rfl|rfl|rfl|rfl|rfl|rfl|rfl|rfl|rfl<;>rcases Lu hk with rfl|rfl|rfl|rfl|rfl|rfl|rfl|rfl|rfl|rfl|rfl|rfl|rfl|rfl|rfl|rfl<;>first|exact absurd rfl ne|rfl
theorem CD {j:Nat}(h:¬ j<16) (l:JB):I7 j l=⟨fun _=>none,fun e _=>e⟩:=by
 unfold I7
 split<;>first|(exfalso;omega)|rfl
theorem V3 {k d:Nat}{e:E16}{x v:AV}(h:(tp k).g ((tp d).s e x)=some v):(k=d∧v=x)∨(k≠d∧(tp k).g e=some v):=by
 unfold tp at *
 have hk:Nat.mod k 16<16:=Nat.mod_lt _ (by omega)
 have hd:Nat.mod d 16<16:=Nat.mod_lt _ (by omega)
 by_cases hK:Nat.div k 16<16
 ·by_cases hD:Nat.div d 16<16
  ·rw[Tn hK]at h ⊢
   by_cases e1:Nat.div k 16=Nat.div d 16
   ·rw[e1]at h ⊢
    rw[UR hD]at h
    by_cases e2:Nat.mod k 16=Nat.mod d 16
    ·rw[e2,QI hd]at h
     cases h
     refine .inl ⟨?_,rfl⟩
     have a1:k / 16=d / 16:=e1
     have a2:k%16=d%16:=e2
     omega
    ·rw[M4 hk hd e2]at h
     exact .inr ⟨fun e=>e2 (by rw[e]),h⟩
   ·rw[QZ hK hD e1]at h
    exact .inr ⟨fun e=>e1 (by rw[e]),h⟩
  ·rw[CD hD]at h
   exact .inr ⟨fun e=>hD (by rw[← e];exact hK),h⟩
 ·rw[CD hK]at h
  cases h
theorem ZK (k:Nat):(tp k).g ee0=none:=by
 unfold tp
 have hk:Nat.mod k 16<16:=Nat.mod_lt _ (by omega)
 by_cases hK:Nat.div k 16<16
 ·rw[Tn hK]
  have:TU (Nat.div k 16) ee0=v0:=by rcases Lu hK with h|h|h|h|h|h|h|h|h|h|h|h|h|h|h|h<;>rw[h]<;>rfl
  rw[this]
  rcases Lu hk with h|h|h|h|h|h|h|h|h|h|h|h|h|h|h|h<;>rw[h]<;>rfl
 ·rw[CD hK]
end
end
end Go.Proofs.YtgkmmcdhhkllnaaGreatDoor.AL
