import Derived.Test.YtgkmmcdhhkllnaaGreatDoorAL13toAL19
import Derived.IntWalk
import Derived.Test.YtgkmmcdhhkllnaaGreatDoorAL9ctoAL13v
import Derived.ScopeJumps
set_option linter.all false
set_option autoImplicit true
set_option relaxedAutoImplicit true
set_option maxRecDepth 100000
namespace Go.Proofs.YtgkmmcdhhkllnaaGreatDoor.AL
noncomputable section
section
def adw (op:BinOp) (x y:AV) (K:AV→Bool):Bool:=
 match x,y with
 | .lit a,.lit b=>(match cC op a b with|some r=>K (.lit r)|none=>false)
 | _,_=>false
def Yk (op:BinOp) (x y:AV) (K:AV→Bool):Bool:=
 match x,y with
 | .lit (.bool a),.lit (.bool b)=>(match op with|.eql=>K (B (a==b))|.neq=>K (B (!(a==b)))|_=>false)
 | _,_=>false
def ZJ (op:BinOp) (x y:AV) (K:AV→Bool):Bool:=
 match x,y with
 | .ptr _ _,.lit (.pointer none)=>(match op with|.eql=>K (B false)|.neq=>K (B true)|_=>false)
 | .lit (.pointer none),.lit (.pointer none)=>(match op with|.eql=>K (B true)|.neq=>K (B false)|_=>false)
 | _,_=>false
def bUn (op:UnOp) (x:AV) (K:AV→Bool):Bool:=
 match op,x with
 | .neg,.lit (.int k n)=>K (.lit (.int k (k.wrap (0-n))))
 | .xor,.lit (.int k n)=>K (.lit (.int k (k.wrap ((BitVec.ofInt k.bits (if k.signed then -1 else k.max) ^^^ BitVec.ofInt k.bits n).toNat:Int))))
 | .not,.lit (.bool b)=>K (B !b)
 | .neg,.lit (.float k b)=>K (.lit (.float k (Op.negFloat k b)))
 | _,_=>false
def MF (x:AV) (K:AV→Bool):Bool:=match x with|.lit (.string s)=>K (S s)|_=>false
def acr (v:AV) (K:AV→Bool):Bool:=match v with|.ptr i o=>K (.ptr i o)|.cptr cs=>K (.cptr cs)|.fn (.func f) fi ca=>K (.fn (.func f) fi ca)|_=>false
def aco (off:Nat) (v:AV) (K:AV→Bool):Bool:=match v with|.ptr i o=>K (.ptr i (o+off))|.cptr cs=>K (.cptr (cs.drop off))|_=>false
def adn (n:Nat) (v:AV) (h:ae) (K:AV→Bool):Bool:=match rI h n v with|some l=>K (.agg l)|none=>false
def adh (v:AV) (h:ae) (K:AV→Bool):Bool:=match rI h 1 v with|some [a]=>K a|_=>false
def R7 (off n:Nat) (v:AV) (K:AV→Bool):Bool:=match v with|.agg cs=>K (.agg ((cs.drop off).take n))|_=>false
def QY (off:Nat) (v:AV) (K:AV→Bool):Bool:=match v with|.agg cs=>(match cs[off]? with|some a=>K a|none=>false)|_=>false
def acg (size:Nat) (v i:AV) (K:AV→Bool):Bool:=
 match asI i with
 | none=>false
 | some n=>match v with
   | .sl j off len sz=>decide (0≤n∧n<len∧sz=size)&&K (.ptr j (off+n.toNat*size))
   | .snap m cs=>decide (0≤n∧n<m)&&K (.cptr (cs.drop (n.toNat*size)))
   | .full m cs=>decide (0≤n∧n<m)&&K (.cptr (cs.drop (n.toNat*size)))
   | _=>false
def rG (len size:Nat) (v i:AV) (K:AV→Bool):Bool:=
 match asI i with
 | none=>false
 | some n=>match v with
   | .ptr j off=>decide (0≤n∧n<len)&&K (.ptr j (off+n.toNat*size))
   | .cptr cs=>decide (0≤n∧n<len)&&K (.cptr (cs.drop (n.toNat*size)))
   | _=>false
def adf (v:AV) (lo hi:Option AV) (K:AV→Bool):Bool:=
 match v with
 | .lit (.string s)=>(match lk lo 0,lk hi s.size with
   | some l,some h=>decide (0≤l∧l≤h∧h≤s.size)&&K (S (s.extract l.toNat h.toNat))
   | _,_=>false)
 | _=>false
def Mv (size:Nat) (v:AV) (lo hi:Option AV) (K:AV→Bool):Bool:=
 match v with
 | .sl i off len sz=>(match lk lo 0,lk hi len with
   | some l,some h=>decide (0≤l∧l≤h∧h≤len∧sz=size)&&K (.sl i (off+l.toNat*size) (h.toNat-l.toNat) size)
   | _,_=>false)
 | .snap n cs=>(match lk lo 0,lk hi n with
   | some l,some h=>decide (0≤l∧l≤h∧h≤n)&&K (.snap (h.toNat-l.toNat) ((cs.drop (l.toNat*size)).take ((h.toNat-l.toNat)*size)))
   | _,_=>false)
 | .full n cs=>(match lk lo 0,lk hi n with
   | some l,some h=>decide (0≤l∧l≤h∧h≤n)&&K (.snap (h.toNat-l.toNat) ((cs.drop (l.toNat*size)).take ((h.toNat-l.toNat)*size)))
   | _,_=>false)
 | _=>false
def Ly (v:AV) (K:AV→Bool):Bool:=match v with|.sl _ _ _ _=>K (.full 0 [])|.snap _ _=>K (.full 0 [])|.full _ _=>K (.full 0 [])|_=>false
def Gc (i:Nat) (v:AV) (K:AV→Bool):Bool:=match v with|.tup vs=>(match vs[i]? with|some a=>K a|none=>false)|_=>false
def S6 (t:TypeId) (v:AV) (K:AV→Bool):Bool:=K (.iface t v)
def SX (zs:List AV) (ps:List (Nat×Nat×AV)) (K:AV→Bool):Bool:=match EN zs ps with|some cs=>K (.agg cs)|none=>false
def xJ (n size:Nat) (vs:List AV) (K:AV→Bool):Bool:=decide (vs.length=n∧(vs.all fun v=>!v.isTup&&v.cells.length==size)=true)&&K (.full n (vs.flatMap (·.cells)))
def ade (d:TypeDesc) (ok:Bool) (z x key:AV) (h:ae) (K:AV→Bool):Bool:=
 match key with
 | .lit k=>match x with
   | .lit (.map none)=>if kOk d k=true then K (if ok then .tup [z,B false] else z) else false
   | .map i=>match h[i]? with
     | some (.amap es _)=>if (kOk d k&&es.all fun e=>kOk d e.1)=true then (match lW k es 0 with
       | some (_,_,v)=>K (if ok then .tup [v,B true] else v)
       | none=>K (if ok then .tup [z,B false] else z)) else false
     | _=>false
   | _=>false
 | _=>false
def abZ (bytes:Nat) (z l c:AV) (h:ae) (K:AV→ae→Bool):Bool:=
 match l,c with
 | .lit (.int _ l),.lit (.int _ c)=>decide (0≤l∧l≤c∧(bytes:Int)*c≤1099511627776∧c≤1099511627776)&&K (.sl h.length 0 l.toNat 1) (h++[.cells (List.replicate c.toNat z)])
 | _,_=>false
def LC (op:BinOp) (x:AV) (K:AV→Bool):Bool:=
 match op,x with
 | .eql,.map _=>K (B false)
 | .neq,.map _=>K (B true)
 | .eql,.lit (.map none)=>K (B true)
 | .neq,.lit (.map none)=>K (B false)
 | _,_=>false
def M9 (op:BinOp) (x:AV) (K:AV→Bool):Bool:=
 match op,x with
 | .eql,.iface _ _=>K (B false)
 | .neq,.iface _ _=>K (B true)
 | .eql,.lit .nilIface=>K (B true)
 | .neq,.lit .nilIface=>K (B false)
 | _,_=>false
def LI (op:BinOp) (x:AV) (K:AV→Bool):Bool:=
 match op,x with
 | .eql,.fn _ _ _=>K (B false)
 | .neq,.fn _ _ _=>K (B true)
 | .eql,.lit .nilFunc=>K (B true)
 | .neq,.lit .nilFunc=>K (B false)
 | _,_=>false
def Jr (op:BinOp) (b:Bool) (K:AV→Bool):Bool:=match op with|.eql=>K (B b)|.neq=>K (B !b)|_=>false
def MM (op:BinOp) (x:AV) (K:AV→Bool):Bool:=
 match x with
 | .sl _ _ _ _=>Jr op false K
 | .full n _=>if n=0 then Jr op true K&&Jr op false K else Jr op false K
 | .snap n _=>if n=0 then Jr op true K&&Jr op false K else Jr op false K
 | _=>false
def abJ (op:BinOp) (ds:List TypeDesc) (x y:AV) (K:AV→Bool):Bool:=
 match x,y with
 | .agg az,.agg bs=>(match qh ds az bs with|some b=>Jr op b K|none=>false)
 | _,_=>false
def Zu (v:AV) (K:AV→Bool):Bool:=match v with|.sl _ _ len _=>K (I len)|.snap n _=>K (I n)|.full n _=>K (I n)|_=>false
def acD (x y:AV) (K:AV→Bool):Bool:=match x,y with|.lit (.int k a),.lit (.int _ b)=>K (.lit (.int k (if b > a then b else a)))|_,_=>false
def acy (x y:AV) (K:AV→Bool):Bool:=match x,y with|.lit (.int k a),.lit (.int _ b)=>K (.lit (.int k (if b<a then b else a)))|_,_=>false
theorem rV {K:AV→Bool}(op:BinOp) (b:Bool) (k:Jr op b K=true):rh op b (fun r=>K r=true):=by
 unfold Jr at k
 unfold rh
 (repeat' split at k)<;>first|(cases k;done)|exact k|(simp only[Bool.and_eq_true,decide_eq_true_eq]at k;exact k)|(rw[if_pos ‹_›];exact k)|(rw[if_neg ‹_›];exact k)|(simp only[*,↓reduceIte,Bool.false_eq_true];done)|(simp_all;done)
theorem WT {K:AV→Bool}(op:BinOp) (x y:AV) (k:Yk op x y K=true):xE op x y (fun r=>K r=true):=by
 unfold Yk at k
 unfold xE
 (repeat' split at k)<;>first|(cases k;done)|exact k|(simp only[Bool.and_eq_true,decide_eq_true_eq]at k;exact k)|(rw[if_pos ‹_›];exact k)|(rw[if_neg ‹_›];exact k)|(simp only[*,↓reduceIte,Bool.false_eq_true];done)|(simp_all;done)
theorem XL {K:AV→Bool}(op:BinOp) (x y:AV) (k:ZJ op x y K=true):yd op x y (fun r=>K r=true):=by
 unfold ZJ at k
 unfold yd
 (repeat' split at k)<;>first|(cases k;done)|exact k|(simp only[Bool.and_eq_true,decide_eq_true_eq]at k;exact k)|(rw[if_pos ‹_›];exact k)|(rw[if_neg ‹_›];exact k)|(simp only[*,↓reduceIte,Bool.false_eq_true];done)|(simp_all;done)
theorem acE {K:AV→Bool}(op:UnOp) (x:AV) (k:bUn op x K=true):pUn op x (fun r=>K r=true):=by
 unfold bUn at k
 unfold pUn
 (repeat' split at k)<;>first|(cases k;done)|exact k|(simp only[Bool.and_eq_true,decide_eq_true_eq]at k;exact k)|(rw[if_pos ‹_›];exact k)|(rw[if_neg ‹_›];exact k)|(simp only[*,↓reduceIte,Bool.false_eq_true];done)|(simp_all;done)
theorem Sr {K:AV→Bool}(x:AV) (k:MF x K=true):mo x (fun r=>K r=true):=by
 unfold MF at k
 unfold mo
 (repeat' split at k)<;>first|(cases k;done)|exact k|(simp only[Bool.and_eq_true,decide_eq_true_eq]at k;exact k)|(rw[if_pos ‹_›];exact k)|(rw[if_neg ‹_›];exact k)|(simp only[*,↓reduceIte,Bool.false_eq_true];done)|(simp_all;done)
theorem aaP {K:AV→Bool}(v:AV) (k:acr v K=true):Jb v (fun r=>K r=true):=by
 unfold acr at k
 unfold Jb
 (repeat' split at k)<;>first|(cases k;done)|exact k|(simp only[Bool.and_eq_true,decide_eq_true_eq]at k;exact k)|(rw[if_pos ‹_›];exact k)|(rw[if_neg ‹_›];exact k)|(simp only[*,↓reduceIte,Bool.false_eq_true];done)|(simp_all;done)
theorem Wr {K:AV→Bool}(off n:Nat) (v:AV) (k:R7 off n v K=true):qD off n v (fun r=>K r=true):=by
 unfold R7 at k
 unfold qD
 (repeat' split at k)<;>first|(cases k;done)|exact k|(simp only[Bool.and_eq_true,decide_eq_true_eq]at k;exact k)|(rw[if_pos ‹_›];exact k)|(rw[if_neg ‹_›];exact k)|(simp only[*,↓reduceIte,Bool.false_eq_true];done)|(simp_all;done)
theorem V0 {K:AV→Bool}(off:Nat) (v:AV) (k:QY off v K=true):qO off v (fun r=>K r=true):=by
 unfold QY at k
 unfold qO
 (repeat' split at k)<;>first|(cases k;done)|exact k|(simp only[Bool.and_eq_true,decide_eq_true_eq]at k;exact k)|(rw[if_pos ‹_›];exact k)|(rw[if_neg ‹_›];exact k)|(simp only[*,↓reduceIte,Bool.false_eq_true];done)|(simp_all;done)
theorem yD {K:AV→Bool}(len size:Nat) (v i:AV) (k:rG len size v i K=true):cT len size v i (fun r=>K r=true):=by
 unfold rG at k
 unfold cT
 (repeat' split at k)<;>first|(cases k;done)|exact k|(simp only[Bool.and_eq_true,decide_eq_true_eq]at k;exact k)|(rw[if_pos ‹_›];exact k)|(rw[if_neg ‹_›];exact k)|(simp only[*,↓reduceIte,Bool.false_eq_true];done)|(simp_all;done)
theorem Sa {K:AV→Bool}(size:Nat) (v:AV) (lo hi:Option AV) (k:Mv size v lo hi K=true):iC size v lo hi (fun r=>K r=true):=by
 unfold Mv at k
 unfold iC
 (repeat' split at k)<;>first|(cases k;done)|exact k|(simp only[Bool.and_eq_true,decide_eq_true_eq]at k;exact k)|(rw[if_pos ‹_›];exact k)|(rw[if_neg ‹_›];exact k)|(simp only[*,↓reduceIte,Bool.false_eq_true];done)|(simp_all;done)
theorem RG {K:AV→Bool}(v:AV) (k:Ly v K=true):mB v (fun r=>K r=true):=by
 unfold Ly at k
 unfold mB
 (repeat' split at k)<;>first|(cases k;done)|exact k|(simp only[Bool.and_eq_true,decide_eq_true_eq]at k;exact k)|(rw[if_pos ‹_›];exact k)|(rw[if_neg ‹_›];exact k)|(simp only[*,↓reduceIte,Bool.false_eq_true];done)|(simp_all;done)
theorem NU {K:AV→Bool}(i:Nat) (v:AV) (k:Gc i v K=true):iL i v (fun r=>K r=true):=by
 unfold Gc at k
 unfold iL
 (repeat' split at k)<;>first|(cases k;done)|exact k|(simp only[Bool.and_eq_true,decide_eq_true_eq]at k;exact k)|(rw[if_pos ‹_›];exact k)|(rw[if_neg ‹_›];exact k)|(simp only[*,↓reduceIte,Bool.false_eq_true];done)|(simp_all;done)
theorem WL {K:AV→Bool}(t:TypeId) (v:AV) (k:S6 t v K=true):Dl t v (fun r=>K r=true):=by
 unfold S6 at k
 unfold Dl
 (repeat' split at k)<;>first|(cases k;done)|exact k|(simp only[Bool.and_eq_true,decide_eq_true_eq]at k;exact k)|(rw[if_pos ‹_›];exact k)|(rw[if_neg ‹_›];exact k)|(simp only[*,↓reduceIte,Bool.false_eq_true];done)|(simp_all;done)
theorem UT {K:AV→Bool}(zs:List AV) (ps:List (Nat×Nat×AV)) (k:SX zs ps K=true):pr zs ps (fun r=>K r=true):=by
 unfold SX at k
 unfold pr
 (repeat' split at k)<;>first|(cases k;done)|exact k|(simp only[Bool.and_eq_true,decide_eq_true_eq]at k;exact k)|(rw[if_pos ‹_›];exact k)|(rw[if_neg ‹_›];exact k)|(simp only[*,↓reduceIte,Bool.false_eq_true];done)|(simp_all;done)
theorem GG {K:AV→Bool}(n size:Nat) (vs:List AV) (k:xJ n size vs K=true):ie n size vs (fun r=>K r=true):=by
 unfold xJ at k
 unfold ie
 (repeat' split at k)<;>first|(cases k;done)|exact k|(simp only[Bool.and_eq_true,decide_eq_true_eq]at k;exact k)|(rw[if_pos ‹_›];exact k)|(rw[if_neg ‹_›];exact k)|(simp only[*,↓reduceIte,Bool.false_eq_true];done)|(simp_all;done)
theorem SC {K:AV→Bool}(op:BinOp) (x:AV) (k:LC op x K=true):mw op x (fun r=>K r=true):=by
 unfold LC at k
 unfold mw
 (repeat' split at k)<;>first|(cases k;done)|exact k|(simp only[Bool.and_eq_true,decide_eq_true_eq]at k;exact k)|(rw[if_pos ‹_›];exact k)|(rw[if_neg ‹_›];exact k)|(simp only[*,↓reduceIte,Bool.false_eq_true];done)|(simp_all;done)
theorem SQ {K:AV→Bool}(op:BinOp) (x:AV) (k:M9 op x K=true):mp op x (fun r=>K r=true):=by
 unfold M9 at k
 unfold mp
 (repeat' split at k)<;>first|(cases k;done)|exact k|(simp only[Bool.and_eq_true,decide_eq_true_eq]at k;exact k)|(rw[if_pos ‹_›];exact k)|(rw[if_neg ‹_›];exact k)|(simp only[*,↓reduceIte,Bool.false_eq_true];done)|(simp_all;done)
theorem Rr {K:AV→Bool}(op:BinOp) (x:AV) (k:LI op x K=true):mc op x (fun r=>K r=true):=by
 unfold LI at k
 unfold mc
 (repeat' split at k)<;>first|(cases k;done)|exact k|(simp only[Bool.and_eq_true,decide_eq_true_eq]at k;exact k)|(rw[if_pos ‹_›];exact k)|(rw[if_neg ‹_›];exact k)|(simp only[*,↓reduceIte,Bool.false_eq_true];done)|(simp_all;done)
theorem Sz {K:AV→Bool}(op:BinOp) (x:AV) (k:MM op x K=true):ou op x (fun r=>K r=true):=by
 unfold MM at k
 unfold ou
 split at k
 ·exact rV _ _ k
 ·split at k
  ·rename_i h0;simp only[if_pos h0];simp only[Bool.and_eq_true]at k;exact⟨rV _ _ k.1,rV _ _ k.2⟩
  ·rename_i h0;simp only[if_neg h0];exact rV _ _ k
 ·split at k
  ·rename_i h0;simp only[if_pos h0];simp only[Bool.and_eq_true]at k;exact⟨rV _ _ k.1,rV _ _ k.2⟩
  ·rename_i h0;simp only[if_neg h0];exact rV _ _ k
 ·cases k
theorem aa1 {K:AV→Bool}(op:BinOp) (ds:List TypeDesc) (x y:AV) (k:abJ op ds x y K=true):Fw op ds x y (fun r=>K r=true):=by
 unfold abJ at k
 unfold Fw
 split at k
 ·split at k
  ·rename_i hm;simp only[hm];exact rV _ _ k
  ·cases k
 ·cases k
theorem Zp {K:AV→Bool}(v:AV) (k:Zu v K=true):zY v (fun r=>K r=true):=by
 unfold Zu at k
 unfold zY
 (repeat' split at k)<;>first|(cases k;done)|exact k|(simp only[Bool.and_eq_true,decide_eq_true_eq]at k;exact k)|(rw[if_pos ‹_›];exact k)|(rw[if_neg ‹_›];exact k)|(simp only[*,↓reduceIte,Bool.false_eq_true];done)|(simp_all;done)
theorem aaJ {K:AV→Bool}(x y:AV) (k:acD x y K=true):FI x y (fun r=>K r=true):=by
 unfold acD at k
 unfold FI
 (repeat' split at k)<;>first|(cases k;done)|exact k|(simp only[Bool.and_eq_true,decide_eq_true_eq]at k;exact k)|(rw[if_pos ‹_›];exact k)|(rw[if_neg ‹_›];exact k)|(simp only[*,↓reduceIte,Bool.false_eq_true];done)|(simp_all;done)
theorem Z9 {K:AV→Bool}(x y:AV) (k:acy x y K=true):FJ x y (fun r=>K r=true):=by
 unfold acy at k
 unfold FJ
 (repeat' split at k)<;>first|(cases k;done)|exact k|(simp only[Bool.and_eq_true,decide_eq_true_eq]at k;exact k)|(rw[if_pos ‹_›];exact k)|(rw[if_neg ‹_›];exact k)|(simp only[*,↓reduceIte,Bool.false_eq_true];done)|(simp_all;done)
end
section
def bI (c t e:Bool):Bool:=@Bool.casesOn (fun _=>Bool) c e t
theorem J7 (c t e:Bool):bI c t e=true↔(c=true∧t=true)∨(c=false∧e=true):=by cases c<;>simp[bI]
def bA (c t:Bool):Bool:=@Bool.casesOn (fun _=>Bool) c false t
theorem cJ (c t:Bool):bA c t=true↔c=true∧t=true:=by cases c<;>simp[bA]
def fN (m:Nat) (K:Nat→Bool):Bool:=@Nat.casesOn (fun _=>Bool) m (K 0) (fun m=>K (Nat.succ m))
theorem jz (m:Nat) (K:Nat→Bool):fN m K=K m:=by cases m<;>rfl
def fI (n:Int) (K:Int→Bool):Bool:=@Int.casesOn (fun _=>Bool) n (fun m=>fN m fun m=>K (.ofNat m)) (fun m=>fN m fun m=>K (.negSucc m))
theorem N2 (n:Int) (K:Int→Bool):fI n K=K n:=by cases n<;>simp[fI,jz]
def fB (b:Bool) (K:Bool→Bool):Bool:=@Bool.casesOn (fun _=>Bool) b (K false) (K true)
theorem Tv (b:Bool) (K:Bool→Bool):fB b K=K b:=by cases b<;>rfl
theorem nbF {a b:Nat}(h:¬ a=b):Nat.beq a b=false:=by
 cases e:Nat.beq a b
 ·rfl
 ·exact (h (Nat.eq_of_beq_eq_true e)).elim
inductive Tr (α:Type) where
 | leaf
 | node (l:Tr α) (v:Option α) (r:Tr α)
namespace Tr
variable {α:Type}
def acP:Tr α→Nat→Option α
 | .leaf,_=>none
 | .node l v r,i=>if i=0 then v else if i%2=1 then acP l (i / 2) else acP r (i / 2-1)
def W7 (x:α):Nat→Nat→Tr α
 | 0,_=>.leaf
 | f+1,i=>if i=0 then .node .leaf (some x) .leaf else if i%2=1 then .node (W7 x f (i / 2)) none .leaf else .node .leaf none (W7 x f (i / 2-1))
def ada (t:Tr α) (x:α) (i:Nat):Tr α:=match t with
 | .leaf=>W7 x (i+1) i
 | .node l v r=>if i=0 then .node l (some x) r else if i%2=1 then .node (ada l x (i / 2)) v r else .node l v (ada r x (i / 2-1))
def get (t:Tr α):Nat→Option α:=
 @Tr.rec α (fun _=>Nat→Option α) (fun _=>none) (fun _ v _ gl gr i=>@Bool.rec (fun _=>Option α) (@Bool.rec (fun _=>Option α) (gr (Nat.sub (Nat.div i 2) 1)) (gl (Nat.div i 2)) (Nat.beq (Nat.mod i 2) 1)) v (Nat.beq i 0)) t
def OT (x:α):Nat→Nat→Tr α:=
 fun f=>@Nat.rec (fun _=>Nat→Tr α) (fun _=>.leaf) (fun _ ih i=>@Bool.rec (fun _=>Tr α) (@Bool.rec (fun _=>Tr α) (.node .leaf none (ih (Nat.sub (Nat.div i 2) 1))) (.node (ih (Nat.div i 2)) none .leaf) (Nat.beq (Nat.mod i 2) 1)) (.node .leaf (some x) .leaf) (Nat.beq i 0)) f
def set (t:Tr α) (x:α):Nat→Tr α:=
 @Tr.rec α (fun _=>Nat→Tr α) (fun i=>OT x (Nat.succ i) i) (fun l v r sl sr i=>@Bool.rec (fun _=>Tr α) (@Bool.rec (fun _=>Tr α) (.node l v (sr (Nat.sub (Nat.div i 2) 1))) (.node (sl (Nat.div i 2)) v r) (Nat.beq (Nat.mod i 2) 1)) (.node l (some x) r) (Nat.beq i 0)) t
theorem Iu (i:Nat):(Tr.leaf:Tr α).get i=none:=rfl
theorem qF (l:Tr α) (v:Option α) (r:Tr α) (i:Nat):(Tr.node l v r).get i=if i=0 then v else if i%2=1 then l.get (i / 2) else r.get (i / 2-1):=by
 show @Bool.rec (fun _=>Option α) (@Bool.rec (fun _=>Option α) (r.get (i / 2-1)) (l.get (i / 2)) (Nat.beq (i%2) 1)) v (Nat.beq i 0)=_
 by_cases h0:i=0
 ·subst h0;rfl
 ·have:Nat.beq i 0=false:=nbF h0
  rw[this,if_neg h0]
  by_cases h1:i%2=1
  ·have:Nat.beq (i%2) 1=true:=Nat.beq_eq.mpr h1
   rw[this,if_pos h1]
  ·have:Nat.beq (i%2) 1=false:=nbF h1
   rw[this,if_neg h1]
theorem VY (x:α) (f i:Nat):OT x (f+1) i=if i=0 then .node .leaf (some x) .leaf else if i%2=1 then .node (OT x f (i / 2)) none .leaf else .node .leaf none (OT x f (i / 2-1)):=by
 show @Bool.rec (fun _=>Tr α) (@Bool.rec (fun _=>Tr α) (.node .leaf none (OT x f (i / 2-1))) (.node (OT x f (i / 2)) none .leaf) (Nat.beq (i%2) 1)) (.node .leaf (some x) .leaf) (Nat.beq i 0)=_
 by_cases h0:i=0
 ·subst h0;rfl
 ·have:Nat.beq i 0=false:=nbF h0
  rw[this,if_neg h0]
  by_cases h1:i%2=1
  ·have:Nat.beq (i%2) 1=true:=Nat.beq_eq.mpr h1
   rw[this,if_pos h1]
  ·have:Nat.beq (i%2) 1=false:=nbF h1
   rw[this,if_neg h1]
theorem YX (x:α) (i:Nat):(Tr.leaf:Tr α).set x i=OT x (i+1) i:=rfl
theorem XS (l:Tr α) (v:Option α) (r:Tr α) (x:α) (i:Nat):(Tr.node l v r).set x i=if i=0 then .node l (some x) r else if i%2=1 then .node (l.set x (i / 2)) v r else .node l v (r.set x (i / 2-1)):=by
 show @Bool.rec (fun _=>Tr α) (@Bool.rec (fun _=>Tr α) (.node l v (r.set x (i / 2-1))) (.node (l.set x (i / 2)) v r) (Nat.beq (i%2) 1)) (.node l (some x) r) (Nat.beq i 0)=_
 by_cases h0:i=0
 ·subst h0;rfl
 ·have:Nat.beq i 0=false:=nbF h0
  rw[this,if_neg h0]
  by_cases h1:i%2=1
  ·have:Nat.beq (i%2) 1=true:=Nat.beq_eq.mpr h1
   rw[this,if_pos h1]
  ·have:Nat.beq (i%2) 1=false:=nbF h1
   rw[this,if_neg h1]
theorem GY (x:α):∀ (f i j:Nat),i<f→(OT x f i).get j=if j=i then some x else none
 | 0,i,j,h=>by omega
 | f+1,i,j,h=>by
   rw[VY]
   by_cases h0:i=0
   ·rw[if_pos h0,qF]
    subst h0
    split
    ·rfl
    ·split<;>rfl
   ·rw[if_neg h0]
    by_cases h1:i%2=1
    ·rw[if_pos h1,qF]
     by_cases hj:j=0
     ·rw[if_pos hj,if_neg (by omega)]
     ·rw[if_neg hj]
      by_cases hj1:j%2=1
      ·rw[if_pos hj1,GY x f (i / 2) (j / 2) (by omega)]
       by_cases e:j / 2=i / 2
       ·rw[if_pos e,if_pos (by omega)]
       ·rw[if_neg e,if_neg (fun h=>e (by rw[h]))]
      ·rw[if_neg hj1,Iu,if_neg (fun h=>by subst h;omega)]
    ·rw[if_neg h1,qF]
     by_cases hj:j=0
     ·rw[if_pos hj,if_neg (by omega)]
     ·rw[if_neg hj]
      by_cases hj1:j%2=1
      ·rw[if_pos hj1,Iu,if_neg (fun h=>by subst h;omega)]
      ·rw[if_neg hj1,GY x f (i / 2-1) (j / 2-1) (by omega)]
       by_cases e:j / 2-1=i / 2-1
       ·rw[if_pos e,if_pos (by omega)]
       ·rw[if_neg e,if_neg (fun h=>e (by rw[h]))]
theorem get_set (x:α):∀ (t:Tr α) (i j:Nat),(t.set x i).get j=if j=i then some x else t.get j
 | .leaf,i,j=>by rw[YX,GY x _ _ _ (Nat.lt_succ_self _),Iu]
 | .node l v r,i,j=>by
   rw[XS,qF]
   by_cases h0:i=0
   ·subst h0
    rw[if_pos rfl,qF]
    by_cases hj:j=0
    ·rw[if_pos hj,if_pos hj]
    ·rw[if_neg hj,if_neg hj,if_neg hj]
   ·rw[if_neg h0]
    by_cases h1:i%2=1
    ·rw[if_pos h1,qF]
     by_cases hj:j=0
     ·subst hj;rw[if_pos rfl,if_neg (Ne.symm h0),if_pos rfl]
     ·rw[if_neg hj,if_neg hj]
      by_cases hj1:j%2=1
      ·rw[if_pos hj1,if_pos hj1,get_set x l]
       by_cases e:j / 2=i / 2
       ·rw[if_pos e,if_pos (by omega)]
       ·rw[if_neg e,if_neg (fun h=>e (by rw[h]))]
      ·rw[if_neg hj1,if_neg hj1,if_neg (fun h=>by subst h;omega)]
    ·rw[if_neg h1,qF]
     by_cases hj:j=0
     ·subst hj;rw[if_pos rfl,if_neg (Ne.symm h0),if_pos rfl]
     ·rw[if_neg hj,if_neg hj]
      by_cases hj1:j%2=1
      ·rw[if_pos hj1,if_pos hj1,if_neg (fun h=>by subst h;omega)]
      ·rw[if_neg hj1,if_neg hj1,get_set x r]
       by_cases e:j / 2-1=i / 2-1
       ·rw[if_pos e,if_pos (by omega)]
       ·rw[if_neg e,if_neg (fun h=>e (by rw[h]))]
end Tr
abbrev HT:=Tr AObj
structure HR (t:HT) (n:Nat) (h:ae):Prop where
 len:h.length=n
 at_:∀ i x,t.get i=some x→h[i]?=some x
theorem HR.set {t:HT}{n:Nat}{h:ae}(r:HR t n h) {i:Nat}{o x:AObj}(hi:t.get i=some x):HR (t.set o i) n (h.set i o) where
 len:=by simp[r.len]
 at_:=fun j y hy=>by
  have hl:i<h.length:=(List.getElem?_eq_some_iff.1 (r.at_ i x hi)).1
  rw[Tr.get_set]at hy
  rw[List.getElem?_set]
  by_cases e:j=i
  ·subst e;rw[if_pos rfl]at hy;rw[if_pos rfl,if_pos hl];exact hy
  ·rw[if_neg e]at hy;rw[if_neg (Ne.symm e)];exact r.at_ j y hy
theorem HR.push {t:HT}{n:Nat}{h:ae}(r:HR t n h) (o:AObj):HR (t.set o n) (n+1) (h++[o]) where
 len:=by simp[r.len]
 at_:=fun j y hy=>by
  have hl:=r.len
  rw[Tr.get_set]at hy
  by_cases e:j=n
  ·subst e;rw[if_pos rfl]at hy;rw[List.getElem?_append_right (by omega)];simp[hl];cases hy;rfl
  ·rw[if_neg e]at hy
   have:=r.at_ j y hy
   have hj:j<h.length:=(List.getElem?_eq_some_iff.1 this).1
   rw[List.getElem?_append_left hj];exact this
theorem HR.more {t:HT}{n:Nat}{h:ae}(r:HR t n h) (l:ae):HR t (n+l.length) (h++l) where
 len:=by simp[r.len]
 at_:=fun j y hy=>by
  have:=r.at_ j y hy
  have hj:j<h.length:=(List.getElem?_eq_some_iff.1 this).1
  rw[List.getElem?_append_left hj];exact this
theorem HR.none {n:Nat}{h:ae}(e:h.length=n):HR .leaf n h:=⟨e,fun i x hx=>by cases hx⟩
def KH (K:AV→HT→Nat→Bool) (r:AV) (h:ae):Prop:=∃ t n,HR t n h∧K r t n=true
def KS (K:HT→Nat→Bool) (h:ae):Prop:=∃ t n,HR t n h∧K t n=true
section
variable {t:HT}{n:Nat}{h:ae}
def Tf (t:HT) (m:Nat) (v:AV):Option (List AV):=match v with
 | .ptr i o=>match t.get i with
   | some (.cells cs)=>if o+m≤cs.length then some ((cs.drop o).take m) else none
   | _=>none
 | .cptr cs=>if m≤cs.length then some (cs.take m) else none
 | _=>none
theorem N4 (r:HR t n h) {m:Nat}{v:AV}{l:List AV}(e:Tf t m v=some l):rI h m v=some l:=by
 unfold Tf at e
 unfold rI
 split at e
 ·split at e
  ·rename_i hc;simp only[r.at_ _ _ hc];exact e
  ·cases e
 ·exact e
 ·cases e
def GU (m:Nat) (v:AV) (t:HT) (K:AV→Bool):Bool:=match Tf t m v with|some l=>K (.agg l)|none=>false
def GP (v:AV) (t:HT) (K:AV→Bool):Bool:=match Tf t 1 v with|some [a]=>K a|_=>false
theorem DK (r:HR t n h) {m:Nat}{v:AV}{K:AV→Bool}(k:GU m v t K=true):nB m v h (fun r=>K r=true):=by
 unfold GU at k
 unfold nB
 split at k
 ·rename_i hl;simp only[N4 r hl];exact k
 ·cases k
theorem CW (r:HR t n h) {v:AV}{K:AV→Bool}(k:GP v t K=true):mK v h (fun r=>K r=true):=by
 unfold GP at k
 unfold mK
 split at k
 ·rename_i hl;simp only[N4 r hl];exact k
 ·cases k
def aaS (cs:List AV) (t:HT) (n:Nat) (K:AV→HT→Nat→Bool):Bool:=fN n fun n=>K (.ptr n 0) (t.set (.cells cs) n) (n+1)
theorem TD (r:HR t n h) {cs:List AV}{K:AV→HT→Nat→Bool}(k:aaS cs t n K=true):X4 cs h (KH K):=by
 unfold aaS at k;rw[jz]at k
 unfold X4
 rw[r.len]
 exact⟨_,_,r.push _,k⟩
def act (v:AV) (t:HT) (n:Nat) (K:AV→HT→Nat→Bool):Bool:=bI v.isTup false (aaS v.cells t n K)
theorem abl (r:HR t n h) {v:AV}{K:AV→HT→Nat→Bool}(k:act v t n K=true):ac2 v h (KH K):=by
 unfold act at k
 rcases (J7 _ _ _).1 k with ⟨_,k⟩|⟨hv,k⟩
 ·cases k
 ·exact⟨hv,TD r k⟩
def SD (m:Nat) (v u:AV) (t:HT) (n:Nat) (K:HT→Nat→Bool):Bool:=
 match v with
 | .ptr i o=>(match t.get i with
   | some (.cells cs)=>decide (u.isTup=false∧u.cells.length=m∧u.cells.all AV.one=true∧o+m≤cs.length)&&K (t.set (.cells (splice cs o u.cells)) i) n
   | _=>false)
 | _=>false
theorem VF (r:HR t n h) {m:Nat}{v u:AV}{K:HT→Nat→Bool}(k:SD m v u t n K=true):uY m v u h (KS K):=by
 unfold SD at k
 unfold uY
 split at k
 ·rename_i i o
  skip
  split at k
  ·rename_i cs hc
   simp only[r.at_ _ _ hc]
   simp only[Bool.and_eq_true,decide_eq_true_eq]at k
   exact⟨k.1,_,_,r.set hc,k.2⟩
  ·cases k
 ·cases k
def Ha (t:HT) (size:Nat) (v:AV):Option (Nat×List AV):=match v with
 | .snap n cs=>if cs.length=n*size then some (n,cs) else none
 | .full n cs=>if cs.length=n*size then some (n,cs) else none
 | .sl i off len sz=>match t.get i with
   | some (.cells cs)=>if sz=size∧off+len*size≤cs.length then some (len,(cs.drop off).take (len*size)) else none
   | _=>none
 | .lit (.string s)=>if size=1 then some (s.size,s.data.toList.map fun b=>.lit (.int .u8 b.toNat)) else none
 | _=>none
theorem Dj (r:HR t n h) {m:Nat}{v:AV}{x:Nat×List AV}(e:Ha t m v=some x):ct h m v=some x:=by
 unfold Ha at e
 unfold ct
 split at e
 ·exact e
 ·exact e
 ·split at e
  ·rename_i hc;simp only[r.at_ _ _ hc];exact e
  ·cases e
 ·exact e
 ·cases e
def Mq (size bytes:Nat) (v x:AV) (t:HT) (n:Nat) (K:AV→HT→Nat→Bool):Bool:=
 match Ha t size x with
 | none=>false
 | some (m,xs)=>match v with
   | .full n0 cs=>decide (cs.length=n0*size∧(n0+m)*bytes≤1099511627776)&&(bI (Nat.beq m 0) (K (.full n0 cs) t n) (fN n fun n=>fN (n0+m) fun l=>K (.sl n 0 l size) (t.set (.cells (cs++xs)) n) (n+1)))
   | .sl i off len sz=>(match t.get i with
     | some (.cells cs)=>decide (sz=size∧off+len*size=cs.length∧xs.all AV.one=true∧(len+m)*bytes≤1099511627776)&&fN n fun n=>fN (len+m) fun l=>K (.sl n 0 l size) ((t.set .dead i).set (.cells (cs.drop off++xs)) n) (n+1)
     | _=>false)
   | _=>false
theorem SL (r:HR t n h) {size bytes:Nat}{v x:AV}{K:AV→HT→Nat→Bool}(k:Mq size bytes v x t n K=true):eC size bytes v x h (KH K):=by
 unfold Mq at k
 unfold eC
 split at k
 ·cases k
 ·rename_i m xs hx
  simp only[Dj r hx]
  split at k
  ·simp only[Bool.and_eq_true,decide_eq_true_eq,J7,jz]at k
   refine⟨k.1,?_⟩
   rcases k.2 with ⟨h0,k⟩|⟨h0,k⟩
   ·rw[if_pos (Nat.eq_of_beq_eq_true h0)];exact⟨t,n,r,k⟩
   ·rw[if_neg (fun e=>by rw[Nat.beq_eq.mpr e]at h0;cases h0),r.len];exact⟨_,_,r.push _,k⟩
  ·rename_i i off len sz
   skip
   split at k
   ·rename_i cs hc
    simp only[r.at_ _ _ hc]
    simp only[Bool.and_eq_true,decide_eq_true_eq,jz]at k
    refine⟨k.1,?_⟩
    rw[r.len]
    exact⟨_,_,(r.set hc).push _,k.2⟩
   ·cases k
  ·cases k
def C6 (x:AV) (t:HT) (K:AV→Bool):Bool:=
 bA (zr x) (match Ha t 1 x with
  | some (_,xs)=>(match yI xs with|some l=>K (S ⟨l.toArray⟩)|none=>false)
  | none=>false)
theorem Mm (r:HR t n h) {x:AV}{K:AV→Bool}(k:C6 x t K=true):g8 x h (fun r=>K r=true):=by
 unfold C6 at k
 unfold g8
 rw[cJ]at k
 rw[if_pos k.1]
 have k:=k.2
 split at k
 ·rename_i hx
  simp only[Dj r hx]
  split at k
  ·simp only[*]
  ·cases k
 ·cases k
def De (x:AV) (t:HT) (n:Nat) (K:AV→HT→Nat→Bool):Bool:=
 match x with
 | .lit (.string s)=>fN n fun n=>fN s.size fun l=>K (.sl n 0 l 1) (t.set (.cells (s.data.toList.map fun b=>.lit (.int .u8 b.toNat))) n) (n+1)
 | _=>false
theorem MR (r:HR t n h) {x:AV}{K:AV→HT→Nat→Bool}(k:De x t n K=true):ky x h (KH K):=by
 unfold De at k
 unfold ky
 split at k
 ·simp only[jz]at k
  rw[r.len]
  exact⟨_,_,r.push _,k⟩
 ·cases k
def Am (bytes:Nat) (z l c:AV) (t:HT) (n:Nat) (K:AV→HT→Nat→Bool):Bool:=
 match l,c with
 | .lit (.int _ l),.lit (.int _ c)=>decide (0≤l∧l≤c∧(bytes:Int)*c≤1099511627776∧c≤1099511627776)&&fN n fun n=>fN l.toNat fun l=>K (.sl n 0 l 1) (t.set (.cells (List.replicate c.toNat z)) n) (n+1)
 | _,_=>false
theorem I0 (r:HR t n h) {bytes:Nat}{z l c:AV}{K:AV→HT→Nat→Bool}(k:Am bytes z l c t n K=true):iH bytes z l c h (KH K):=by
 unfold Am at k
 unfold iH
 split at k
 ·simp only[jz,Bool.and_eq_true,decide_eq_true_eq]at k
  rw[r.len]
  exact⟨k.1,_,_,r.push _,k.2⟩
 ·cases k
def Yx (v:AV) (t:HT) (K:AV→Bool):Bool:=match v with|.map i=>(match t.get i with|some (.amap es _)=>fN es.length fun l=>K (I l)|_=>false)|_=>false
theorem ZM (r:HR t n h) {v:AV}{K:AV→Bool}(k:Yx v t K=true):yk v h (fun r=>K r=true):=by
 unfold Yx at k
 unfold yk
 split at k
 ·split at k
  ·rename_i hc
   simp only[jz]at k;simp only[r.at_ _ _ hc];exact k
  ·cases k
 ·cases k
def uEq (a b:UInt8):Bool:=Nat.beq a.toNat b.toNat
theorem CU (a b:UInt8):uEq a b=(a==b):=by
 rw[Bool.eq_iff_iff,uEq,Nat.beq_eq,beq_iff_eq,UInt8.toNat_inj]
def lEq:List UInt8→List UInt8→Bool
 | [],[]=>true
 | a::l,b::m=>bA (uEq a b) (lEq l m)
 | _,_=>false
theorem WW:∀ a b:List UInt8,lEq a b=true↔a=b
 | [],[]=>by simp[lEq]
 | [],b::m=>by simp[lEq]
 | a::l,[]=>by simp[lEq]
 | a::l,b::m=>by simp only[lEq,cJ,CU,beq_iff_eq,WW l m,List.cons.injEq]
def sEq (a b:ByteArray):Bool:=lEq a.data.toList b.data.toList
theorem MK (a b:ByteArray):sEq a b=true↔a=b:=by
 unfold sEq
 rw[WW]
 constructor
 ·intro h
  rcases a with ⟨⟨a⟩⟩;rcases b with ⟨⟨b⟩⟩
  simp at h;subst h;rfl
 ·rintro rfl;rfl
theorem acj (a b:ByteArray):sEq a b=(a==b):=by
 rw[Bool.eq_iff_iff,MK]
 show a=b↔(a.data==b.data)=true
 rw[beq_iff_eq]
 exact⟨fun h=>by rw[h],fun h=>by cases a;cases b;simp at h;rw[h]⟩
def iEq (a b:Int):Bool:=@Int.casesOn (fun _=>Bool) a (fun m=>@Int.casesOn (fun _=>Bool) b (fun k=>Nat.beq m k) (fun _=>false)) (fun m=>@Int.casesOn (fun _=>Bool) b (fun _=>false) (fun k=>Nat.beq m k))
theorem T4 (a b:Int):iEq a b=true↔a=b:=by
 cases a<;>cases b<;>simp[iEq]
 exact⟨fun h=>by rw[h],fun h=>Int.ofNat.inj h⟩
theorem YA (a b:Int):iEq a b=(a==b):=by
 rw[Bool.eq_iff_iff,T4,beq_iff_eq]
def abO:Value→Value→Bool
 | .string a,.string b=>sEq a b
 | .int _ a,.int _ b=>iEq a b
 | _,_=>false
theorem abc (a b:Value):abO a b=keq a b:=by
 unfold abO keq
 split<;>simp_all [acj,YA]
def Gq (k:Value):eN→Nat→Option (Nat×Nat×AV)
 | [],_=>none
 | (k',n,v)::r,i=>match abO k k' with
   | true=>some (i,n,v)
   | false=>Gq k r (i+1)
theorem yC (k:Value):∀ (es:eN) (i:Nat),Gq k es i=lW k es i
 | [],_=>rfl
 | (k',n,v)::r,i=>by
   simp only[Gq,lW]
   rw[abc]
   cases h:keq k k'
   ·simp[yC k r]
   ·simp
def abU (k:Value) (v:AV) (clock:Nat) (es:eN):AObj:=
 match Gq k es 0 with
 | some (i,n,_)=>.amap (es.set i (k,n,v)) clock
 | none=>.amap (es++[(k,clock,v)]) (clock+1)
theorem aay (k:Value) (v:AV) (clock:Nat) (es:eN):abU k v clock es=Ox k v clock es:=by
 unfold abU Ox;rw[yC]
 split<;>simp_all
def Rc (d:TypeDesc):eN→Bool
 | []=>true
 | e::es=>bA (kOk d e.1) (Rc d es)
theorem BR (d:TypeDesc):∀ es:eN,Rc d es=es.all fun e=>kOk d e.1
 | []=>rfl
 | e::es=>by
   simp only[Rc,List.all_cons,← BR d es]
   cases kOk d e.1<;>rfl
def MS (d:TypeDesc) (ok:Bool) (z x key:AV) (t:HT) (K:AV→Bool):Bool:=
 match key with
 | .lit k=>match x with
   | .lit (.map none)=>bA (kOk d k) (K (if ok then .tup [z,B false] else z))
   | .map i=>match t.get i with
     | some (.amap es _)=>bA (kOk d k) (bA (Rc d es) (match Gq k es 0 with
       | some (_,_,v)=>K (if ok then .tup [v,B true] else v)
       | none=>K (if ok then .tup [z,B false] else z)))
     | _=>false
   | _=>false
 | _=>false
theorem SG (r:HR t n h) {d:TypeDesc}{ok:Bool}{z x key:AV}{K:AV→Bool}(k:MS d ok z x key t K=true):ir d ok z x key h (fun r=>K r=true):=by
 unfold MS at k
 unfold ir
 split at k
 ·split at k
  ·rw[cJ]at k;simp only[if_pos k.1];exact k.2
  ·split at k
   ·rename_i hc
    simp only[r.at_ _ _ hc]
    rw[cJ,cJ,BR,yC]at k
    rw[if_pos (by simp[k.1,k.2.1])]
    have k:=k.2.2
    split at k<;>simp only[*]
   ·cases k
  ·cases k
 ·cases k
def vg (d:TypeDesc) (x key v:AV) (t:HT) (n:Nat) (K:HT→Nat→Bool):Bool:=
 match key,x with
 | .lit k,.map i=>(match t.get i with
   | some (.amap es clock)=>bA (kOk d k) (bA (Rc d es) (K (t.set (abU k v clock es) i) n))
   | _=>false)
 | _,_=>false
theorem zT (r:HR t n h) {d:TypeDesc}{x key v:AV}{K:HT→Nat→Bool}(k:vg d x key v t n K=true):gq d x key v h (KS K):=by
 unfold vg at k
 unfold gq
 split at k
 ·skip
  split at k
  ·rename_i hc
   simp only[r.at_ _ _ hc]
   rw[cJ,cJ,BR,aay]at k
   rw[if_pos (by simp[k.1,k.2.1])]
   exact⟨_,_,r.set hc,k.2.2⟩
  ·cases k
 ·cases k
def DJ (d:TypeDesc) (z x key:AV) (t:HT) (n:Nat) (K:AV→HT→Nat→Bool):Bool:=
 match key,x with
 | .lit k,.map i=>(match t.get i with
   | some (.amap es clock)=>bA (kOk d k) (bA (Rc d es) (match Gq k es 0 with
     | some (_,m,v)=>K (.tup [v,I m]) t n
     | none=>K (.tup [z,I clock]) (t.set (.amap (es++[(k,clock,z)]) (clock+1)) i) n))
   | _=>false)
 | _,_=>false
theorem Lz (r:HR t n h) {d:TypeDesc}{z x key:AV}{K:AV→HT→Nat→Bool}(k:DJ d z x key t n K=true):kw d z x key h (KH K):=by
 unfold DJ at k
 unfold kw
 split at k
 ·skip
  split at k
  ·rename_i hc
   simp only[r.at_ _ _ hc]
   rw[cJ,cJ,BR,yC]at k
   rw[if_pos (by simp[k.1,k.2.1])]
   have k:=k.2.2
   split at k
   ·simp only[*];exact⟨_,_,r,k⟩
   ·simp only[*];exact⟨_,_,r.set hc,k⟩
  ·cases k
 ·cases k
def wT (x st v:AV) (t:HT) (n:Nat) (K:HT→Nat→Bool):Bool:=
 match st,x with
 | .lit (.int .i64 m),.map i=>(match t.get i with
   | some (.amap es clock)=>(match uG m es 0 with
     | some (j,k,b)=>K (t.set (.amap (es.set j (k,b,v)) clock) i) n
     | none=>false)
   | _=>false)
 | _,_=>false
theorem G9 (r:HR t n h) {x st v:AV}{K:HT→Nat→Bool}(k:wT x st v t n K=true):gd x st v h (KS K):=by
 unfold wT at k
 unfold gd
 split at k
 ·skip
  split at k
  ·rename_i hc
   simp only[r.at_ _ _ hc]
   split at k
   ·simp only[*];exact⟨_,_,r.set hc,k⟩
   ·cases k
  ·cases k
 ·cases k
def Nq (d:TypeDesc) (x key:AV) (t:HT) (n:Nat) (K:HT→Nat→Bool):Bool:=
 match key with
 | .lit k=>match x with
   | .lit (.map none)=>bA (kOk d k) (K t n)
   | .map i=>(match t.get i with
     | some (.amap es clock)=>bA (kOk d k) (bA (Rc d es) (match Gq k es 0 with
       | some (j,_,_)=>K (t.set (.amap (es.eraseIdx j) clock) i) n
       | none=>K t n))
     | _=>false)
   | _=>false
 | _=>false
theorem Sp (r:HR t n h) {d:TypeDesc}{x key:AV}{K:HT→Nat→Bool}(k:Nq d x key t n K=true):pW d x key h (KS K):=by
 unfold Nq at k
 unfold pW
 split at k
 ·split at k
  ·rw[cJ]at k;simp only[if_pos k.1];exact⟨_,_,r,k.2⟩
  ·skip
   split at k
   ·rename_i hc
    simp only[r.at_ _ _ hc]
    rw[cJ,cJ,BR,yC]at k
    rw[if_pos (by simp[k.1,k.2.1])]
    have k:=k.2.2
    split at k
    ·simp only[*];exact⟨_,_,r.set hc,k⟩
    ·simp only[*];exact⟨_,_,r,k⟩
   ·cases k
  ·cases k
 ·cases k
def IE (t:HT) (n:Nat) (K:AV→HT→Nat→Bool):Bool:=fN n fun n=>K (.map n) (t.set (.amap [] 0) n) (n+1)
theorem Oz (r:HR t n h) {K:AV→HT→Nat→Bool}(k:IE t n K=true):uB h (KH K):=by
 unfold IE at k;rw[jz]at k
 unfold uB
 rw[r.len]
 exact⟨_,_,r.push _,k⟩
def M8 (x:AV) (t:HT) (n:Nat) (K:AV→HT→Nat→Bool):Bool:=
 match x with
 | .lit (.string s)=>fN n fun n=>K (.ptr n 0) (t.set (.siter s 0) n) (n+1)
 | _=>false
theorem SA (r:HR t n h) {x:AV}{K:AV→HT→Nat→Bool}(k:M8 x t n K=true):rY x h (KH K):=by
 unfold M8 at k
 unfold rY
 split at k
 ·rw[jz]at k;rw[r.len];exact⟨_,_,r.push _,k⟩
 ·cases k
def So (x:AV) (t:HT) (n:Nat) (K:AV→HT→Nat→Bool):Bool:=
 match x with
 | .ptr i 0=>(match t.get i with
   | some (.siter s pos)=>bI (Nat.blt pos s.size) (K (.tup [B true,I pos,.lit (.int .i32 (Utf8.decode s pos).1)]) (t.set (.siter s (pos+(Utf8.decode s pos).2)) i) n) (K (.tup [B false]) t n)
   | _=>false)
 | _=>false
theorem Wo (r:HR t n h) {x:AV}{K:AV→HT→Nat→Bool}(k:So x t n K=true):vF x h (KH K):=by
 unfold So at k
 unfold vF
 split at k
 ·skip
  split at k
  ·rename_i hc
   simp only[r.at_ _ _ hc]
   rw[J7]at k
   rcases k with ⟨hp,k⟩|⟨hp,k⟩
   ·rw[if_pos (by rw[Nat.blt_eq]at hp;exact hp)];exact⟨_,_,r.set hc,k⟩
   ·rw[if_neg (fun e=>by rw[← Nat.blt_eq,hp]at e;cases e)];exact⟨_,_,r,k⟩
  ·cases k
 ·cases k
def LN (x:AV) (t:HT) (n:Nat) (K:AV→HT→Nat→Bool):Bool:=
 match x with
 | .lit (.map none)=>fN n fun n=>K (.ptr n 0) (t.set (.miter none 0 [] 0) n) (n+1)
 | .map i=>(match t.get i with
   | some (.amap es clock)=>fN n fun n=>K (.ptr n 0) (t.set (.miter (some i) clock [] clock) n) (n+1)
   | _=>false)
 | _=>false
theorem ST (r:HR t n h) {x:AV}{K:AV→HT→Nat→Bool}(k:LN x t n K=true):qd x h (KH K):=by
 unfold LN at k
 unfold qd
 split at k
 ·rw[jz]at k;rw[r.len];exact⟨_,_,r.push _,k⟩
 ·skip
  split at k
  ·rename_i hc
   simp only[r.at_ _ _ hc]
   rw[jz]at k;rw[r.len];exact⟨_,_,r.push _,k⟩
  ·cases k
 ·cases k
def Rx (x:AV) (t:HT) (n:Nat) (K:AV→HT→Nat→Bool):Bool:=
 match x with
 | .ptr i 0=>(match t.get i with
   | some (.miter none _ _ _)=>K (.tup [B false]) t n
   | some (.miter (some j) since seen last)=>(match t.get j with
     | some (.amap es clock)=>
       decide ((es.all fun e=>e.1.oneCell')=true∧(!seen.isEmpty&&!es.isEmpty&&es.all fun e=>decide (e.2.1≥last))=false)&&
       ((!(es.all fun e=>seen.contains e.2.1||decide (since≤e.2.1))||K (.tup [B false]) t n)&&
       es.all fun e=>seen.contains e.2.1||K (.tup [B true,.lit e.1,e.2.2]) (t.set (.miter (some j) since (seen++[e.2.1]) clock) i) n)
     | _=>false)
   | _=>false)
 | _=>false
theorem Vi (r:HR t n h) {x:AV}{K:AV→HT→Nat→Bool}(k:Rx x t n K=true):vO x h (KH K):=by
 unfold Rx at k
 unfold vO
 split at k
 ·skip
  split at k
  ·rename_i hes;simp only[r.at_ _ _ hes];exact⟨_,_,r,k⟩
  ·rename_i hes
   split at k
   ·rename_i hm
    simp only[r.at_ _ _ hes,r.at_ _ _ hm]
    simp only[Bool.and_eq_true,decide_eq_true_eq,Bool.or_eq_true,Bool.not_eq_true',List.all_eq_true,List.all_eq_false]at k
    obtain⟨k0,k1,k2⟩:=k
    refine⟨⟨List.all_eq_true.2 k0.1,k0.2⟩,fun ha=>?_,fun e he hs=>?_⟩
    ·rcases k1 with ⟨x,hx,hn⟩|k1
     ·exfalso
      rcases ha x hx with h1|h1
      ·exact hn (by simp[h1])
      ·exact hn (by simp[h1])
     ·exact⟨_,_,r,k1⟩
    ·rcases k2 e he with h1|h1
     ·exact (hs (by simpa using h1)).elim
     ·exact⟨_,_,r.set hes,h1⟩
   ·cases k
  ·cases k
 ·cases k
def S3 (x:AV) (t:HT) (K:AV→Bool):Bool:=
 match x with
 | .ptr i 0=>(match t.get i with
   | some (.miter (some j) _ seen last)=>(match t.get j,seen.getLast? with
     | some (.amap es clock),some n=>(match o5 n es with
       | some (k,v)=>bA (k.oneCell'&&clock==last) (K (.tup [.lit k,v]))
       | none=>false)
     | _,_=>false)
   | _=>false)
 | _=>false
theorem UX (r:HR t n h) {x:AV}{K:AV→Bool}(k:S3 x t K=true):pm x h (fun r=>K r=true):=by
 unfold S3 at k
 unfold pm
 split at k
 ·split at k
  ·rename_i hc
   simp only[r.at_ _ _ hc]
   split at k
   ·rename_i h1 h2
    simp only[r.at_ _ _ h1,h2]
    split at k
    ·rw[cJ]at k;simp only[*,if_true]
    ·cases k
   ·cases k
  ·cases k
 ·cases k
end
end
section
def kNo (k:IntKind):Nat:=match k with|.i8=>0|.i16=>1|.i32=>2|.i64=>3|.u8=>4|.u16=>5|.u32=>6|.u64=>7
def kEq (j k:IntKind):Bool:=Nat.beq (kNo j) (kNo k)
theorem TW (j k:IntKind):kEq j k=true↔j=k:=by cases j<;>cases k<;>decide
def ab2 (n:Int):Bool:=@Int.casesOn (fun _=>Bool) n (fun m=>Nat.ble m 9223372036854775807) (fun m=>Nat.ble m 9223372036854775807)
theorem UJ {n:Int}(h:ab2 n=true):IntKind.i64.wrap n=n:=by
 have hb:-9223372036854775808≤n∧n≤9223372036854775807:=by
  cases n with
  | ofNat m=>have:m≤9223372036854775807:=Nat.le_of_ble_eq_true h;constructor<;>simp<;>omega
  | negSucc m=>have:m≤9223372036854775807:=Nat.le_of_ble_eq_true h;constructor<;>omega
 exact IntWalk.i64_in _ hb
def wI (k:IntKind) (n:Int) (K:Int→Bool):Bool:=bI (bA (Nat.beq (kNo k) 3) (ab2 n)) (fI n K) (fI (k.wrap n) K)
theorem abE (k:IntKind) (n:Int) (K:Int→Bool):wI k n K=K (k.wrap n):=by
 unfold wI
 cases h:bA (Nat.beq (kNo k) 3) (ab2 n)
 ·simp[bI,N2]
 ·rw[cJ]at h
  have hk:k=.i64:=by
   have h1:=Nat.eq_of_beq_eq_true h.1
   cases k<;>simp_all [kNo]
  subst hk
  simp[bI,N2,UJ h.2]
def iLt (a b:Int):Bool:=@Int.casesOn (fun _=>Bool) a (fun m=>@Int.casesOn (fun _=>Bool) b (fun k=>Nat.blt m k) (fun _=>false)) (fun m=>@Int.casesOn (fun _=>Bool) b (fun _=>true) (fun k=>Nat.blt k m))
theorem rz (a b:Nat):Nat.blt a b=true↔a<b:=by simp
theorem Tw (a b:Int):iLt a b=true↔a<b:=by
 cases a<;>cases b
 ·exact (rz _ _).trans ⟨fun h=>by simpa using h,fun h=>by simpa using h⟩
 ·exact⟨fun h=>(by cases h),fun h=>by simp at h;omega⟩
 ·exact⟨fun h=>by simp;omega,fun h=>rfl⟩
 ·exact (rz _ _).trans ⟨fun h=>by omega,fun h=>by omega⟩
def fS:List UInt8→(List UInt8→Bool)→Bool
 | [],K=>K []
 | a::l,K=>fS l fun l=>K (a::l)
theorem XW:∀ (l:List UInt8) (K:List UInt8→Bool),fS l K=K l
 | [],K=>rfl
 | a::l,K=>by simp only[fS,XW l]
def uLt (a b:UInt8):Bool:=Nat.blt a.toNat b.toNat
def lLt:List UInt8→List UInt8→Bool
 | _,[]=>false
 | [],_::_=>true
 | a::x,b::y=>bI (uLt a b) true (bA (uEq a b) (lLt x y))
theorem Y6:∀ a b:List UInt8,lLt a b=Op.bytesLess a b
 | [],[]=>rfl
 | a::x,[]=>rfl
 | [],b::y=>rfl
 | a::x,b::y=>by
   simp only[lLt,Op.bytesLess,Y6 x y,CU]
   have:uLt a b=decide (a<b):=by
    rw[Bool.eq_iff_iff,uLt,rz,decide_eq_true_eq,UInt8.lt_iff_toNat_lt]
   rw[this]
   cases decide (a<b)<;>cases (a==b)<;>rfl
def oV (o:Option Value) (K:AV→Bool):Bool:=match o with
 | some (.int k r)=>fI r fun r=>K (.lit (.int k r))
 | some (.bool b)=>fB b fun b=>K (.lit (.bool b))
 | some (.float k r)=>fN r fun r=>K (.lit (.float k r))
 | some r=>K (.lit r)
 | none=>false
theorem Xq (o:Option Value) (K:AV→Bool) (h:oV o K=true):∃ r,o=some r∧K (.lit r)=true:=by
 unfold oV at h
 split at h
 ·rw[N2]at h;exact⟨_,rfl,h⟩
 ·rw[Tv]at h;exact⟨_,rfl,h⟩
 ·rw[jz]at h;exact⟨_,rfl,h⟩
 ·exact⟨_,rfl,h⟩
 ·cases h
def abK (op:BinOp) (k k':IntKind) (a b:Int) (K:AV→Bool):Bool:=
 match op with
 | .add=>bA (kEq k k') (wI k (Int.add a b) fun r=>K (.lit (.int k r)))
 | .sub=>bA (kEq k k') (wI k (Int.sub a b) fun r=>K (.lit (.int k r)))
 | .mul=>bA (kEq k k') (wI k (Int.mul a b) fun r=>K (.lit (.int k r)))
 | .eql=>bA (kEq k k') (fB (iEq a b) fun r=>K (B r))
 | .neq=>bA (kEq k k') (fB (iEq a b) fun r=>K (B !r))
 | .lss=>bA (kEq k k') (fB (iLt a b) fun r=>K (B r))
 | .leq=>bA (kEq k k') (fB (iLt b a) fun r=>K (B !r))
 | .gtr=>bA (kEq k k') (fB (iLt b a) fun r=>K (B r))
 | .geq=>bA (kEq k k') (fB (iLt a b) fun r=>K (B !r))
 | op=>oV (cC op (.int k a) (.int k' b)) K
def ab0 (op:BinOp) (x y:ByteArray) (K:AV→Bool):Bool:=
 match op with
 | .add=>bA (Nat.ble (Nat.add x.data.toList.length y.data.toList.length) 1099511627776) (fS (x.data.toList++y.data.toList) fun l=>K (S ⟨⟨l⟩⟩))
 | .eql=>fB (sEq x y) fun r=>K (B r)
 | .neq=>fB (sEq x y) fun r=>K (B !r)
 | .lss=>fB (lLt x.data.toList y.data.toList) fun r=>K (B r)
 | .leq=>fB (bI (lLt x.data.toList y.data.toList) true (sEq x y)) fun r=>K (B r)
 | .gtr=>fB (bI (lLt x.data.toList y.data.toList) true (sEq x y)) fun r=>K (B !r)
 | .geq=>fB (lLt x.data.toList y.data.toList) fun r=>K (B !r)
 | _=>false
def ZL (op:BinOp) (x y:AV) (K:AV→Bool):Bool:=
 match x,y with
 | .lit (.int k a),.lit (.int k' b)=>abK op k k' a b K
 | .lit (.string a),.lit (.string b)=>ab0 op a b K
 | .lit a,.lit b=>oV (cC op a b) K
 | _,_=>false
theorem aa3 {op:BinOp}{k k':IntKind}{a b:Int}{K:AV→Bool}(h:abK op k k' a b K=true):∃ r,cC op (.int k a) (.int k' b)=some r∧K (.lit r)=true:=by
 unfold abK at h
 have h1:decide (b<a)=!decide (a≤b):=by by_cases hh:a≤b<;>simp[hh]<;>omega
 have h2:decide (a<b)=!decide (b≤a):=by by_cases hh:b≤a<;>simp[hh]<;>omega
 have e1:iLt a b=decide (a<b):=by rw[Bool.eq_iff_iff,Tw,decide_eq_true_eq]
 have e2:iLt b a=decide (b<a):=by rw[Bool.eq_iff_iff,Tw,decide_eq_true_eq]
 split at h
 case h_10=>exact Xq _ _ h
 all_goals
  rw[cJ,TW]at h
  obtain⟨rfl,h⟩:=h
  first|rw[abE]at h|rw[Tv]at h
  refine⟨_,by simp only[cC,gY,if_true];rfl,?_⟩
  first
   | exact h
   | (rw[YA]at h;exact h)
   | (rw[e1]at h;exact h)
   | (rw[e2]at h;exact h)
   | (rw[e1,h2,Bool.not_not]at h;exact h)
   | (rw[e2,h1,Bool.not_not]at h;exact h)
theorem aaY {op:BinOp}{x y:ByteArray}{K:AV→Bool}(h:ab0 op x y K=true):∃ r,cC op (.string x) (.string y)=some r∧K (.lit r)=true:=by
 have he:(x.toList==y.toList)=sEq x y:=by
  rw[Bool.eq_iff_iff,MK,beq_iff_eq,ByteArray.toList_eq,ByteArray.toList_eq]
  exact⟨fun h=>by rcases x with ⟨⟨x⟩⟩;rcases y with ⟨⟨y⟩⟩;simp at h;rw[h],fun h=>by rw[h]⟩
 have hl:Op.bytesLess x.toList y.toList=lLt x.data.toList y.data.toList:=by rw[ByteArray.toList_eq,ByteArray.toList_eq,Y6]
 have hor:∀ a b:Bool,bI a true b=(a||b):=fun a b=>by cases a<;>rfl
 have hbl:cC op (.string x) (.string y)=wG op x y:=by cases op<;>rfl
 rw[hbl]
 unfold ab0 at h
 unfold wG
 simp only[he,hl]
 split at h
 ·rw[cJ,XW]at h
  have hs:=Nat.le_of_ble_eq_true h.1
  have hsz:¬ ((x.size+y.size:Nat):Int) > IntKind.i64.max:=by
   have h1:x.data.toList.length=x.size:=rfl
   have h2:y.data.toList.length=y.size:=rfl
   have h3:Nat.add x.data.toList.length y.data.toList.length=x.size+y.size:=rfl
   rw[h3]at hs
   have:IntKind.i64.max=9223372036854775807:=by decide
   rw[this];omega
  refine⟨_,by rw[if_neg hsz],?_⟩
  have:(x++y:ByteArray)=⟨⟨x.data.toList++y.data.toList⟩⟩:=by
   have:(x++y).data=x.data++y.data:=by simp
   rcases h:x++y with ⟨⟨l⟩⟩
   rw[h]at this
   congr 1
   apply Array.toList_inj.1
   have h2:=congrArg Array.toList this
   simpa using h2
  rw[this]
  exact h.2
 all_goals first
  | cases h;done
  | (rw[Tv]at h;exact⟨_,rfl,h⟩)
  | (rw[Tv,hor]at h;exact⟨_,rfl,h⟩)
theorem Mi {op:BinOp}{x y:AV}{K:AV→Bool}(h:ZL op x y K=true):Fb op x y (fun r=>K r=true):=by
 unfold ZL at h
 unfold Fb
 split at h
 ·obtain⟨r,e,k⟩:=aa3 h;simp only[e];exact k
 ·obtain⟨r,e,k⟩:=aaY h;simp only[e];exact k
 ·obtain⟨r,e,k⟩:=Xq _ _ h;simp only[e];exact k
 ·cases h
def L0 (kd:FloatKind) (x:AV) (K:AV→Bool):Bool:=match x with|.lit (.int _ n)=>fN (kd.nearest n) fun r=>K (.lit (.float kd r))|_=>false
theorem RR {kd:FloatKind}{x:AV}{K:AV→Bool}(h:L0 kd x K=true):mP kd x (fun r=>K r=true):=by
 unfold L0 at h
 unfold mP
 split at h
 ·rw[jz]at h;exact h
 ·cases h
def MW (kd:IntKind) (x:AV) (K:AV→Bool):Bool:=match x with|.lit (.int _ n)=>wI kd n fun r=>K (.lit (.int kd r))|_=>false
theorem RU {kd:IntKind}{x:AV}{K:AV→Bool}(h:MW kd x K=true):mO kd x (fun r=>K r=true):=by
 unfold MW at h
 unfold mO
 split at h
 ·rw[abE]at h;exact h
 ·cases h
def tUn (op:UnOp) (x:AV) (K:AV→Bool):Bool:=bUn op x fun v=>match v with|.lit r=>oV (some r) K|v=>K v
theorem abX {op:UnOp}{x:AV}{K:AV→Bool}(h:tUn op x K=true):pUn op x (fun r=>K r=true):=by
 have hk:∀ v:AV,(match v with|.lit r=>oV (some r) K|v=>K v)=true→K v=true:=fun v k=>by
  split at k
  ·obtain⟨r',e,k⟩:=Xq _ _ k;cases e;exact k
  ·exact k
 have k:=acE _ _ h
 unfold pUn at k ⊢
 split at k<;>first|exact k.elim|exact hk _ k
def Ys:List UInt8→Nat→Option UInt8
 | [],_=>none
 | b::l,i=>@Nat.casesOn (fun _=>Option UInt8) i (some b) (fun i=>Ys l i)
theorem TQ:∀ (l:List UInt8) (i:Nat),Ys l i=l[i]?
 | [],i=>by simp[Ys]
 | b::l,0=>rfl
 | b::l,i+1=>by show Ys l i=_;rw[TQ l i];simp
def Mx (v i:AV) (K:AV→Bool):Bool:=match v,i with
 | .lit (.string s),.lit (.int _ (.ofNat n))=>(match Ys s.data.toList n with|some b=>fN b.toNat fun c=>K (.lit (.int .u8 (.ofNat c)))|none=>false)
 | _,_=>false
theorem RI {v i:AV}{K:AV→Bool}(h:Mx v i K=true):lx v i (fun r=>K r=true):=by
 unfold Mx at h
 unfold lx
 split at h
 ·rename_i s k n
  rw[TQ]at h
  split at h
  ·rename_i b hb
   rw[jz]at h
   have hl:n<s.size:=(List.getElem?_eq_some_iff.1 hb).1
   refine⟨⟨by simp,by simpa using hl⟩,?_⟩
   have:bAt s (Int.ofNat n)=Int.ofNat b.toNat:=by
    unfold bAt
    have:s.data[n]?=some b:=by rw[← Array.getElem?_toList];exact hb
    simp[this]
   rw[this];exact h
  ·cases h
 ·cases h
def aar (o:Option AV) (d:Nat):Option Nat:=match o with|none=>some d|some (.lit (.int _ (.ofNat n)))=>some n|_=>none
theorem Tz {o:Option AV}{d m:Nat}(h:aar o d=some m):lk o d=some (m:Int):=by
 unfold aar at h
 split at h
 ·cases h;rfl
 ·cases h;rfl
 ·cases h
def Nj (v:AV) (lo hi:Option AV) (K:AV→Bool):Bool:=
 match v with
 | .lit (.string s)=>(match aar lo 0,aar hi s.data.toList.length with
   | some l,some h=>bA (Nat.ble l h) (bA (Nat.ble h s.data.toList.length) (fS ((s.data.toList.drop l).take (Nat.sub h l)) fun r=>K (S ⟨⟨r⟩⟩)))
   | _,_=>false)
 | _=>false
theorem RX (s:ByteArray) (l h:Nat):s.extract l h=⟨⟨(s.data.toList.drop l).take (h-l)⟩⟩:=by
 have h1:(s.extract l h).data=s.data.extract l h:=by simp
 rcases he:s.extract l h with ⟨d⟩
 rw[he]at h1
 congr 1
 apply Array.toList_inj.1
 have h2:=congrArg Array.toList h1
 simpa [Array.toList_extract,List.extract_eq_take_drop] using h2
theorem SP {v:AV}{lo hi:Option AV}{K:AV→Bool}(k:Nj v lo hi K=true):jl v lo hi (fun r=>K r=true):=by
 unfold Nj at k
 unfold jl
 split at k
 ·rename_i s
  split at k
  ·rename_i l h h1 h2
   rw[cJ,cJ,XW]at k
   have a1:=Nat.le_of_ble_eq_true k.1
   have a2:=Nat.le_of_ble_eq_true k.2.1
   have h2':lk hi s.size=some (h:Int):=Tz h2
   have h1':lk lo 0=some (l:Int):=Tz h1
   simp only[h1',h2']
   have hz:s.data.toList.length=s.size:=rfl
   rw[hz]at a2
   refine⟨⟨by omega,by omega,by omega⟩,?_⟩
   simp only[Int.toNat_natCast]
   rw[RX]
   exact k.2.2
  ·cases k
 ·cases k
def Xo (v:AV) (K:AV→Bool):Bool:=match v with|.lit (.string s)=>fN s.data.toList.length fun n=>K (I (.ofNat n))|_=>false
theorem YM {v:AV}{K:AV→Bool}(h:Xo v K=true):zC v (fun r=>K r=true):=by
 unfold Xo at h
 unfold zC
 split at h
 ·rw[jz]at h;exact h
 ·cases h
def AF (off:Nat) (v:AV) (K:AV→Bool):Bool:=match v with|.ptr i o=>fN (Nat.add o off) fun o=>K (.ptr i o)|.cptr cs=>K (.cptr (cs.drop off))|_=>false
theorem Jc {off:Nat}{v:AV}{K:AV→Bool}(h:AF off v K=true):fA off v (fun r=>K r=true):=by
 unfold AF at h
 unfold fA
 split at h
 ·rw[jz]at h;exact h
 ·exact h
 ·cases h
def Aq (size:Nat) (v i:AV) (K:AV→Bool):Bool:=
 match i with
 | .lit (.int _ (.ofNat n))=>match v with
   | .sl j off len sz=>bA (Nat.blt n len) (bA (Nat.beq sz size) (fN (Nat.add off (Nat.mul n size)) fun o=>K (.ptr j o)))
   | .snap m cs=>bA (Nat.blt n m) (K (.cptr (cs.drop (Nat.mul n size))))
   | .full m cs=>bA (Nat.blt n m) (K (.cptr (cs.drop (Nat.mul n size))))
   | _=>false
 | _=>false
theorem Jt {size:Nat}{v i:AV}{K:AV→Bool}(h:Aq size v i K=true):dB size v i (fun r=>K r=true):=by
 unfold Aq at h
 unfold dB
 split at h
 ·rename_i k n
  simp only[asI]
  split at h
  ·rw[cJ,cJ,jz,rz]at h
   exact⟨⟨by simp,by simpa using h.1,Nat.eq_of_beq_eq_true h.2.1⟩,h.2.2⟩
  ·rw[cJ,rz]at h
   exact⟨⟨by simp,by simpa using h.1⟩,h.2⟩
  ·rw[cJ,rz]at h
   exact⟨⟨by simp,by simpa using h.1⟩,h.2⟩
  ·cases h
 ·cases h
end
section
structure V16 where
 (a0 a1 a2 a3 a4 a5 a6 a7 a8 a9 a10 a11 a12 a13 a14 a15:Option AV)
structure E16 where
 (b0 b1 b2 b3 b4 b5 b6 b7 b8 b9 b10 b11 b12 b13 b14 b15:V16)
structure K0 where
 g:V16→Option AV
 s:V16→AV→V16
structure ac8 where
 g:E16→Option AV
 s:E16→AV→E16
def v0:V16:=⟨none,none,none,none,none,none,none,none,none,none,none,none,none,none,none,none⟩
def ee0:E16:=⟨v0,v0,v0,v0,v0,v0,v0,v0,v0,v0,v0,v0,v0,v0,v0,v0⟩
def KA (i:Nat):K0:=match i with
 | 0=>⟨fun v=>v.a0,fun v x=>match v with|⟨a0,a1,a2,a3,a4,a5,a6,a7,a8,a9,a10,a11,a12,a13,a14,a15⟩=>⟨some x,a1,a2,a3,a4,a5,a6,a7,a8,a9,a10,a11,a12,a13,a14,a15⟩⟩
 | 1=>⟨fun v=>v.a1,fun v x=>match v with|⟨a0,a1,a2,a3,a4,a5,a6,a7,a8,a9,a10,a11,a12,a13,a14,a15⟩=>⟨a0,some x,a2,a3,a4,a5,a6,a7,a8,a9,a10,a11,a12,a13,a14,a15⟩⟩
 | 2=>⟨fun v=>v.a2,fun v x=>match v with|⟨a0,a1,a2,a3,a4,a5,a6,a7,a8,a9,a10,a11,a12,a13,a14,a15⟩=>⟨a0,a1,some x,a3,a4,a5,a6,a7,a8,a9,a10,a11,a12,a13,a14,a15⟩⟩
 | 3=>⟨fun v=>v.a3,fun v x=>match v with|⟨a0,a1,a2,a3,a4,a5,a6,a7,a8,a9,a10,a11,a12,a13,a14,a15⟩=>⟨a0,a1,a2,some x,a4,a5,a6,a7,a8,a9,a10,a11,a12,a13,a14,a15⟩⟩
 | 4=>⟨fun v=>v.a4,fun v x=>match v with|⟨a0,a1,a2,a3,a4,a5,a6,a7,a8,a9,a10,a11,a12,a13,a14,a15⟩=>⟨a0,a1,a2,a3,some x,a5,a6,a7,a8,a9,a10,a11,a12,a13,a14,a15⟩⟩
 | 5=>⟨fun v=>v.a5,fun v x=>match v with|⟨a0,a1,a2,a3,a4,a5,a6,a7,a8,a9,a10,a11,a12,a13,a14,a15⟩=>⟨a0,a1,a2,a3,a4,some x,a6,a7,a8,a9,a10,a11,a12,a13,a14,a15⟩⟩
 | 6=>⟨fun v=>v.a6,fun v x=>match v with|⟨a0,a1,a2,a3,a4,a5,a6,a7,a8,a9,a10,a11,a12,a13,a14,a15⟩=>⟨a0,a1,a2,a3,a4,a5,some x,a7,a8,a9,a10,a11,a12,a13,a14,a15⟩⟩
 | 7=>⟨fun v=>v.a7,fun v x=>match v with|⟨a0,a1,a2,a3,a4,a5,a6,a7,a8,a9,a10,a11,a12,a13,a14,a15⟩=>⟨a0,a1,a2,a3,a4,a5,a6,some x,a8,a9,a10,a11,a12,a13,a14,a15⟩⟩
 | 8=>⟨fun v=>v.a8,fun v x=>match v with|⟨a0,a1,a2,a3,a4,a5,a6,a7,a8,a9,a10,a11,a12,a13,a14,a15⟩=>⟨a0,a1,a2,a3,a4,a5,a6,a7,some x,a9,a10,a11,a12,a13,a14,a15⟩⟩
 | 9=>⟨fun v=>v.a9,fun v x=>match v with|⟨a0,a1,a2,a3,a4,a5,a6,a7,a8,a9,a10,a11,a12,a13,a14,a15⟩=>⟨a0,a1,a2,a3,a4,a5,a6,a7,a8,some x,a10,a11,a12,a13,a14,a15⟩⟩
 | 10=>⟨fun v=>v.a10,fun v x=>match v with|⟨a0,a1,a2,a3,a4,a5,a6,a7,a8,a9,a10,a11,a12,a13,a14,a15⟩=>⟨a0,a1,a2,a3,a4,a5,a6,a7,a8,a9,some x,a11,a12,a13,a14,a15⟩⟩
 | 11=>⟨fun v=>v.a11,fun v x=>match v with|⟨a0,a1,a2,a3,a4,a5,a6,a7,a8,a9,a10,a11,a12,a13,a14,a15⟩=>⟨a0,a1,a2,a3,a4,a5,a6,a7,a8,a9,a10,some x,a12,a13,a14,a15⟩⟩
 | 12=>⟨fun v=>v.a12,fun v x=>match v with|⟨a0,a1,a2,a3,a4,a5,a6,a7,a8,a9,a10,a11,a12,a13,a14,a15⟩=>⟨a0,a1,a2,a3,a4,a5,a6,a7,a8,a9,a10,a11,some x,a13,a14,a15⟩⟩
 | 13=>⟨fun v=>v.a13,fun v x=>match v with|⟨a0,a1,a2,a3,a4,a5,a6,a7,a8,a9,a10,a11,a12,a13,a14,a15⟩=>⟨a0,a1,a2,a3,a4,a5,a6,a7,a8,a9,a10,a11,a12,some x,a14,a15⟩⟩
 | 14=>⟨fun v=>v.a14,fun v x=>match v with|⟨a0,a1,a2,a3,a4,a5,a6,a7,a8,a9,a10,a11,a12,a13,a14,a15⟩=>⟨a0,a1,a2,a3,a4,a5,a6,a7,a8,a9,a10,a11,a12,a13,some x,a15⟩⟩
 | 15=>⟨fun v=>v.a15,fun v x=>match v with|⟨a0,a1,a2,a3,a4,a5,a6,a7,a8,a9,a10,a11,a12,a13,a14,a15⟩=>⟨a0,a1,a2,a3,a4,a5,a6,a7,a8,a9,a10,a11,a12,a13,a14,some x⟩⟩
 | _=>⟨fun _=>none,fun v _=>v⟩
def Ks (j:Nat) (l:K0):ac8:=match j with
 | 0=>⟨fun e=>l.g e.b0,fun e x=>match e with|⟨b0,b1,b2,b3,b4,b5,b6,b7,b8,b9,b10,b11,b12,b13,b14,b15⟩=>⟨l.s b0 x,b1,b2,b3,b4,b5,b6,b7,b8,b9,b10,b11,b12,b13,b14,b15⟩⟩
 | 1=>⟨fun e=>l.g e.b1,fun e x=>match e with|⟨b0,b1,b2,b3,b4,b5,b6,b7,b8,b9,b10,b11,b12,b13,b14,b15⟩=>⟨b0,l.s b1 x,b2,b3,b4,b5,b6,b7,b8,b9,b10,b11,b12,b13,b14,b15⟩⟩
 | 2=>⟨fun e=>l.g e.b2,fun e x=>match e with|⟨b0,b1,b2,b3,b4,b5,b6,b7,b8,b9,b10,b11,b12,b13,b14,b15⟩=>⟨b0,b1,l.s b2 x,b3,b4,b5,b6,b7,b8,b9,b10,b11,b12,b13,b14,b15⟩⟩
 | 3=>⟨fun e=>l.g e.b3,fun e x=>match e with|⟨b0,b1,b2,b3,b4,b5,b6,b7,b8,b9,b10,b11,b12,b13,b14,b15⟩=>⟨b0,b1,b2,l.s b3 x,b4,b5,b6,b7,b8,b9,b10,b11,b12,b13,b14,b15⟩⟩
 | 4=>⟨fun e=>l.g e.b4,fun e x=>match e with|⟨b0,b1,b2,b3,b4,b5,b6,b7,b8,b9,b10,b11,b12,b13,b14,b15⟩=>⟨b0,b1,b2,b3,l.s b4 x,b5,b6,b7,b8,b9,b10,b11,b12,b13,b14,b15⟩⟩
 | 5=>⟨fun e=>l.g e.b5,fun e x=>match e with|⟨b0,b1,b2,b3,b4,b5,b6,b7,b8,b9,b10,b11,b12,b13,b14,b15⟩=>⟨b0,b1,b2,b3,b4,l.s b5 x,b6,b7,b8,b9,b10,b11,b12,b13,b14,b15⟩⟩
 | 6=>⟨fun e=>l.g e.b6,fun e x=>match e with|⟨b0,b1,b2,b3,b4,b5,b6,b7,b8,b9,b10,b11,b12,b13,b14,b15⟩=>⟨b0,b1,b2,b3,b4,b5,l.s b6 x,b7,b8,b9,b10,b11,b12,b13,b14,b15⟩⟩
 | 7=>⟨fun e=>l.g e.b7,fun e x=>match e with|⟨b0,b1,b2,b3,b4,b5,b6,b7,b8,b9,b10,b11,b12,b13,b14,b15⟩=>⟨b0,b1,b2,b3,b4,b5,b6,l.s b7 x,b8,b9,b10,b11,b12,b13,b14,b15⟩⟩
 | 8=>⟨fun e=>l.g e.b8,fun e x=>match e with|⟨b0,b1,b2,b3,b4,b5,b6,b7,b8,b9,b10,b11,b12,b13,b14,b15⟩=>⟨b0,b1,b2,b3,b4,b5,b6,b7,l.s b8 x,b9,b10,b11,b12,b13,b14,b15⟩⟩
 | 9=>⟨fun e=>l.g e.b9,fun e x=>match e with|⟨b0,b1,b2,b3,b4,b5,b6,b7,b8,b9,b10,b11,b12,b13,b14,b15⟩=>⟨b0,b1,b2,b3,b4,b5,b6,b7,b8,l.s b9 x,b10,b11,b12,b13,b14,b15⟩⟩
 | 10=>⟨fun e=>l.g e.b10,fun e x=>match e with|⟨b0,b1,b2,b3,b4,b5,b6,b7,b8,b9,b10,b11,b12,b13,b14,b15⟩=>⟨b0,b1,b2,b3,b4,b5,b6,b7,b8,b9,l.s b10 x,b11,b12,b13,b14,b15⟩⟩
 | 11=>⟨fun e=>l.g e.b11,fun e x=>match e with|⟨b0,b1,b2,b3,b4,b5,b6,b7,b8,b9,b10,b11,b12,b13,b14,b15⟩=>⟨b0,b1,b2,b3,b4,b5,b6,b7,b8,b9,b10,l.s b11 x,b12,b13,b14,b15⟩⟩
 | 12=>⟨fun e=>l.g e.b12,fun e x=>match e with|⟨b0,b1,b2,b3,b4,b5,b6,b7,b8,b9,b10,b11,b12,b13,b14,b15⟩=>⟨b0,b1,b2,b3,b4,b5,b6,b7,b8,b9,b10,b11,l.s b12 x,b13,b14,b15⟩⟩
 | 13=>⟨fun e=>l.g e.b13,fun e x=>match e with|⟨b0,b1,b2,b3,b4,b5,b6,b7,b8,b9,b10,b11,b12,b13,b14,b15⟩=>⟨b0,b1,b2,b3,b4,b5,b6,b7,b8,b9,b10,b11,b12,l.s b13 x,b14,b15⟩⟩
 | 14=>⟨fun e=>l.g e.b14,fun e x=>match e with|⟨b0,b1,b2,b3,b4,b5,b6,b7,b8,b9,b10,b11,b12,b13,b14,b15⟩=>⟨b0,b1,b2,b3,b4,b5,b6,b7,b8,b9,b10,b11,b12,b13,l.s b14 x,b15⟩⟩
 | 15=>⟨fun e=>l.g e.b15,fun e x=>match e with|⟨b0,b1,b2,b3,b4,b5,b6,b7,b8,b9,b10,b11,b12,b13,b14,b15⟩=>⟨b0,b1,b2,b3,b4,b5,b6,b7,b8,b9,b10,b11,b12,b13,b14,l.s b15 x⟩⟩
 | _=>⟨fun _=>none,fun e _=>e⟩
def tk (s:Nat):ac8:=Ks (Nat.div s 16) (KA (Nat.mod s 16))
theorem M3 {i:Nat}(h:i<16):i=0∨i=1∨i=2∨i=3∨i=4∨i=5∨i=6∨i=7∨i=8∨i=9∨i=10∨i=11∨i=12∨i=13∨i=14∨i=15:=by omega
theorem Ri {i:Nat}(h:i<16) (v:V16) (x:AV):(KA i).g ((KA i).s v x)=some x:=by
 rcases M3 h with rfl|rfl|rfl|rfl|rfl|rfl|rfl|rfl|rfl|rfl|rfl|rfl|rfl|rfl|rfl|rfl<;>rfl
theorem OS {i j:Nat}(h:i<16) (hj:j<16) (e:i≠j) (v:V16) (x:AV):(KA i).g ((KA j).s v x)=(KA i).g v:=by
 rcases M3 h with rfl|rfl|rfl|rfl|rfl|rfl|rfl|rfl|rfl|rfl|rfl|rfl|rfl|rfl|rfl|rfl<;>rcases M3 hj with rfl|rfl|rfl|rfl|rfl|rfl|rfl|rfl|rfl|rfl|rfl|rfl|rfl|rfl|rfl|rfl<;>first|exact absurd rfl e|rfl
def Wu (j:Nat) (e:E16):V16:=match j with
 | 0=>e.b0
 | 1=>e.b1
 | 2=>e.b2
 | 3=>e.b3
 | 4=>e.b4
 | 5=>e.b5
 | 6=>e.b6
 | 7=>e.b7
 | 8=>e.b8
 | 9=>e.b9
 | 10=>e.b10
 | 11=>e.b11
 | 12=>e.b12
 | 13=>e.b13
 | 14=>e.b14
 | 15=>e.b15
 | _=>v0
theorem Tx {j:Nat}(h:j<16) (l:K0) (e:E16):(Ks j l).g e=l.g (Wu j e):=by
 rcases M3 h with rfl|rfl|rfl|rfl|rfl|rfl|rfl|rfl|rfl|rfl|rfl|rfl|rfl|rfl|rfl|rfl<;>rfl
theorem Vh {j:Nat}(h:j<16) (m:K0) (e:E16) (x:AV):Wu j ((Ks j m).s e x)=m.s (Wu j e) x:=by
 rcases M3 h with rfl|rfl|rfl|rfl|rfl|rfl|rfl|rfl|rfl|rfl|rfl|rfl|rfl|rfl|rfl|rfl<;>rfl
theorem Sk {j k:Nat}(h:j<16) (hk:k<16) (ne:j≠k) (m:K0) (e:E16) (x:AV):Wu j ((Ks k m).s e x)=Wu j e:=by
 rcases M3 h with rfl|rfl|rfl|rfl|rfl|rfl|rfl|rfl|rfl|rfl|rfl|rfl|rfl|rfl|rfl|rfl<;>rcases M3 hk with rfl|rfl|rfl|rfl|rfl|rfl|rfl|rfl|rfl|rfl|rfl|rfl|rfl|rfl|rfl|rfl<;>first|exact absurd rfl ne|rfl
theorem DA {j:Nat}(h:¬ j<16) (l:K0):Ks j l=⟨fun _=>none,fun e _=>e⟩:=by
 unfold Ks
 split<;>first|(exfalso;omega)|rfl
theorem YI {k d:Nat}{e:E16}{x v:AV}(h:(tk k).g ((tk d).s e x)=some v):(k=d∧v=x)∨(k≠d∧(tk k).g e=some v):=by
 unfold tk at *
 have hk:Nat.mod k 16<16:=Nat.mod_lt _ (by omega)
 have hd:Nat.mod d 16<16:=Nat.mod_lt _ (by omega)
 by_cases hK:Nat.div k 16<16
 ·by_cases hD:Nat.div d 16<16
  ·rw[Tx hK]at h ⊢
   by_cases e1:Nat.div k 16=Nat.div d 16
   ·rw[e1]at h ⊢
    rw[Vh hD]at h
    by_cases e2:Nat.mod k 16=Nat.mod d 16
    ·rw[e2,Ri hd]at h
     cases h
     refine .inl ⟨?_,rfl⟩
     have a1:k / 16=d / 16:=e1
     have a2:k%16=d%16:=e2
     omega
    ·rw[OS hk hd e2]at h
     exact .inr ⟨fun e=>e2 (by rw[e]),h⟩
   ·rw[Sk hK hD e1]at h
    exact .inr ⟨fun e=>e1 (by rw[e]),h⟩
  ·rw[DA hD]at h
   exact .inr ⟨fun e=>hD (by rw[← e];exact hK),h⟩
 ·rw[DA hK]at h
  cases h
theorem aa8 (k:Nat):(tk k).g ee0=none:=by
 unfold tk
 have hk:Nat.mod k 16<16:=Nat.mod_lt _ (by omega)
 by_cases hK:Nat.div k 16<16
 ·rw[Tx hK]
  have:Wu (Nat.div k 16) ee0=v0:=by rcases M3 hK with h|h|h|h|h|h|h|h|h|h|h|h|h|h|h|h<;>rw[h]<;>rfl
  rw[this]
  rcases M3 hk with h|h|h|h|h|h|h|h|h|h|h|h|h|h|h|h<;>rw[h]<;>rfl
 ·rw[DA hK]
end
section
abbrev ET:=E16
abbrev mY:=FuncId→List AV→HT→Nat→(AV→HT→Nat→Bool)→Bool
structure ClX where
 f:ET→(AV→Bool)→Bool
structure ClL where
 f:ET→(List AV→Bool)→Bool
structure ClP where
 f:ET→(Option AV→Bool)→Bool
structure ClO where
 f:mY→ET→HT→Nat→(AV→HT→Nat→Bool)→Bool
def oM (o:Option AV) (K:AV→Bool):Bool:=match o with|some v=>K v|none=>false
def fu (x:Operand):ClX:=match x with
 | .tmp s=>⟨fun e K=>oM ((tk s).g e) K⟩
 | .const v=>match okV v with
   | true=>⟨fun _ K=>K (ofV v)⟩
   | false=>⟨fun _ _=>false⟩
 | .global _=>⟨fun _ _=>false⟩
 | .func f=>⟨fun _ K=>K (.fn (.func f) [] [])⟩
def sO (l:List Operand):ClL:=match l with
 | []=>⟨fun _ K=>K []⟩
 | x::xs=>⟨fun e K=>(fu x).f e fun v=>(sO xs).f e fun vs=>K (v::vs)⟩
def wA (x:Option Operand):ClP:=match x with
 | none=>⟨fun _ K=>K none⟩
 | some x=>⟨fun e K=>(fu x).f e fun v=>K (some v)⟩
def noO:ClO:=⟨fun _ _ _ _ _=>false⟩
def q1 (x:Operand) (g:AV→(AV→Bool)→Bool):ClO:=⟨fun _ e t n K=>(fu x).f e fun v=>g v fun r=>K r t n⟩
def q1t (x:Operand) (g:AV→HT→(AV→Bool)→Bool):ClO:=⟨fun _ e t n K=>(fu x).f e fun v=>g v t fun r=>K r t n⟩
def q2 (x y:Operand) (g:AV→AV→(AV→Bool)→Bool):ClO:=⟨fun _ e t n K=>(fu x).f e fun v=>(fu y).f e fun u=>g v u fun r=>K r t n⟩
def q2t (x y:Operand) (g:AV→AV→HT→(AV→Bool)→Bool):ClO:=⟨fun _ e t n K=>(fu x).f e fun v=>(fu y).f e fun u=>g v u t fun r=>K r t n⟩
def e1 (x:Operand) (g:AV→HT→Nat→(AV→HT→Nat→Bool)→Bool):ClO:=⟨fun _ e t n K=>(fu x).f e fun v=>g v t n K⟩
def e2 (x y:Operand) (g:AV→AV→HT→Nat→(AV→HT→Nat→Bool)→Bool):ClO:=⟨fun _ e t n K=>(fu x).f e fun v=>(fu y).f e fun u=>g v u t n K⟩
def s2 (x y:Operand) (g:AV→AV→HT→Nat→(HT→Nat→Bool)→Bool):ClO:=⟨fun _ e t n K=>(fu x).f e fun v=>(fu y).f e fun u=>g v u t n fun t n=>K (.tup []) t n⟩
def s3 (x y z:Operand) (g:AV→AV→AV→HT→Nat→(HT→Nat→Bool)→Bool):ClO:=⟨fun _ e t n K=>(fu x).f e fun v=>(fu y).f e fun u=>(fu z).f e fun w=>g v u w t n fun t n=>K (.tup []) t n⟩
def abG (c a b:AV) (K:AV→Bool):Bool:=match c with|.lit (.bool true)=>K a|.lit (.bool false)=>K b|_=>false
def Re (P:Program) (t:TypeId) (is:List Nat) (xs:List Operand):ClO:=
 match P.underlying t,P.info? t with
 | some (.struct fs),some i=>(match i.zero,jP P fs.toList with
   | some z,some l=>(match okV z with
     | true=>⟨fun _ e t n K=>(sO xs).f e fun vs=>match AJ (fun j=>l[j]?) (is.zip vs) with|some qs=>SX (ofV z).cells qs fun r=>K r t n|none=>false⟩
     | false=>noO)
   | _,_=>noO)
 | _,_=>noO
def yp (P:Program) (t:TypeId) (m:Nat) (is:List Nat) (xs:List Operand):ClO:=
 match P.underlying t with
 | some (.slice e)=>(match P.info? e with
   | some i=>(match i.zero with
     | some _=>(match is==List.range m&&decide (m*i.size≤16777216) with
       | true=>⟨fun _ e t n K=>(sO xs).f e fun vs=>xJ m i.size vs fun r=>K r t n⟩
       | false=>noO)
     | none=>noO)
   | none=>noO)
 | _=>noO
def abD (P:Program) (t:TypeId) (x:Operand):ClO:=
 match P.underlying t,P.info? t with
 | some d,some i=>(match mZ d with|true=>q1t x (GU i.size)|false=>q1t x GP)
 | _,_=>noO
def acQ (P:Program) (op:BinOp) (t:TypeId) (x y:Operand):ClO:=
 match P.underlying t with
 | some .bool=>q2 x y (Yk op)
 | some (.pointer _)=>q2 x y (ZJ op)
 | some (.int _)=>q2 x y (ZL op)
 | some .string=>q2 x y (ZL op)
 | some (.float _)=>q2 x y (ZL op)
 | _=>noO
def abH (P:Program) (s d:TypeId) (x:Operand):ClO:=
 match P.underlying s,P.underlying d with
 | some (.int _),some (.int k)=>q1 x (MW k)
 | some (.int _),some (.float k)=>q1 x (L0 k)
 | some .string,some .string=>q1 x MF
 | _,_=>noO
def Y4 (P:Program) (t:TypeId) (x:Operand) (lo hi mx:Option Operand):ClO:=
 match P.underlying t,mx with
 | some .string,none=>⟨fun _ e t n K=>(fu x).f e fun v=>(wA lo).f e fun l=>(wA hi).f e fun u=>Nj v l u fun r=>K r t n⟩
 | some (.slice el),none=>(match P.info? el with|some i=>⟨fun _ e t n K=>(fu x).f e fun v=>(wA lo).f e fun l=>(wA hi).f e fun u=>Mv i.size v l u fun r=>K r t n⟩|none=>noO)
 | some (.slice el),some m=>⟨fun _ e t n K=>(fu x).f e fun v=>(wA lo).f e fun l=>(wA hi).f e fun u=>(fu m).f e fun mv=>(match P.info? el,l,u,mv with|some _,none,some (.lit (.int _ 0)),.lit (.int _ 0)=>Ly v fun r=>K r t n|_,_,_,_=>false)⟩
 | _,_=>noO
def HG (P:Program) (t:TypeId) (x:Operand) (f:Nat):ClO:=
 match P.underlying t with
 | some (.struct fs)=>(match fs[f]? with
   | some fd=>(match P.info? fd.type with|some i=>(match i.size with|0=>noO|_+1=>q1 x (AF fd.offset))|none=>noO)
   | none=>noO)
 | _=>noO
def abx (P:Program) (t:TypeId) (off:Nat) (x:Operand):ClO:=
 match P.underlying t,P.info? t with
 | some d,some i=>(match mZ d with|true=>q1 x (R7 off i.size)|false=>q1 x (QY off))
 | _,_=>noO
def Xm (P:Program) (t:TypeId) (x:Operand) (f:Nat):ClO:=
 match P.underlying t with
 | some (.struct fs)=>(match fs[f]? with|some fd=>abx P fd.type fd.offset x|none=>noO)
 | _=>noO
def HD (P:Program) (t:TypeId) (x i:Operand):ClO:=
 match P.underlying t with
 | some (.slice e)=>(match P.info? e with|some ei=>q2 x i (Aq ei.size)|none=>noO)
 | some (.array m e)=>(match P.info? e with|some ei=>q2 x i (rG m ei.size)|none=>noO)
 | _=>noO
def ZN (P:Program) (t:TypeId) (x i:Operand):ClO:=
 match P.underlying t with
 | some .string=>q2 x i Mx
 | _=>noO
def acM (P:Program) (t:TypeId) (x:Operand):ClO:=
 match P.underlying t with
 | some .string=>q1 x Xo
 | some (.slice _)=>q1 x Zu
 | some (.map _ _)=>q1t x Yx
 | _=>noO
def Ul (P:Program) (t t2:TypeId) (x y:Operand):ClO:=
 match P.underlying t,P.underlying t2 with
 | some (.slice e),some d2=>(match P.info? e with
   | some i=>(match X9 i d2 with|true=>e2 x y (Mq i.size i.bytes)|false=>noO)
   | none=>noO)
 | _,_=>noO
def acU (P:Program) (t:TypeId):ClO:=
 match P.info? t with
 | some i=>(match i.zero with|some z=>(match okV z with|true=>⟨fun _ _ t n K=>aaS (ofV z).cells t n K⟩|false=>noO)|none=>noO)
 | none=>noO
def W1 (P:Program) (t:TypeId) (x u:Operand):ClO:=
 match P.info? t with
 | some i=>s2 x u (SD i.size)
 | none=>noO
def WZ (P:Program) (t:TypeId) (x:Operand):ClO:=
 match P.underlying t with
 | some (.interface _)=>noO
 | some _=>q1 x (S6 t)
 | none=>noO
def abz (c:mY) (v:AV) (vs:List AV) (t:HT) (n:Nat) (K:AV→HT→Nat→Bool):Bool:=
 match v with
 | .fn (.func f) fi ca=>c f (fi++vs++ca) t n K
 | _=>false
def ZH (P:Program) (c:Call):ClO:=match c.callee with
 | .value f=>⟨fun call e t n K=>(sO c.args.toList).f e fun vs=>(fu f).f e fun v=>abz call v vs t n K⟩
 | .builtin .len=>(match c.args.toList,c.argTypes.toList with|[x],[t]=>acM P t x|_,_=>noO)
 | .builtin .append=>(match c.args.toList,c.argTypes.toList with|[x,y],[t,t2]=>Ul P t t2 x y|_,_=>noO)
 | .builtin .max=>(match c.args.toList with|[x,y]=>q2 x y acD|_=>noO)
 | .builtin .min=>(match c.args.toList with|[x,y]=>q2 x y acy|_=>noO)
 | _=>noO
def Ya (P:Program) (op:Op):ClO:=match op with
 | .move x=>⟨fun _ e t n K=>(fu x).f e fun v=>K v t n⟩
 | .assign x=>⟨fun _ e t n K=>(fu x).f e fun v=>K v t n⟩
 | .pick c a b=>⟨fun _ e t n K=>(fu c).f e fun cv=>(fu a).f e fun av=>(fu b).f e fun bv=>abG cv av bv fun r=>K r t n⟩
 | .alloc e=>acU P e
 | .box _ x=>e1 x act
 | .build t ps=>Re P t (ps.toList.map (·.1)) (ps.toList.map (·.2))
 | .buildSlice t m ps=>yp P t m (ps.toList.map (·.1)) (ps.toList.map (·.2))
 | .load t x=>abD P t x
 | .store t x u=>W1 P t x u
 | .nilCheck x=>q1 x acr
 | .binOp op t x y _=>acQ P op t x y
 | .unOp op _ x=>q1 x (tUn op)
 | .convert s d x=>abH P s d x
 | .makeInterface t x=>WZ P t x
 | .makeFunc f fi ca=>⟨fun _ e t n K=>(sO fi.toList).f e fun vs=>(sO ca.toList).f e fun ws=>K (.fn f vs ws) t n⟩
 | .slice t x lo hi mx=>Y4 P t x lo hi mx
 | .fieldAddr t x f=>HG P t x f
 | .field t x f=>Xm P t x f
 | .indexAddr t x i=>HD P t x i
 | .index t x i=>ZN P t x i
 | .extract x i=>q1 x (Gc i)
 | .call c=>ZH P c
 | _=>noO
def Uj (P:Program) (t:TypeId) (g:TypeDesc→Value→ClO):ClO:=
 match P.underlying t with
 | some (.map kt et)=>(match P.underlying kt,P.info? et with
   | some d,some i=>(match i.zero with|some z=>(match okV z with|true=>g d z|false=>noO)|none=>noO)
   | _,_=>noO)
 | _=>noO
def Qh (P:Program) (t:TypeId) (g:TypeDesc→ClO):ClO:=
 match P.underlying t with
 | some (.map kt _)=>(match P.underlying kt with|some d=>g d|none=>noO)
 | _=>noO
def Tm (P:Program) (op:BinOp) (t:TypeId) (x y:Operand):ClO:=
 match P.underlying t,y with
 | some (.slice _),.const (.slice none 0 0)=>q1 x (MM op)
 | some (.map _ _),.const (.map none)=>q1 x (LC op)
 | some (.interface _),.const .nilIface=>q1 x (M9 op)
 | some (.func _ _ _),.const .nilFunc=>q1 x (LI op)
 | _,_=>noO
def Y8 (P:Program) (op:Op):ClO:=match op with
 | .makeMap _ none=>⟨fun _ _ t n K=>IE t n K⟩
 | .lookup t x i ok=>Uj P t fun d z=>q2t x i (MS d ok (ofV z))
 | .mapUpdate t m k v=>Qh P t fun d=>s3 m k v (vg d)
 | .insert t m k v=>Qh P t fun d=>s3 m k v (vg d)
 | .mapEntry t m k=>Uj P t fun d z=>e2 m k (DJ d (ofV z))
 | .entryStore t m s v=>s3 m s v wT
 | .range t x=>(match P.underlying t with
   | some .string=>e1 x M8
   | some (.map _ _)=>e1 x LN
   | _=>noO)
 | .next x b=>(match b with|true=>e1 x So|false=>e1 x Rx)
 | .entry x=>q1t x S3
 | .makeSlice t l c=>(match P.underlying t with
   | some (.slice e)=>(match P.info? e with
     | some i=>(match i.zero with|some z=>(match i.size==1&&z.oneCell' with|true=>e2 l c (Am i.bytes (Ih z))|false=>noO)|none=>noO)
     | none=>noO)
   | _=>noO)
 | .convert s d x=>(match P.underlying s,P.underlying d with
   | some (.slice e),some .string=>(match yP P e with|true=>q1t x C6|false=>noO)
   | some .string,some (.slice e)=>(match yP P e with|true=>e1 x De|false=>noO)
   | _,_=>noO)
 | .binOp op t x y _=>(match P.underlying t with
   | some (.struct fs)=>(match wZ P fs.toList 0 with
     | some ds=>(match !P.stoodInHeld t&&!P.eqGuardType P.depth t with|true=>q2 x y (abJ op ds)|false=>noO)
     | none=>noO)
   | _=>Tm P op t x y)
 | .call c=>(match c.callee with
   | .builtin .delete=>(match c.args.toList,c.argTypes.toList with
     | [m,k],t::_=>Qh P t fun d=>s2 m k (Nq d)
     | _,_=>noO)
   | _=>noO)
 | _=>noO
def Xx (P:Program) (op:Op):ClO:=match E6 P op with
 | true=>Y8 P op
 | false=>Ya P op
def VZ:List UInt8→UInt8→Nat→Int
 | [],_,_=>.negSucc 0
 | b::l,c,i=>@Bool.casesOn (fun _=>Int) (uEq b c) (VZ l c (Nat.succ i)) (.ofNat i)
def VQ:List UInt8→UInt8→Nat→Nat
 | [],_,n=>n
 | b::l,c,n=>VQ l c (@Bool.casesOn (fun _=>Nat) (uEq b c) n (Nat.succ n))
def abY (e:Ext) (vs:List AV) (K:AV→Bool):Bool:=
 match e,vs with
 | .index,[.lit (.string s),.lit (.int .u8 c)]=>fI (VZ s.data.toList c.toNat.toUInt8 0) fun r=>K (I r)
 | .count,[.lit (.string s),.lit (.int .u8 c)]=>fN (VQ s.data.toList c.toNat.toUInt8 0) fun r=>K (I (.ofNat r))
 | .bits,[.lit (.float .f64 b)]=>K (.lit (.int .u64 (.ofNat b)))
 | .frombits,[.lit (.int .u64 n)]=>fN n.toNat fun m=>K (.lit (.float .f64 m))
 | _,_=>false
def aan (m n:Nat):Nat:=@Bool.casesOn (fun _=>Nat) (Nat.ble m n) n m
def Xc (size:Nat) (v x:AV) (t:HT) (n:Nat) (K:AV→HT→Nat→Bool):Bool:=
 match Ha t size x with
 | none=>false
 | some (m,xs)=>match v with
   | .sl i off len sz=>(match t.get i with
     | some (.cells cs)=>decide (sz=size∧off+len*size≤cs.length∧xs.all AV.one=true)&&fN (aan m len) fun l=>K (I (.ofNat l)) (t.set (.cells (splice cs off (xs.take (l*size)))) i) n
     | _=>false)
   | .full n0 _=>bA (Nat.beq (aan m n0) 0) (K (I 0) t n)
   | .snap n0 _=>bA (Nat.beq (aan m n0) 0) (K (I 0) t n)
   | _=>false
def SB (size:Nat) (u v:AV) (t:HT) (n:Nat) (K:HT→Nat→Bool):Bool:=
 match v with
 | .sl i off len sz=>(match t.get i with
   | some (.cells cs)=>decide (u.isTup=false∧u.cells.length=size∧sz=size∧off+len*size≤cs.length∧u.cells.all AV.one=true)&&K (t.set (.cells (splice cs off (List.replicate len u.cells).flatten)) i) n
   | _=>false)
 | .full 0 _=>K t n
 | .snap 0 _=>K t n
 | _=>false
def TZ (P:Program) (ts:Array TypeId) (K:Value→TypeInfo→ClO):ClO:=
 match ts.toList with
 | t::_=>(match P.underlying t with
   | some (.slice e)=>(match P.info? e with
     | some i=>(match i.zero with|some z=>(match okV z with|true=>K z i|false=>noO)|none=>noO)
     | none=>noO)
   | _=>noO)
 | _=>noO
abbrev rk:=Nat→Option (List AV)
def Xv (P:Program) (t:TypeId) (cs:List AV):ClO:=
 match P.underlying t,P.info? t with
 | some d,some i=>(match mZ d with|true=>⟨fun _ _ t n K=>GU i.size (.cptr cs) t fun r=>K r t n⟩|false=>⟨fun _ _ t n K=>GP (.cptr cs) t fun r=>K r t n⟩)
 | _,_=>noO
def Ra (P:Program) (tb:rk) (op:Op):ClO:=match op with
 | .call c=>(match c.callee with
   | .value (.func f)=>(match NC P f with
     | some x=>⟨fun _ e t n K=>(sO c.args.toList).f e fun vs=>abY x vs fun r=>K r t n⟩
     | none=>noO)
   | .builtin .copy=>TZ P c.argTypes fun _ i=>(match c.args.toList with|[x,y]=>e2 x y (Xc i.size)|_=>noO)
   | .builtin .clear=>TZ P c.argTypes fun z i=>(match c.args.toList with|[x]=>⟨fun _ e t n K=>(fu x).f e fun v=>SB i.size (ofV z) v t n fun t n=>K (.tup []) t n⟩|_=>noO)
   | _=>noO)
 | .indexAddr t (.global g) i=>(match tb g with
   | some cs=>(match P.underlying t with
     | some (.array m e)=>(match P.info? e with|some ei=>q1 i fun iv=>rG m ei.size (.cptr cs) iv|none=>noO)
     | _=>noO)
   | none=>noO)
 | .load t (.global g)=>(match tb g with
   | some cs=>Xv P t cs
   | none=>noO)
 | _=>noO
def EE (P:Program) (tb:rk) (op:Op):ClO:=match isX P op with
 | true=>Ra P tb op
 | false=>Xx P op
def ER (e:ET) (env:Env):Prop:=∀ k v,(tk k).g e=some v→AL.get env k=some v
theorem ER.put {e:ET}{env:Env}(r:ER e env) (d:Nat) (v:AV):ER ((tk d).s e v) ((d,v)::env):=fun k u h=>by
 simp only[AL.get]
 rcases YI h with ⟨rfl,rfl⟩|⟨hn,h⟩
 ·rw[if_pos rfl]
 ·rw[if_neg (Ne.symm hn)];exact r k u h
theorem bx {e:ET}{env:Env}(r:ER e env) {x:Operand}{K:AV→Bool}(k:(fu x).f e K=true):∃ v,opv env x=some v∧K v=true:=by
 cases x with
 | tmp s=>
   simp only[fu,oM]at k
   split at k
   ·rename_i v hv;exact⟨v,by rw[opv];exact r s v hv,k⟩
   ·cases k
 | const v=>
   simp only[fu]at k
   cases h:okV v
   ·rw[h]at k;cases k
   ·rw[h]at k;exact⟨_,by simp[opv,h],k⟩
 | global g=>cases k
 | func f=>exact⟨_,rfl,k⟩
theorem lR {e:ET}{env:Env}(r:ER e env):∀ {xs:List Operand}{K:List AV→Bool},(sO xs).f e K=true→∃ vs,lq env xs=some vs∧K vs=true
 | [],K,k=>⟨[],rfl,k⟩
 | x::xs,K,k=>by
   simp only[sO]at k
   obtain⟨v,h1,k⟩:=bx r k
   obtain⟨vs,h2,k⟩:=lR r k
   exact⟨_,by simp[lq,h1,h2],k⟩
theorem qv {e:ET}{env:Env}(r:ER e env) {x:Option Operand}{K:Option AV→Bool}(k:(wA x).f e K=true):∃ v,Fd env x=some v∧K v=true:=by
 cases x with
 | none=>exact⟨none,rfl,k⟩
 | some x=>
   simp only[wA]at k
   obtain⟨v,h1,k⟩:=bx r k
   exact⟨some v,by simp[Fd,h1],k⟩
end
section
variable [Tabs]
section
variable {P:Program}{e:ET}{env:Env}{t:HT}{n:Nat}{h:ae}{K:AV→HT→Nat→Bool}{call:mY}
def kN (P:Program) (call:mY):Prop:=∀ (f:FuncId) (args:List AV) (t:HT) (n:Nat) (h:ae) (K:AV→HT→Nat→Bool),HR t n h→call f args t n K=true→ACall P f args h (KH K)
theorem kh {r:AV}(hr:HR t n h) (k:K r t n=true):KH K r h:=⟨t,n,hr,k⟩
theorem o3 (er:ER e env) (hr:HR t n h) {x:Operand}{g:AV→(AV→Bool)→Bool}{p:AV→(AV→Prop)→Prop}(hg:∀ v K,g v K=true→p v fun r=>K r=true) (hm:∀ v K K',(∀ r,K r→K' r)→p v K→p v K')
  (k:(q1 x g).f call e t n K=true):bW (opv env x) fun v=>p v fun r=>KH K r h:=by
 obtain⟨v,h1,k⟩:=bx er k
 rw[h1]
 exact hm _ _ _ (fun r k=>kh hr k) (hg _ _ k)
theorem Iz (er:ER e env) (hr:HR t n h) {x:Operand}{g:AV→HT→(AV→Bool)→Bool}{p:AV→ae→(AV→Prop)→Prop}(hg:∀ v K,g v t K=true→p v h fun r=>K r=true) (hm:∀ v K K',(∀ r,K r→K' r)→p v h K→p v h K')
  (k:(q1t x g).f call e t n K=true):bW (opv env x) fun v=>p v h fun r=>KH K r h:=by
 obtain⟨v,h1,k⟩:=bx er k
 rw[h1]
 exact hm _ _ _ (fun r k=>kh hr k) (hg _ _ k)
theorem wH (er:ER e env) (hr:HR t n h) {x y:Operand}{g:AV→AV→(AV→Bool)→Bool}{p:AV→AV→(AV→Prop)→Prop}(hg:∀ v u K,g v u K=true→p v u fun r=>K r=true) (hm:∀ v u K K',(∀ r,K r→K' r)→p v u K→p v u K')
  (k:(q2 x y g).f call e t n K=true):eE (opv env x) (opv env y) fun v u=>p v u fun r=>KH K r h:=by
 obtain⟨v,h1,k⟩:=bx er k
 obtain⟨u,h2,k⟩:=bx er k
 rw[h1,h2]
 exact hm _ _ _ _ (fun r k=>kh hr k) (hg _ _ _ k)
theorem ab8 (er:ER e env) (hr:HR t n h) {x y:Operand}{g:AV→AV→HT→(AV→Bool)→Bool}{p:AV→AV→ae→(AV→Prop)→Prop}(hg:∀ v u K,g v u t K=true→p v u h fun r=>K r=true) (hm:∀ v u K K',(∀ r,K r→K' r)→p v u h K→p v u h K')
  (k:(q2t x y g).f call e t n K=true):eE (opv env x) (opv env y) fun v u=>p v u h fun r=>KH K r h:=by
 obtain⟨v,h1,k⟩:=bx er k
 obtain⟨u,h2,k⟩:=bx er k
 rw[h1,h2]
 exact hm _ _ _ _ (fun r k=>kh hr k) (hg _ _ _ k)
theorem KP (er:ER e env) (hr:HR t n h) {x:Operand}{g:AV→HT→Nat→(AV→HT→Nat→Bool)→Bool}{p:AV→ae→(QT)→Prop}(hg:∀ v K,g v t n K=true→p v h (KH K))
  (k:(e1 x g).f call e t n K=true):bW (opv env x) fun v=>p v h (KH K):=by
 obtain⟨v,h1,k⟩:=bx er k
 rw[h1]
 exact hg _ _ k
theorem Yd (er:ER e env) (hr:HR t n h) {x y:Operand}{g:AV→AV→HT→Nat→(AV→HT→Nat→Bool)→Bool}{p:AV→AV→ae→(QT)→Prop}(hg:∀ v u K,g v u t n K=true→p v u h (KH K))
  (k:(e2 x y g).f call e t n K=true):eE (opv env x) (opv env y) fun v u=>p v u h (KH K):=by
 obtain⟨v,h1,k⟩:=bx er k
 obtain⟨u,h2,k⟩:=bx er k
 rw[h1,h2]
 exact hg _ _ _ k
theorem abB (er:ER e env) (hr:HR t n h) {x y:Operand}{g:AV→AV→HT→Nat→(HT→Nat→Bool)→Bool}{p:AV→AV→ae→(ae→Prop)→Prop}(hg:∀ v u K,g v u t n K=true→p v u h (KS K))
  (k:(s2 x y g).f call e t n K=true):eE (opv env x) (opv env y) fun v u=>p v u h fun h'=>KH K (.tup []) h':=by
 obtain⟨v,h1,k⟩:=bx er k
 obtain⟨u,h2,k⟩:=bx er k
 rw[h1,h2]
 exact hg _ _ _ k
theorem YV (er:ER e env) (hr:HR t n h) {x y z:Operand}{g:AV→AV→AV→HT→Nat→(HT→Nat→Bool)→Bool}{p:AV→AV→AV→ae→(ae→Prop)→Prop}(hg:∀ v u w K,g v u w t n K=true→p v u w h (KS K))
  (k:(s3 x y z g).f call e t n K=true):eE (opv env x) (opv env y) fun v u=>bW (opv env z) fun w=>p v u w h fun h'=>KH K (.tup []) h':=by
 obtain⟨v,h1,k⟩:=bx er k
 obtain⟨u,h2,k⟩:=bx er k
 obtain⟨w,h3,k⟩:=bx er k
 rw[h1,h2,h3]
 exact hg _ _ _ _ k
omit [Tabs] in
theorem bi {X:Prop}(k:noO.f call e t n K=true):X:=by cases k
theorem cW {o:Option AV}{K K':AV→Prop}(hk:∀ v,K v→K' v) (k:bW o K):bW o K':=by
 unfold bW at *;split at k
 ·exact hk _ k
 ·exact k.elim
theorem Vv (er:ER e env) (hr:HR t n h) {ty:TypeId}{is:List Nat}{xs:List Operand}(k:(Re P ty is xs).f call e t n K=true):d6 (lq env xs) fun vs=>xO P ty is vs fun r=>KH K r h:=by
 unfold Re at k
 split at k
 ·split at k
  ·split at k
   ·obtain⟨vs,h1,k⟩:=lR er k
    rw[h1]
    show xO P ty is vs _
    unfold xO
    simp only[*,if_true]
    split at k
    ·simp only[*]
     exact xz (fun r k=>kh hr k) _ _ ⟨UT _ _ k⟩
    ·cases k
   ·exact bi k
  ·exact bi k
 ·exact bi k
theorem GX (er:ER e env) (hr:HR t n h) {ty:TypeId}{m:Nat}{is:List Nat}{xs:List Operand}(k:(yp P ty m is xs).f call e t n K=true):d6 (lq env xs) fun vs=>ig P ty m is vs fun r=>KH K r h:=by
 unfold yp at k
 split at k
 ·split at k
  ·split at k
   ·split at k
    ·rename_i hc
     obtain⟨vs,h1,k⟩:=lR er k
     rw[h1]
     show ig P ty m is vs _
     unfold ig
     simp only[*,if_true]
     exact nQ (fun r k=>kh hr k) _ _ _ ⟨GG _ _ _ k⟩
    ·exact bi k
   ·exact bi k
  ·exact bi k
 ·exact bi k
theorem Yw (hcall:kN P call) (er:ER e env) (hr:HR t n h) {c:Call}(k:(ZH P c).f call e t n K=true):d6 (lq env c.args.toList) fun vs=>(match c.callee with
  | .value f=>bW (opv env f) fun v=>va P v vs h (KH K)
  | .builtin .len=>(match vs,c.argTypes.toList with|[v],[t]=>Dw P t v h fun r=>KH K r h|_,_=>False)
  | .builtin .append=>(match vs,c.argTypes.toList with|[v,u],[t,t2]=>B5 P t t2 v u h (KH K)|_,_=>False)
  | .builtin .max=>(match vs with|[v,u]=>CQ v u fun r=>KH K r h|_=>False)
  | .builtin .min=>(match vs with|[v,u]=>GD v u fun r=>KH K r h|_=>False)
  | _=>False):=by
 have two:∀ {x y:Operand} {F:AV→AV→Prop},(eE (opv env x) (opv env y) F)→∃ v u,lq env [x,y]=some [v,u]∧F v u:=fun {x y F} k=>by
  obtain⟨v,h1,k⟩:=aH k
  obtain⟨u,h2,k⟩:=aH k
  exact⟨v,u,by simp[lq,h1,h2],k⟩
 have one:∀ {x:Operand} {F:AV→Prop},(bW (opv env x) F)→∃ v,lq env [x]=some [v]∧F v:=fun {x F} k=>by
  obtain⟨v,h1,k⟩:=aH k
  exact⟨v,by simp[lq,h1],k⟩
 unfold ZH at k
 split at k
 ·rename_i f hc
  obtain⟨vs,h1,k⟩:=lR er k
  obtain⟨v,h2,k⟩:=bx er k
  rw[h1]
  simp only[d6,hc,h2,bW]
  unfold abz at k
  unfold va
  split at k
  ·exact hcall _ _ _ _ _ _ hr k
  ·cases k
 ·rename_i hc
  split at k
  ·rename_i x ty ha ht
   unfold acM at k
   split at k
   ·obtain⟨v,h1,k⟩:=one (o3 er hr (p:=fun v K=>bJ v K) (fun _ _ k=>⟨YM k⟩) (fun _ _ _ hk k=>Ay hk _ k) k)
    rw[ha,h1]
    simp only[d6,hc,Dw, *]
   ·obtain⟨v,h1,k⟩:=one (o3 er hr (p:=fun v K=>aX v K) (fun _ _ k=>⟨Zp _ k⟩) (fun _ _ _ hk k=>AN hk _ k) k)
    rw[ha,h1]
    simp only[d6,hc,Dw, *]
   ·obtain⟨v,h1,k⟩:=one (Iz er hr (p:=fun v h K=>CK v h K) (fun _ _ k=>⟨ZM hr k⟩) (fun _ _ _ hk k=>AB hk _ _ k) k)
    rw[ha,h1]
    simp only[d6,hc,Dw, *]
   ·exact bi k
  ·exact bi k
 ·rename_i hc
  split at k
  ·rename_i x y ty ty2 ha ht
   unfold Ul at k
   split at k
   ·split at k
    ·split at k
     ·rename_i hok
      obtain⟨v,u,h1,k⟩:=two (Yd er hr (p:=fun v u h K=>bg _ _ v u h K) (fun _ _ _ k=>⟨SL hr k⟩) k)
      rw[ha,h1]
      simp only[d6,hc,B5, *,if_true]
     ·exact bi k
    ·exact bi k
   ·exact bi k
  ·exact bi k
 ·rename_i hc
  split at k
  ·rename_i x y ha
   obtain⟨v,u,h1,k⟩:=two (wH er hr (p:=fun v u K=>CQ v u K) (fun _ _ _ k=>⟨aaJ _ _ k⟩) (fun _ _ _ _ hk k=>C2 hk _ _ k) k)
   rw[ha,h1]
   simp only[d6,hc, *]
  ·exact bi k
 ·rename_i hc
  split at k
  ·rename_i x y ha
   obtain⟨v,u,h1,k⟩:=two (wH er hr (p:=fun v u K=>GD v u K) (fun _ _ _ k=>⟨Z9 _ _ k⟩) (fun _ _ _ _ hk k=>C7 hk _ _ k) k)
   rw[ha,h1]
   simp only[d6,hc, *]
  ·exact bi k
 ·exact bi k
theorem XQ (hcall:kN P call) (er:ER e env) (hr:HR t n h) {o:Oper}(k:(Ya P o.op).f call e t n K=true):yq P env h o (KH K):=by
 obtain⟨dst,op,ty,pos,after,guard⟩:=o
 cases op<;>simp only[Ya]at k<;>simp only[yq]
 case move x=>obtain⟨v,h1,k⟩:=bx er k;rw[h1];exact kh hr k
 case assign x=>obtain⟨v,h1,k⟩:=bx er k;rw[h1];exact kh hr k
 case pick c a b=>
  obtain⟨v,h1,k⟩:=bx er k
  obtain⟨u,h2,k⟩:=bx er k
  obtain⟨w,h3,k⟩:=bx er k
  rw[h1,h2,h3]
  show ifB v (KH K u h) (KH K w h)
  unfold abG at k
  unfold ifB
  split at k
  ·exact kh hr k
  ·exact kh hr k
  ·cases k
 case alloc el=>
  unfold acU at k
  unfold aae
  split at k
  ·split at k
   ·split at k
    ·simp only[*,if_true];exact⟨TD hr k⟩
    ·exact bi k
   ·exact bi k
  ·exact bi k
 case box el x=>exact KP er hr (p:=fun v h K=>fe v h K) (fun _ _ k=>⟨abl hr k⟩) k
 case build=>exact Vv er hr k
 case buildSlice=>exact GX er hr k
 case load ty x=>
  unfold abD at k
  split at k
  ·split at k
   ·refine cW (fun v k=>?_) (Iz er hr (p:=fun v h K=>ap _ v h K) (fun _ _ k=>⟨DK hr k⟩) (fun _ _ _ hk k=>ic hk _ _ _ k) k)
    unfold kY;simp only[*,if_true]
   ·refine cW (fun v k=>?_) (Iz er hr (p:=fun v h K=>af v h K) (fun _ _ k=>⟨CW hr k⟩) (fun _ _ _ hk k=>ib hk _ _ k) k)
    unfold kY;simp only[*,Bool.false_eq_true,if_false]
  ·exact bi k
 case store ty x u=>
  unfold W1 at k
  split at k
  ·refine cW (fun v k=>cW (fun y k=>?_) k) (abB er hr (p:=fun v u h K=>ak _ v u h K) (fun _ _ _ k=>⟨VF hr k⟩) k)
   unfold Mn;simp only[*]
  ·exact bi k
 case nilCheck x=>exact o3 er hr (p:=fun v K=>aE v K) (fun _ _ k=>⟨aaP _ k⟩) (fun _ _ _ hk k=>DY hk _ k) k
 case binOp op ty x y yt=>
  unfold acQ at k
  unfold Qn
  split at k
  ·simp only[*];exact wH er hr (p:=fun v u K=>Ef op v u K) (fun _ _ _ k=>⟨WT _ _ _ k⟩) (fun _ _ _ _ hk k=>Ao hk _ _ _ k) k
  ·simp only[*];exact wH er hr (p:=fun v u K=>Fa op v u K) (fun _ _ _ k=>⟨XL _ _ _ k⟩) (fun _ _ _ _ hk k=>Au hk _ _ _ k) k
  ·simp only[*];exact wH er hr (p:=fun v u K=>ai op v u K) (fun _ _ _ k=>⟨Mi k⟩) (fun _ _ _ _ hk k=>tN hk _ _ _ k) k
  ·simp only[*];exact wH er hr (p:=fun v u K=>ai op v u K) (fun _ _ _ k=>⟨Mi k⟩) (fun _ _ _ _ hk k=>tN hk _ _ _ k) k
  ·simp only[*];exact wH er hr (p:=fun v u K=>ai op v u K) (fun _ _ _ k=>⟨Mi k⟩) (fun _ _ _ _ hk k=>tN hk _ _ _ k) k
  ·exact bi k
 case unOp op ty x=>exact o3 er hr (p:=fun v K=>qUn op v K) (fun _ _ k=>⟨abX k⟩) (fun _ _ _ hk k=>Hi hk _ _ k) k
 case convert s d x=>
  unfold abH at k
  unfold ES
  split at k
  ·simp only[*];exact o3 er hr (p:=fun v K=>ck _ v K) (fun _ _ k=>⟨RU k⟩) (fun _ _ _ hk k=>vf hk _ _ k) k
  ·simp only[*];exact o3 er hr (p:=fun v K=>rS _ v K) (fun _ _ k=>⟨RR k⟩) (fun _ _ _ hk k=>u4 hk _ _ k) k
  ·simp only[*];exact o3 er hr (p:=fun v K=>yW v K) (fun _ _ k=>⟨Sr _ k⟩) (fun _ _ _ hk k=>uP hk _ k) k
  ·exact bi k
 case makeInterface ty x=>
  unfold WZ at k
  split at k
  ·exact bi k
  ·rename_i hn ht
   refine cW (fun v k=>?_) (o3 er hr (p:=fun v K=>xj ty v K) (fun _ _ k=>⟨WL _ _ k⟩) (fun _ _ _ hk k=>wD hk _ _ k) k)
   unfold D9
   split
   ·rename_i he;rw[ht]at he;cases he;exact (hn _ rfl).elim
   ·exact k
   ·rename_i he;rw[ht]at he;cases he
  ·exact bi k
 case makeFunc f fi ca=>
  obtain⟨vs,h1,k⟩:=lR er k
  obtain⟨ws,h2,k⟩:=lR er k
  rw[h1,h2];exact kh hr k
 case slice ty x lo hi mx=>
  unfold Y4 at k
  split at k
  ·obtain⟨v,h1,k⟩:=bx er k
   obtain⟨l,h2,k⟩:=qv er k
   obtain⟨u,h3,k⟩:=qv er k
   rw[h1,h2,h3]
   show nU P ty v l u none _
   unfold nU;simp only[*]
   exact u5 (fun r k=>kh hr k) _ _ _ ⟨SP k⟩
  ·split at k
   ·obtain⟨v,h1,k⟩:=bx er k
    obtain⟨l,h2,k⟩:=qv er k
    obtain⟨u,h3,k⟩:=qv er k
    rw[h1,h2,h3]
    show nU P ty v l u none _
    unfold nU;simp only[*]
    exact ve (fun r k=>kh hr k) _ _ _ _ ⟨Sa _ _ _ _ k⟩
   ·exact bi k
  ·obtain⟨v,h1,k⟩:=bx er k
   obtain⟨l,h2,k⟩:=qv er k
   obtain⟨u,h3,k⟩:=qv er k
   obtain⟨m,h4,k⟩:=bx er k
   rw[h1,h2,h3]
   simp only[Fd,h4]
   show nU P ty v l u (some m) _
   split at k
   ·unfold nU;simp only[*]
    exact uQ (fun r k=>kh hr k) _ ⟨RG _ k⟩
   ·cases k
  ·exact bi k
 case fieldAddr ty x f=>
  unfold HG at k
  split at k
  ·split at k
   ·split at k
    ·split at k
     ·exact bi k
     ·rename_i hz
      refine cW (fun v k=>?_) (o3 er hr (p:=fun v K=>ab _ v K) (fun _ _ k=>⟨Jc k⟩) (fun _ _ _ hk k=>pi hk _ _ k) k)
      unfold oc
      simp only[*]
      rw[if_neg (by simp)]
      trivial
    ·exact bi k
   ·exact bi k
  ·exact bi k
 case field ty x f=>
  unfold Xm abx at k
  split at k
  ·split at k
   ·split at k
    ·split at k
     ·refine cW (fun v k=>?_) (o3 er hr (p:=fun v K=>Dp _ _ v K) (fun _ _ k=>⟨Wr _ _ _ k⟩) (fun _ _ _ hk k=>x9 hk _ _ _ k) k)
      unfold xg EM;simp only[*,if_true]
     ·refine cW (fun v k=>?_) (o3 er hr (p:=fun v K=>Dc _ v K) (fun _ _ k=>⟨V0 _ _ k⟩) (fun _ _ _ hk k=>yu hk _ _ k) k)
      unfold xg EM;simp only[*,Bool.false_eq_true,if_false]
    ·exact bi k
   ·exact bi k
  ·exact bi k
 case indexAddr ty x i=>
  unfold HD at k
  unfold eF
  split at k
  ·split at k
   ·simp only[*];exact wH er hr (p:=fun v u K=>an _ v u K) (fun _ _ _ k=>⟨Jt k⟩) (fun _ _ _ _ hk k=>iM hk _ _ _ k) k
   ·exact bi k
  ·split at k
   ·simp only[*];exact wH er hr (p:=fun v u K=>cg _ _ v u K) (fun _ _ _ k=>⟨yD _ _ _ _ k⟩) (fun _ _ _ _ hk k=>fc hk _ _ _ _ k) k
   ·exact bi k
  ·exact bi k
 case index ty x i=>
  unfold ZN at k
  unfold C8
  split at k
  ·simp only[*];exact wH er hr (p:=fun v u K=>bj v u K) (fun _ _ _ k=>⟨RI k⟩) (fun _ _ _ _ hk k=>u2 hk _ _ k) k
  ·exact bi k
 case extract x i=>exact o3 er hr (p:=fun v K=>am i v K) (fun _ _ k=>⟨NU _ _ k⟩) (fun _ _ _ hk k=>tD hk _ _ k) k
 case call c=>exact Yw hcall er hr k
 all_goals exact bi k
theorem PT {ty:TypeId}{g:TypeDesc→Value→ClO}{F:TypeDesc→Value→Prop}(hg:∀ d z,(g d z).f call e t n K=true→F d z) (k:(Uj P ty g).f call e t n K=true):Dq P ty F:=by
 unfold Uj at k
 unfold Dq
 split at k
 ·split at k
  ·split at k
   ·split at k
    ·have k:=hg _ _ k;simp only[*,if_true]
    ·exact bi k
   ·exact bi k
  ·exact bi k
 ·exact bi k
theorem Ho {ty:TypeId}{g:TypeDesc→ClO}{F:TypeDesc→Prop}(hg:∀ d,(g d).f call e t n K=true→F d) (k:(Qh P ty g).f call e t n K=true):BA P ty F:=by
 unfold Qh at k
 unfold BA
 split at k
 ·split at k
  ·have k:=hg _ k;simp only[*]
  ·exact bi k
 ·exact bi k
theorem XG (er:ER e env) (hr:HR t n h) {o:Oper}(k:(Y8 P o.op).f call e t n K=true):wy P env h o (KH K):=by
 obtain⟨dst,op,ty,pos,after,guard⟩:=o
 have wmapT:∀ {ty:TypeId} {F:TypeDesc→Value→AV→AV→Prop} {x y:Operand},Dq P ty (fun d z=>eE (opv env x) (opv env y) (F d z))→eE (opv env x) (opv env y) fun a b=>Dq P ty fun d z=>F d z a b:=fun {ty F x y} k=>by
  obtain⟨kt,et,d,i,z,h1,h2,h3,h4,h5,k⟩:=F4 k
  refine cW (fun v k=>cW (fun y k=>?_) k) k
  unfold Dq
  simp only[h1,h2,h3,h4,h5,if_true]
  exact k
 have wkeyT3:∀ {ty:TypeId} {F:TypeDesc→AV→AV→AV→Prop} {x y z:Operand},BA P ty (fun d=>eE (opv env x) (opv env y) fun a b=>bW (opv env z) fun c=>F d a b c)→eE (opv env x) (opv env y) fun a b=>bW (opv env z) fun c=>BA P ty fun d=>F d a b c:=fun {ty F x y z} k=>by
  obtain⟨kt,et,d,h1,h2,k⟩:=Bw k
  refine cW (fun v k=>cW (fun y k=>cW (fun w k=>?_) k) k) k
  unfold BA
  simp only[h1,h2]
  exact k
 cases op<;>simp only[Y8]at k<;>simp only[wy]
 case makeMap ty re=>
  cases re with
  | none=>exact⟨Oz hr k⟩
  | some x=>exact bi k
 case lookup ty x i ok=>
  refine wmapT (PT (fun d z k=>?_) k)
  exact ab8 er hr (p:=fun v u h K=>c6 d ok (ofV z) v u h K) (fun _ _ _ k=>⟨SG hr k⟩) (fun _ _ _ _ hk k=>vr hk _ _ _ _ _ _ k) k
 case mapUpdate ty m kk v=>
  refine wkeyT3 (Ho (fun d k=>?_) k)
  exact YV er hr (p:=fun v u w h K=>bV d v u w h K) (fun _ _ _ _ k=>⟨zT hr k⟩) k
 case insert ty m kk v=>
  refine wkeyT3 (Ho (fun d k=>?_) k)
  exact YV er hr (p:=fun v u w h K=>bV d v u w h K) (fun _ _ _ _ k=>⟨zT hr k⟩) k
 case mapEntry ty m kk=>
  refine wmapT (PT (fun d z k=>?_) k)
  exact Yd er hr (p:=fun v u h K=>qt d (ofV z) v u h K) (fun _ _ _ k=>⟨Lz hr k⟩) k
 case entryStore ty m s v=>exact YV er hr (p:=fun v u w h K=>lS v u w h K) (fun _ _ _ _ k=>⟨G9 hr k⟩) k
 case range ty x=>
  split at k
  ·simp only[*];exact KP er hr (p:=fun v h K=>u6 v h K) (fun _ _ k=>⟨SA hr k⟩) k
  ·simp only[*];exact KP er hr (p:=fun v h K=>vm v h K) (fun _ _ k=>⟨ST hr k⟩) k
  ·exact bi k
 case next x b=>
  cases b
  ·exact KP er hr (p:=fun v h K=>AG v h K) (fun _ _ k=>⟨Vi hr k⟩) k
  ·exact KP er hr (p:=fun v h K=>Ak v h K) (fun _ _ k=>⟨Wo hr k⟩) k
 case entry x=>exact Iz er hr (p:=fun v h K=>A7 v h K) (fun _ _ k=>⟨UX hr k⟩) (fun _ _ _ hk k=>yr hk _ _ k) k
 case makeSlice ty l c=>
  split at k
  ·split at k
   ·split at k
    ·split at k
     ·refine cW (fun v k=>cW (fun y k=>?_) k) (Yd er hr (p:=fun v u h K=>lD _ _ v u h K) (fun _ _ _ k=>⟨I0 hr k⟩) k)
      simp only[*,if_true]
     ·exact bi k
    ·exact bi k
   ·exact bi k
  ·exact bi k
 case convert s d x=>
  split at k
  ·split at k
   ·simp only[*,if_true];exact Iz er hr (p:=fun v h K=>qr v h K) (fun _ _ k=>⟨Mm hr k⟩) (fun _ _ _ hk k=>rc hk _ _ k) k
   ·exact bi k
  ·split at k
   ·simp only[*,if_true];exact KP er hr (p:=fun v h K=>qq v h K) (fun _ _ k=>⟨MR hr k⟩) k
   ·exact bi k
  ·exact bi k
 case binOp op ty x y yt=>
  split at k
  ·split at k
   ·split at k
    ·simp only[*,if_true]
     exact wH er hr (p:=fun v u K=>US op _ v u K) (fun _ _ _ k=>⟨aa1 _ _ _ _ k⟩) (fun _ _ _ _ hk k=>DU hk _ _ _ _ k) k
    ·exact bi k
   ·exact bi k
  ·rename_i hns
   have:bW (opv env x) fun a=>yG P op ty a y fun r=>KH K r h:=by
    unfold Tm at k
    unfold yG
    split at k
    ·simp only[*];exact o3 er hr (p:=fun v K=>jW op v K) (fun _ _ k=>⟨Sz _ _ k⟩) (fun _ _ _ hk k=>Bz hk _ _ k) k
    ·simp only[*];exact o3 er hr (p:=fun v K=>FY op v K) (fun _ _ k=>⟨SC _ _ k⟩) (fun _ _ _ hk k=>uZ hk _ _ k) k
    ·simp only[*];exact o3 er hr (p:=fun v K=>FU op v K) (fun _ _ k=>⟨SQ _ _ k⟩) (fun _ _ _ hk k=>vu hk _ _ k) k
    ·simp only[*];exact o3 er hr (p:=fun v K=>FP op v K) (fun _ _ k=>⟨Rr _ _ k⟩) (fun _ _ _ hk k=>uX hk _ _ k) k
    ·exact bi k
   split
   ·rename_i he;exact (hns _ he).elim
   ·exact this
 case call c=>
  split at k
  ·rename_i hc
   simp only[hc]
   split at k
   ·rename_i m kk ty rest ha ht
    obtain⟨kt,et,d,h1,h2,k⟩:=Bw (Ho (F:=fun d=>eE (opv env m) (opv env kk) fun a b=>qj d a b h fun h'=>KH K (.tup []) h') (fun d k=>abB er hr (p:=fun v u h K=>qj d v u h K) (fun _ _ _ k=>⟨Sp hr k⟩) k) k)
    obtain⟨a,h3,k⟩:=aH k
    obtain⟨b,h4,k⟩:=aH k
    rw[ha,ht]
    simp only[lq,h3,h4,d6]
    unfold BA
    simp only[h1,h2]
    exact k
   ·exact bi k
  ·exact bi k
 all_goals exact bi k
theorem ZG (hcall:kN P call) (er:ER e env) (hr:HR t n h) {o:Oper}(k:(Xx P o.op).f call e t n K=true):wY P env h o (KH K):=by
 unfold Xx at k
 unfold wY
 split at k
 ·rename_i hn;rw[if_pos hn];exact XG er hr k
 ·rename_i hn;rw[hn,if_neg (by simp)];exact XQ hcall er hr k
omit [Tabs] in
theorem TR (c:UInt8):∀ (l:List UInt8) (i:Nat),VZ l c i=if Lib.indexByte l c=-1 then -1 else Lib.indexByte l c+i
 | [],i=>rfl
 | b::l,i=>by
   have ih:=TR c l (i+1)
   have hge:=Lib.indexByte_ge l c
   have e1:VZ (b::l) c i=if (b==c)=true then (i:Int) else VZ l c (i+1):=by
    show @Bool.casesOn (fun _=>Int) (uEq b c) (VZ l c (i+1)) (.ofNat i)=_
    rw[CU]
    cases hb:(b==c)<;>rfl
   rw[e1,ih]
   simp only[Lib.indexByte]
   by_cases hb:(b==c)=true
   ·simp[hb]
   ·simp only[hb,if_false]
    by_cases h1:Lib.indexByte l c=-1
    ·simp[h1]
    ·rw[if_neg h1,if_neg (show ¬ (Lib.indexByte l c==-1)=true by simpa using h1)]
     simp only[Bool.false_eq_true,if_false]
     rw[if_neg (by omega)];omega
omit [Tabs] in
theorem Uq (c:UInt8):∀ (l:List UInt8) (n:Nat),VQ l c n=n+Lib.countByte l c
 | [],n=>rfl
 | b::l,n=>by
   have e1:VQ (b::l) c n=VQ l c (if (b==c)=true then n+1 else n):=by
    show VQ l c (@Bool.casesOn (fun _=>Nat) (uEq b c) n (n+1))=_
    rw[CU]
    cases hb:(b==c)<;>rfl
   rw[e1,Uq c l]
   simp only[Lib.countByte,List.count_cons]
   cases hb:(b==c)<;>simp<;>omega
omit [Tabs] in
theorem aaj {x:Ext}{vs:List AV}{K:AV→Bool}(k:abY x vs K=true):AD x vs fun r=>K r=true:=by
 unfold abY at k
 split at k
 ·rw[N2,TR]at k
  show K (I (Lib.indexByte _ _))=true
  split at k
  ·rename_i h1;rw[h1];exact k
  ·simpa using k
 ·rw[jz,Uq]at k
  show K (I (Lib.countByte _ _))=true
  simpa using k
 ·exact k
 ·rw[jz]at k;exact k
 ·cases k
omit [Tabs] in
theorem LS (m n:Nat):aan m n=Nat.min m n:=by
 show @Bool.casesOn (fun _=>Nat) (Nat.ble m n) n m=min m n
 cases h:Nat.ble m n
 ·have:¬ m≤n:=fun e=>by rw[Nat.ble_eq_true_of_le e]at h;cases h
  exact (Nat.min_eq_right (Nat.le_of_not_le this)).symm
 ·exact (Nat.min_eq_left (Nat.le_of_ble_eq_true h)).symm
theorem Xf (r:HR t n h) {size:Nat}{v x:AV}{K:AV→HT→Nat→Bool}(k:Xc size v x t n K=true):EJ size v x h (KH K):=by
 unfold Xc at k
 unfold EJ
 split at k
 ·cases k
 ·rename_i m xs hx
  simp only[Dj r hx]
  split at k
  ·split at k
   ·rename_i cs hc
    simp only[r.at_ _ _ hc]
    simp only[Bool.and_eq_true,decide_eq_true_eq,jz,LS]at k
    exact⟨k.1,_,_,r.set hc,k.2⟩
   ·cases k
  ·rw[cJ,LS]at k
   exact⟨Nat.eq_of_beq_eq_true k.1,_,_,r,k.2⟩
  ·rw[cJ,LS]at k
   exact⟨Nat.eq_of_beq_eq_true k.1,_,_,r,k.2⟩
  ·cases k
theorem WA (r:HR t n h) {size:Nat}{u v:AV}{K:HT→Nat→Bool}(k:SB size u v t n K=true):w9 size u v h (KS K):=by
 unfold SB at k
 unfold w9
 split at k
 ·split at k
  ·rename_i cs hc
   simp only[r.at_ _ _ hc]
   simp only[Bool.and_eq_true,decide_eq_true_eq]at k
   exact⟨k.1,_,_,r.set hc,k.2⟩
  ·cases k
 ·exact⟨_,_,r,k⟩
 ·exact⟨_,_,r,k⟩
 ·cases k
theorem Cv {ts:Array TypeId}{F:Value→TypeInfo→ClO}{K:AV→HT→Nat→Bool}{T:Value→TypeInfo→Prop}(hk:∀ z i,(F z i).f call e t n K=true→T z i) (k:(TZ P ts F).f call e t n K=true):Hf P ts T:=by
 unfold TZ at k
 unfold Hf
 split at k
 ·split at k
  ·split at k
   ·split at k
    ·split at k
     ·simp only[*,if_true]
     ·exact bi k
    ·exact bi k
   ·exact bi k
  ·exact bi k
 ·exact bi k
def pv (tb:rk):Prop:=∀ g cs,tb g=some cs→Tabs.tab g=some cs
theorem UV {tb:rk}(ht:pv tb) (er:ER e env) (hr:HR t n h) {o:Oper}(k:(Ra P tb o.op).f call e t n K=true):xY P env h o (KH K):=by
 obtain⟨dst,op,ty,pos,after,guard⟩:=o
 cases op<;>simp only[Ra]at k<;>simp only[xY]<;>try exact bi k
 case call c=>
  split at k
  ·rename_i f hc
   simp only[hc]
   split at k
   ·rename_i x hx
    obtain⟨vs,h1,k⟩:=lR er k
    rw[h1]
    simp only[d6,hx]
    exact⟨DE (fun r k=>kh hr k) (aaj k)⟩
   ·exact bi k
  ·rename_i hc
   simp only[hc]
   cases hvs:lq env c.args.toList with
   | none=>
     exfalso
     have:Hf P c.argTypes fun _ _=>False:=Cv (fun z i k=>by
      split at k
      ·rename_i x y ha
       simp only[e2]at k
       obtain⟨v,h1,k⟩:=bx er k
       obtain⟨u,h2,k⟩:=bx er k
       rw[ha]at hvs;simp[lq,h1,h2]at hvs
      ·exact bi k) k
     obtain⟨_,_,_,_,_,_,_,_,_,hf⟩:=FX this
     exact hf
   | some vs=>
     refine Cv (fun z i k=>?_) k
     split at k
     ·rename_i x y ha
      simp only[e2]at k
      obtain⟨v,h1,k⟩:=bx er k
      obtain⟨u,h2,k⟩:=bx er k
      rw[ha]at hvs
      simp only[lq,h1,h2,Option.some.injEq]at hvs
      subst hvs
      exact⟨Xf hr k⟩
     ·exact bi k
  ·rename_i hc
   simp only[hc]
   cases hvs:lq env c.args.toList with
   | none=>
     exfalso
     have:Hf P c.argTypes fun _ _=>False:=Cv (fun z i k=>by
      split at k
      ·rename_i x ha
       obtain⟨v,h1,k⟩:=bx er k
       rw[ha]at hvs;simp[lq,h1]at hvs
      ·exact bi k) k
     obtain⟨_,_,_,_,_,_,_,_,_,hf⟩:=FX this
     exact hf
   | some vs=>
     refine Cv (fun z i k=>?_) k
     split at k
     ·rename_i x ha
      obtain⟨v,h1,k⟩:=bx er k
      rw[ha]at hvs
      simp only[lq,h1,Option.some.injEq]at hvs
      subst hvs
      exact⟨WA hr k⟩
     ·exact bi k
  ·exact bi k
 case indexAddr ty x i=>
  cases x<;>simp only at k ⊢<;>try exact bi k
  split at k
  ·rename_i cs hg
   simp only[ht _ _ hg]
   split at k
   ·split at k
    ·refine cW (fun v k=>?_) (o3 er hr (p:=fun v K=>cg _ _ (.cptr cs) v K) (fun _ _ k=>⟨yD _ _ _ _ k⟩) (fun _ _ _ hk k=>fc hk _ _ _ _ k) k)
     unfold eF;simp only[*]
    ·exact bi k
   ·exact bi k
  ·exact bi k
 case load ty x=>
  cases x<;>simp only at k ⊢<;>try exact bi k
  split at k
  ·rename_i cs hg
   simp only[ht _ _ hg]
   unfold Xv at k
   unfold kY
   split at k
   ·split at k
    ·simp only[*,if_true];exact ic (fun r k=>kh hr k) _ _ _ ⟨DK hr k⟩
    ·simp only[*,Bool.false_eq_true,if_false];exact ib (fun r k=>kh hr k) _ _ ⟨CW hr k⟩
   ·exact bi k
  ·exact bi k
theorem tW {tb:rk}(ht:pv tb) (hcall:kN P call) (er:ER e env) (hr:HR t n h) {o:Oper}(k:(EE P tb o.op).f call e t n K=true):aop P env h o (KH K):=by
 unfold EE at k
 unfold aop
 split at k
 ·rename_i hn;rw[if_pos hn];exact UV ht er hr k
 ·rename_i hn;rw[hn,if_neg (by simp)];exact ZG hcall er hr k
end
end
section
structure ClR where
 f:mY→ET→HT→Nat→(ET→HT→Nat→Bool)→Bool
structure PD where
 q:Nat
 o:Oper
 e:ET
 v:AV
structure ClD where
 f:mY→ET→HT→Nat→List PD→(ET→HT→Nat→List PD→Bool)→Bool
structure ClC where
 f:mY→ET→HT→Nat→(Exit→ET→HT→Nat→Bool)→Bool
structure ClF where
 f:mY→List AV→HT→Nat→(AV→HT→Nat→Bool)→Bool
structure ClV where
 f:ET→HT→(List AV→Bool)→Bool
def noR:ClR:=⟨fun _ _ _ _ _=>false⟩
def noD:ClD:=⟨fun _ _ _ _ _ _=>false⟩
def noC:ClC:=⟨fun _ _ _ _ _=>false⟩
def noF:ClF:=⟨fun _ _ _ _ _=>false⟩
def DF (e:ET) (d:Option Tmp) (v:AV):ET:=match d with|some d=>(tk d).s e v|none=>e
def Kz (P:Program) (tb:rk) (nt:Nat) (o:Oper):ClR:=match fG nt o.dst with
 | true=>(match o.dst with
   | some d=>⟨fun c e t n K=>(EE P tb o.op).f c e t n fun v t n=>K ((tk d).s e v) t n⟩
   | none=>⟨fun c e t n K=>(EE P tb o.op).f c e t n fun _ t n=>K e t n⟩)
 | false=>noR
def ifV (v:AV) (x y:Bool):Bool:=match v with|.lit (.bool true)=>x|.lit (.bool false)=>y|_=>false
def Vd (g:Bool) (v:AV) (x y z:Bool):Bool:=match v with|.lit (.bool true)=>x|.lit (.bool false)=>y|.tup []=>bA g z|_=>false
def tp (P:Program) (tb:rk) (nt:Nat) (ops:Array Oper):List Nat→ClR
 | []=>⟨fun _ e t n K=>K e t n⟩
 | i::rest=>match ops[i]? with
   | none=>noR
   | some o=>match o.guard with
     | none=>⟨fun c e t n K=>(Kz P tb nt o).f c e t n fun e t n=>(tp P tb nt ops rest).f c e t n K⟩
     | some (j,want)=>match (ops[j]?).bind (·.dst) with
       | none=>noR
       | some s=>match want with
         | true=>⟨fun c e t n K=>oM ((tk s).g e) fun v=>Vd (VG ops j) v ((Kz P tb nt o).f c e t n fun e t n=>(tp P tb nt ops rest).f c e t n K) (bA (fG nt o.dst) ((tp P tb nt ops rest).f c (DF e o.dst (.tup [])) t n K)) (bA (fG nt o.dst) ((tp P tb nt ops rest).f c (DF e o.dst (.tup [])) t n K))⟩
         | false=>⟨fun c e t n K=>oM ((tk s).g e) fun v=>Vd (VG ops j) v (bA (fG nt o.dst) ((tp P tb nt ops rest).f c (DF e o.dst (.tup [])) t n K)) ((Kz P tb nt o).f c e t n fun e t n=>(tp P tb nt ops rest).f c e t n K) (bA (fG nt o.dst) ((tp P tb nt ops rest).f c (DF e o.dst (.tup [])) t n K))⟩
def XT:Value→Value→Bool
 | .bool a,.bool b=>a==b
 | .int j a,.int k b=>kEq j k&&iEq a b
 | .string a,.string b=>sEq a b
 | .pointer none,.pointer none=>true
 | .map none,.map none=>true
 | .nilFunc,.nilFunc=>true
 | .nilIface,.nilIface=>true
 | _,_=>false
theorem YB {a b:Value}(h:XT a b=true):a=b:=by
 unfold XT at h
 split at h<;>first
  | rfl
  | (cases h;done)
  | (simp only[beq_iff_eq]at h;rw[h])
  | (simp only[Bool.and_eq_true,TW,T4]at h;rw[h.1,h.2])
  | (rw[MK]at h;rw[h])
def acT:Fn→Fn→Bool
 | .func a,.func b=>Nat.beq a b
 | _,_=>false
mutual
def y6:AV→AV→Bool
 | .lit a,.lit b=>XT a b
 | .ptr i o,.ptr j p=>Nat.beq i j&&Nat.beq o p
 | .cptr a,.cptr b=>xX a b
 | .sl i o l s,.sl j p m r=>Nat.beq i j&&Nat.beq o p&&Nat.beq l m&&Nat.beq s r
 | .snap n a,.snap m b=>Nat.beq n m&&xX a b
 | .full n a,.full m b=>Nat.beq n m&&xX a b
 | .map i,.map j=>Nat.beq i j
 | .fn f a b,.fn g c d=>acT f g&&(xX a c&&xX b d)
 | .iface t v,.iface u w=>Nat.beq t u&&y6 v w
 | .agg a,.agg b=>xX a b
 | .tup a,.tup b=>xX a b
 | .sym i,.sym j=>Nat.beq i j
 | _,_=>false
def xX:List AV→List AV→Bool
 | [],[]=>true
 | a::l,b::m=>y6 a b&&xX l m
 | _,_=>false
end
theorem aa4:∀ {a b:Fn},acT a b=true→a=b
 | .func a,.func b,h=>by have:=Nat.eq_of_beq_eq_true h;rw[this]
mutual
theorem Nu:∀ (a b:AV),y6 a b=true→a=b
 | .lit a,b,h=>by cases b<;>simp only[y6]at h<;>first|(cases h;done)|(rw[YB h])
 | .ptr i o,b,h=>by
   cases b<;>simp only[y6,Bool.and_eq_true]at h<;>first|(cases h;done)|skip
   rw[Nat.eq_of_beq_eq_true h.1,Nat.eq_of_beq_eq_true h.2]
 | .cptr a,b,h=>by cases b<;>simp only[y6]at h<;>first|(cases h;done)|(rw[oQ _ _ h])
 | .sl i o l s,b,h=>by
   cases b<;>simp only[y6,Bool.and_eq_true]at h<;>first|(cases h;done)|skip
   rw[Nat.eq_of_beq_eq_true h.1.1.1,Nat.eq_of_beq_eq_true h.1.1.2,Nat.eq_of_beq_eq_true h.1.2,Nat.eq_of_beq_eq_true h.2]
 | .snap n a,b,h=>by
   cases b<;>simp only[y6,Bool.and_eq_true]at h<;>first|(cases h;done)|skip
   rw[Nat.eq_of_beq_eq_true h.1,oQ _ _ h.2]
 | .full n a,b,h=>by
   cases b<;>simp only[y6,Bool.and_eq_true]at h<;>first|(cases h;done)|skip
   rw[Nat.eq_of_beq_eq_true h.1,oQ _ _ h.2]
 | .map i,b,h=>by cases b<;>simp only[y6]at h<;>first|(cases h;done)|(rw[Nat.eq_of_beq_eq_true h])
 | .fn f a c,b,h=>by
   cases b<;>simp only[y6,Bool.and_eq_true]at h<;>first|(cases h;done)|skip
   rw[aa4 h.1,oQ _ _ h.2.1,oQ _ _ h.2.2]
 | .iface t v,b,h=>by
   cases b<;>simp only[y6,Bool.and_eq_true]at h<;>first|(cases h;done)|skip
   rw[Nat.eq_of_beq_eq_true h.1,Nu _ _ h.2]
 | .agg a,b,h=>by cases b<;>simp only[y6]at h<;>first|(cases h;done)|(rw[oQ _ _ h])
 | .tup a,b,h=>by cases b<;>simp only[y6]at h<;>first|(cases h;done)|(rw[oQ _ _ h])
 | .sym i,b,h=>by cases b<;>simp only[y6]at h<;>first|(cases h;done)|(rw[Nat.eq_of_beq_eq_true h])
theorem oQ:∀ (a b:List AV),xX a b=true→a=b
 | [],b,h=>by cases b<;>simp only[xX]at h<;>first|rfl|(cases h;done)
 | a::l,b,h=>by
   cases b<;>simp only[xX,Bool.and_eq_true]at h<;>first|(cases h;done)|skip
   rw[Nu _ _ h.1,oQ _ _ h.2]
end
def Pn (P:Program) (tb:rk) (c:mY) (m:Nat) (t:HT) (n:Nat) (k:Bool):List PD→Bool
 | []=>k
 | ⟨q,o,e,v⟩::r=>bI (Nat.testBit m q) (Pn P tb c m t n k r) (bA ((EE P tb o.op).f c e t n fun r _ _=>y6 r v) (Pn P tb c m t n k r))
def Gs (P:Program) (tb:rk) (nt:Nat) (m i:Nat) (o:Oper):ClD:=match fG nt o.dst with
 | true=>(match qOp P o.op with
   | true=>(match hOp P o.op with
     | true=>⟨fun c e t n pd K=>(EE P tb o.op).f c e t n fun v t n=>K (DF e o.dst v) t n (⟨i,o,e,v⟩::pd)⟩
     | false=>⟨fun c e t n pd K=>(EE P tb o.op).f c e t n fun v t n=>K (DF e o.dst v) t n pd⟩)
   | false=>⟨fun c e t n pd K=>(EE P tb o.op).f c e t n fun v t n=>Pn P tb c m t n (K (DF e o.dst v) t n pd) pd⟩)
 | false=>noD
def zv (P:Program) (tb:rk) (nt:Nat) (ops:Array Oper) (ms:List (Nat×Nat)):List Nat→ClD
 | []=>⟨fun _ e t n pd K=>K e t n pd⟩
 | i::rest=>match ops[i]? with
   | none=>noD
   | some o=>match o.guard with
     | none=>⟨fun c e t n pd K=>(Gs P tb nt (rj ms i) i o).f c e t n pd fun e t n pd=>(zv P tb nt ops ms rest).f c e t n pd K⟩
     | some (j,want)=>match (ops[j]?).bind (·.dst) with
       | none=>noD
       | some s=>match want with
         | true=>⟨fun c e t n pd K=>oM ((tk s).g e) fun v=>Vd (VG ops j) v ((Gs P tb nt (rj ms i) i o).f c e t n pd fun e t n pd=>(zv P tb nt ops ms rest).f c e t n pd K) (bA (fG nt o.dst) ((zv P tb nt ops ms rest).f c (DF e o.dst (.tup [])) t n pd K)) (bA (fG nt o.dst) ((zv P tb nt ops ms rest).f c (DF e o.dst (.tup [])) t n pd K))⟩
         | false=>⟨fun c e t n pd K=>oM ((tk s).g e) fun v=>Vd (VG ops j) v (bA (fG nt o.dst) ((zv P tb nt ops ms rest).f c (DF e o.dst (.tup [])) t n pd K)) ((Gs P tb nt (rj ms i) i o).f c e t n pd fun e t n pd=>(zv P tb nt ops ms rest).f c e t n pd K) (bA (fG nt o.dst) ((zv P tb nt ops ms rest).f c (DF e o.dst (.tup [])) t n pd K))⟩
def acO (P:Program) (ops:Array Oper) (done:List Nat):Option Nat:=
 let ready:=(List.range ops.size).filter fun i=>!done.contains i&&(match ops[i]? with|some o=>(vR o).all done.contains|none=>false)
 match ready.find? (fun i=>match ops[i]? with|some o=>qOp P o.op|none=>false) with
 | some i=>some i
 | none=>ready.head?
def Y5 (P:Program) (ops:Array Oper):Nat→List Nat→List Nat
 | 0,done=>done.reverse
 | k+1,done=>match acO P ops done with
   | some i=>Y5 P ops k (i::done)
   | none=>done.reverse
def Gf (P:Program) (ops:Array Oper):Option (List Nat):=
 match uJ P ops (Y5 P ops ops.size []) with
 | true=>some (Y5 P ops ops.size [])
 | false=>match uJ P ops (List.range ops.size) with
   | true=>some (List.range ops.size)
   | false=>none
def ac4 (body:ClC) (c:mY):Nat→ET→HT→Nat→(Exit→ET→HT→Nat→Bool)→Bool
 | 0,_,_,_,_=>false
 | k+1,e,t,n,K=>body.f c e t n fun ex e t n=>match ex with|.normal=>ac4 body c k e t n K|ex=>K ex e t n
def XU (body:ClC) (c:mY) (k:Nat):ET→HT→Nat→(Exit→ET→HT→Nat→Bool)→Bool:=
 @Nat.rec (fun _=>ET→HT→Nat→(Exit→ET→HT→Nat→Bool)→Bool) (fun _ _ _ _=>false) (fun _ ih e t n K=>body.f c e t n fun ex e t n=>match ex with|.normal=>ih e t n K|ex=>K ex e t n) k
def un:Nat:=1000000
def uK:Code→Option Nat
 | .label l=>some l
 | .seq a b=>match uK a with|some l=>some l|none=>uK b
 | .cond _ a b=>match uK a with|some l=>some l|none=>uK b
 | .block _ b=>uK b
 | .loop b=>uK b
 | _=>none
def Hm (l:Nat) (again:ET→HT→Nat→Bool) (K:Exit→ET→HT→Nat→Bool):Exit→ET→HT→Nat→Bool:=
 fun ex e t n=>match ex with|.goto l'=>bA (Nat.beq l' l) (again e t n)|ex=>K ex e t n
def acB (body:ClC) (c:mY) (l:Nat):Nat→ET→HT→Nat→(Exit→ET→HT→Nat→Bool)→Bool
 | 0,_,_,_,_=>false
 | k+1,e,t,n,K=>body.f c e t n (Hm l (fun e t n=>acB body c l k e t n K) K)
def Ti (body:ClC) (c:mY) (l:Nat) (k:Nat):ET→HT→Nat→(Exit→ET→HT→Nat→Bool)→Bool:=
 @Nat.rec (fun _=>ET→HT→Nat→(Exit→ET→HT→Nat→Bool)→Bool) (fun _ _ _ _=>false) (fun _ ih e t n K=>body.f c e t n (Hm l (fun e t n=>ih e t n K) K)) k
def nh (P:Program) (tb:rk) (nt:Nat) (jmp:Code→ClC):Code→ClC
 | .skip=>⟨fun _ e t n K=>K .normal e t n⟩
 | .ret=>⟨fun _ e t n K=>K .ret e t n⟩
 | .exit id=>⟨fun _ e t n K=>K (.exit id) e t n⟩
 | .goto l=>⟨fun _ e t n K=>K (.goto l) e t n⟩
 | .label _=>⟨fun _ e t n K=>K .normal e t n⟩
 | .region _ ops d=>match d with
   | false=>⟨fun c e t n K=>(tp P tb nt ops (List.range ops.size)).f c e t n fun e t n=>K .normal e t n⟩
   | true=>match Gf P ops,P.follows .mixedOrders with
     | some l,true=>⟨fun c e t n K=>(zv P tb nt ops (A4 ops l []) l).f c e t n [] fun e t n _=>K .normal e t n⟩
     | _,_=>noC
 | .seq x y=>⟨fun c e t n K=>(nh P tb nt jmp x).f c e t n fun ex e t n=>match ex with|.normal=>(nh P tb nt jmp y).f c e t n K|ex=>K ex e t n⟩
 | .cond x a b=>⟨fun c e t n K=>(fu x).f e fun v=>ifV v ((nh P tb nt jmp a).f c e t n K) ((nh P tb nt jmp b).f c e t n K)⟩
 | .block id x=>⟨fun c e t n K=>(nh P tb nt jmp x).f c e t n fun ex e t n=>match ex with|.exit i=>bI (Nat.beq i id) (K .normal e t n) (K (.exit i) e t n)|ex=>K ex e t n⟩
 | .loop x=>⟨fun c e t n K=>XU (nh P tb nt jmp x) c un e t n K⟩
 | .scope x=>match uK x with
   | some l=>(match findLabel x l with
     | some rest=>⟨fun c e t n K=>(nh P tb nt jmp x).f c e t n (Hm l (fun e t n=>Ti (jmp rest) c l un e t n K) K)⟩
     | none=>noC)
   | none=>noC
 | _=>noC
def acc (P:Program) (tb:rk) (nt:Nat):Code→ClC:=nh P tb nt fun _=>noC
def T6 (P:Program) (tb:rk) (nt:Nat):Code→ClC:=nh P tb nt (acc P tb nt)
def v6 (P:Program):List ResultVar→ClV
 | []=>⟨fun _ _ K=>K []⟩
 | .tmp s::rs=>⟨fun e t K=>oM ((tk s).g e) fun v=>(v6 P rs).f e t fun vs=>K (v::vs)⟩
 | .cell a ty::rs=>match P.underlying ty,P.info? ty with
   | some d,some i=>(match mZ d with
     | true=>⟨fun e t K=>oM ((tk a).g e) fun p=>GU i.size p t fun v=>(v6 P rs).f e t fun vs=>K (v::vs)⟩
     | false=>⟨fun e t K=>oM ((tk a).g e) fun p=>GP p t fun v=>(v6 P rs).f e t fun vs=>K (v::vs)⟩)
   | _,_=>⟨fun _ _ _=>false⟩
def PU:Nat→List AV→ET
 | _,[]=>ee0
 | k,v::vs=>(tk k).s (PU (k+1) vs) v
def Bh (P:Program) (tb:rk) (fn:Func):ClF:=match fn.body with
 | none=>noF
 | some c => match fn.name == "runtime.NumGoroutine" with
   | true=>noF
   | false=>⟨fun call args t n K=>bA (Nat.ble args.length fn.ntmps) ((T6 P tb fn.ntmps c).f call (PU 0 args) t n fun ex e t n=>match ex with
     | .normal=>(v6 P fn.results.toList).f e t fun vs=>K (zP vs) t n
     | .ret=>(v6 P fn.results.toList).f e t fun vs=>K (zP vs) t n
     | _=>false)⟩
abbrev Ig:=FuncId→List AV→HT→Nat→(AV→HT→Nat→Bool)→Option Bool
variable [Tabs]
section
variable {P:Program}{nt:Nat}{call:mY}{tb:rk}
def KE (K:ET→HT→Nat→Bool) (env:Env) (h:ae):Prop:=∃ e t n,ER e env∧HR t n h∧K e t n=true
theorem ER.putD {e:ET}{env:Env}(r:ER e env) (d:Option Tmp) (v:AV):ER (DF e d v) (putD env d v):=by
 cases d with
 | none=>exact r
 | some d=>exact r.put d v
theorem ER.know {e:ET}{env:Env}(r:ER e env) {s:Nat}{v:AV}(h:(tk s).g e=some v):ER e ((s,v)::env):=fun k u hu=>by
 simp only[AL.get]
 by_cases hk:s=k
 ·subst hk;rw[if_pos rfl,← h,hu]
 ·rw[if_neg hk];exact r k u hu
theorem Ch (ht:pv tb) (hc:kN P call) {o:Oper}{e:ET}{env:Env}{t:HT}{n:Nat}{h:ae}{K:ET→HT→Nat→Bool}(er:ER e env) (hr:HR t n h) (k:(Kz P tb nt o).f call e t n K=true):qA P nt env h o (KE K):=by
 unfold Kz at k
 unfold qA
 split at k
 ·rename_i hd
  rw[if_pos hd]
  split at k
  ·rename_i d ho
   refine k7 (fun v h' k=>?_) (tW ht hc er hr k)
   obtain⟨t',n',hr',k⟩:=k
   refine⟨_,t',n',?_,hr',k⟩
   rw[ho];exact er.put d v
  ·rename_i ho
   refine k7 (fun v h' k=>?_) (tW ht hc er hr k)
   obtain⟨t',n',hr',k⟩:=k
   refine⟨_,t',n',?_,hr',k⟩
   rw[ho];exact er
 ·cases k
theorem IJ {o:Option AV}{K:AV→Bool}(k:oM o K=true):∃ v,o=some v∧K v=true:=by
 unfold oM at k;split at k
 ·exact⟨_,rfl,k⟩
 ·cases k
theorem abM {v:AV}{x y:Bool}(k:ifV v x y=true):(v=B true∧x=true)∨(v=B false∧y=true):=by
 unfold ifV at k;split at k
 ·exact .inl ⟨rfl,k⟩
 ·exact .inr ⟨rfl,k⟩
 ·cases k
theorem FL {g:Bool}{v:AV}{x y z:Bool}(k:Vd g v x y z=true):(v=B true∧x=true)∨(v=B false∧y=true)∨(v=.tup []∧g=true∧z=true):=by
 unfold Vd at k;split at k
 ·exact .inl ⟨rfl,k⟩
 ·exact .inr (.inl ⟨rfl,k⟩)
 ·rw[cJ]at k;exact .inr (.inr ⟨rfl,k⟩)
 ·cases k
theorem NP {ops:Array Oper}{l:List Nat}{env:Env}{h:ae}{K K':Env→ae→Prop}(hk:∀ env' h',K env' h'→K' env' h') (k:jG P nt ops l env h K):jG P nt ops l env h K':=
 u1 ops l env h K K' (fun env' h' _ k=>hk env' h' k) k
theorem yn {env:Env}{h:ae}{o:Oper}{K K':Env→ae→Prop}(hk:∀ env' h',K env' h'→K' env' h') (k:qA P nt env h o K):qA P nt env h o K':=
 It (fun v h' k=>hk _ _ k) k
theorem lV (ht:pv tb) (hc:kN P call) (ops:Array Oper):∀ (l:List Nat) {e:ET}{env:Env}{t:HT}{n:Nat}{h:ae}{K:ET→HT→Nat→Bool},ER e env→HR t n h→(tp P tb nt ops l).f call e t n K=true→jG P nt ops l env h (KE K)
 | [],e,env,t,n,h,K,er,hr,k=>⟨e,t,n,er,hr,k⟩
 | i::rest,e,env,t,n,h,K,er,hr,k=>by
   unfold tp at k
   unfold jG
   split at k
   ·cases k
   ·rename_i o ho
    simp only[ho]
    split at k
    ·rename_i hg
     simp only[hg]
     exact yn (fun env' h' ⟨e',t',n',er',hr',k'⟩=>lV ht hc ops rest er' hr' k') (Ch ht hc er hr k)
    ·rename_i j want hg
     simp only[hg]
     split at k
     ·cases k
     ·rename_i s hs
      simp only[hs]
      split at k
      ·obtain⟨v,hv,k⟩:=IJ k
       rw[er s _ hv]
       replace k:=FL k
       rcases k with ⟨rfl,k⟩|⟨rfl,k⟩|⟨rfl,hgd,k⟩
       ·refine Tn ?_
        simp only[if_true]
        exact yn (fun env' h' ⟨e',t',n',er',hr',k'⟩=>lV ht hc ops rest er' hr' k') (Ch ht hc (er.know hv) hr k)
       ·refine Ua ?_
        simp only[if_true]
        rw[cJ]at k
        rw[if_pos k.1]
        exact lV ht hc ops rest ((er.know hv).putD _ _) hr k.2
       ·simp only[bW,hgd,ifG,ifT]
        rw[cJ]at k
        rw[if_pos k.1]
        exact lV ht hc ops rest ((er.know hv).putD _ _) hr k.2
      ·obtain⟨v,hv,k⟩:=IJ k
       rw[er s _ hv]
       replace k:=FL k
       rcases k with ⟨rfl,k⟩|⟨rfl,k⟩|⟨rfl,hgd,k⟩
       ·refine Tn ?_
        simp only[Bool.false_eq_true,if_false]
        rw[cJ]at k
        rw[if_pos k.1]
        exact lV ht hc ops rest ((er.know hv).putD _ _) hr k.2
       ·refine Ua ?_
        simp only[Bool.false_eq_true,if_false]
        exact yn (fun env' h' ⟨e',t',n',er',hr',k'⟩=>lV ht hc ops rest er' hr' k') (Ch ht hc (er.know hv) hr k)
       ·simp only[bW,hgd,ifG,ifT]
        rw[cJ]at k
        rw[if_pos k.1]
        exact lV ht hc ops rest ((er.know hv).putD _ _) hr k.2
def PR (P:Program):List PD→qM→Prop
 | [],p=>p=[]
 | ⟨q,o,e,v⟩::r,p=>∃ env p',p=(q,fun h2=>aop P env h2 o fun r _=>r=v)::p'∧ER e env∧PR P r p'
theorem H5 (ht:pv tb) (hc:kN P call) {m:Nat}{t:HT}{n:Nat}{h:ae}(hr:HR t n h) {k:Bool}{X:Prop}(hk:k=true→X):∀ {pd:List PD}{p:qM},PR P pd p→Pn P tb call m t n k pd=true→sT m p h X
 | [],p,hp,b=>by simp only[PR]at hp;subst hp;exact hk b
 | ⟨q,o,e,v⟩::r,p,hp,b=>by
   obtain⟨env,p',rfl,er,hp⟩:=hp
   unfold Pn at b
   unfold sT
   rcases (J7 _ _ _).1 b with ⟨hq,b⟩|⟨hq,b⟩
   ·rw[if_pos hq];exact H5 ht hc hr hk hp b
   ·rw[if_neg (by rw[hq];simp)]
    rw[cJ]at b
    exact⟨k7 (fun r h' ⟨t',n',_,k⟩=>Nu _ _ k) (tW ht hc er hr b.1),H5 ht hc hr hk hp b.2⟩
def KD (P:Program) (K:ET→HT→Nat→List PD→Bool) (env:Env) (h:ae) (p:qM):Prop:=∃ e t n pd,ER e env∧HR t n h∧PR P pd p∧K e t n pd=true
theorem DS (ht:pv tb) (hc:kN P call) {m i:Nat}{o:Oper}{e:ET}{env:Env}{t:HT}{n:Nat}{h:ae}{pd:List PD}{p:qM}{K:ET→HT→Nat→List PD→Bool}(er:ER e env) (hr:HR t n h) (hp:PR P pd p) (k:(Gs P tb nt m i o).f call e t n pd K=true):qC P nt m i o env h p (KD P K):=by
 unfold Gs at k
 unfold qC
 split at k
 ·rename_i hd
  rw[if_pos hd]
  split at k
  ·rename_i hq
   rw[if_pos hq]
   split at k
   ·rename_i hh
    refine k7 (fun v h' k=>?_) (tW ht hc er hr k)
    obtain⟨t',n',hr',k⟩:=k
    rw[if_pos hh]
    exact⟨_,t',n',⟨i,o,e,v⟩::pd,er.putD _ _,hr',⟨env,p,rfl,er,hp⟩,k⟩
   ·rename_i hh
    refine k7 (fun v h' k=>?_) (tW ht hc er hr k)
    obtain⟨t',n',hr',k⟩:=k
    rw[if_neg (by rw[hh];simp)]
    exact⟨_,t',n',_,er.putD _ _,hr',hp,k⟩
  ·rename_i hq
   rw[if_neg (by rw[hq];simp)]
   refine k7 (fun v h' k=>?_) (tW ht hc er hr k)
   obtain⟨t',n',hr',k⟩:=k
   exact H5 ht hc hr' (fun k=>⟨_,t',n',_,er.putD _ _,hr',hp,k⟩) hp k
 ·cases k
theorem oN (ht:pv tb) (hc:kN P call) (ops:Array Oper) (ms:List (Nat×Nat)):∀ (l:List Nat) {e:ET}{env:Env}{t:HT}{n:Nat}{h:ae}{pd:List PD}{p:qM}{K:ET→HT→Nat→List PD→Bool},ER e env→HR t n h→PR P pd p→(zv P tb nt ops ms l).f call e t n pd K=true→
  nM P nt ops ms l env h p fun env' h'=>∃ e t n pd,ER e env'∧HR t n h'∧K e t n pd=true
 | [],e,env,t,n,h,pd,p,K,er,hr,hp,k=>⟨e,t,n,pd,er,hr,k⟩
 | i::rest,e,env,t,n,h,pd,p,K,er,hr,hp,k=>by
   unfold zv at k
   unfold nM
   have sm:∀ {env:Env} {K' K2:Env→ae→qM→Prop} {o:Oper},(∀ env' h' p',K' env' h' p'→K2 env' h' p')→qC P nt (rj ms i) i o env h p K'→qC P nt (rj ms i) i o env h p K2:=fun hk k=>HQ (fun v h' p' k=>hk _ _ _ k) k
   split at k
   ·cases k
   ·rename_i o ho
    simp only[ho]
    split at k
    ·rename_i hg
     simp only[hg]
     exact sm (fun env' h' p' ⟨e',t',n',pd',er',hr',hp',k'⟩=>oN ht hc ops ms rest er' hr' hp' k') (DS ht hc er hr hp k)
    ·rename_i j want hg
     simp only[hg]
     split at k
     ·cases k
     ·rename_i s hs
      simp only[hs]
      split at k
      ·obtain⟨v,hv,k⟩:=IJ k
       rw[er s _ hv]
       replace k:=FL k
       rcases k with ⟨rfl,k⟩|⟨rfl,k⟩|⟨rfl,hgd,k⟩
       ·refine Tn ?_
        simp only[if_true]
        exact sm (fun env' h' p' ⟨e',t',n',pd',er',hr',hp',k'⟩=>oN ht hc ops ms rest er' hr' hp' k') (DS ht hc (er.know hv) hr hp k)
       ·refine Ua ?_
        simp only[if_true]
        rw[cJ]at k
        rw[if_pos k.1]
        exact oN ht hc ops ms rest ((er.know hv).putD _ _) hr hp k.2
       ·simp only[bW,hgd,ifG,ifT]
        rw[cJ]at k
        rw[if_pos k.1]
        exact oN ht hc ops ms rest ((er.know hv).putD _ _) hr hp k.2
      ·obtain⟨v,hv,k⟩:=IJ k
       rw[er s _ hv]
       replace k:=FL k
       rcases k with ⟨rfl,k⟩|⟨rfl,k⟩|⟨rfl,hgd,k⟩
       ·refine Tn ?_
        simp only[Bool.false_eq_true,if_false]
        rw[cJ]at k
        rw[if_pos k.1]
        exact oN ht hc ops ms rest ((er.know hv).putD _ _) hr hp k.2
       ·refine Ua ?_
        simp only[Bool.false_eq_true,if_false]
        exact sm (fun env' h' p' ⟨e',t',n',pd',er',hr',hp',k'⟩=>oN ht hc ops ms rest er' hr' hp' k') (DS ht hc (er.know hv) hr hp k)
       ·simp only[bW,hgd,ifG,ifT]
        rw[cJ]at k
        rw[if_pos k.1]
        exact oN ht hc ops ms rest ((er.know hv).putD _ _) hr hp k.2
theorem PB {ops:Array Oper}{l:List Nat}(h:Gf P ops=some l):uJ P ops l=true:=by
 unfold Gf at h
 split at h
 ·cases h;assumption
 ·split at h
  ·cases h;assumption
  ·cases h
theorem EI {c:Code}{Q Q':Exit→Act→World→Prop}(hq:∀ e a w,Q e a w→Q' e a w):∀ (k:Nat) (a:Act) (w:World),Code.rounds P c Q k a w→Code.rounds P c Q' k a w
 | 0,a,w,h=>h
 | k+1,a,w,h=>Go.wp_mono h fun e a' w' p=>by
   cases e with
   | normal=>exact EI hq k a' w' p
   | _=>exact hq _ _ _ p
def KX (K:Exit→ET→HT→Nat→Bool) (ex:Exit) (env:Env) (h:ae):Prop:=∃ e t n,ER e env∧HR t n h∧K ex e t n=true
theorem TC {c:Code}{body:ClC}(hb:∀ {e:ET}{env:Env}{t:HT}{n:Nat}{h:ae}{K:Exit→ET→HT→Nat→Bool},ER e env→HR t n h→body.f call e t n K=true→AWp P nt c env h (KX K)):
  ∀ (k:Nat) {e:ET} {env:Env} {t:HT} {n:Nat} {h:ae} {K:Exit→ET→HT→Nat→Bool},ER e env→HR t n h→XU body call k e t n K=true→
    ∀ (G:Gh) (w:World) (a:Act),Sim G h w→a.tmps.size=nt→EnvRep G env a.tmps→Code.rounds P c (Post G h w nt a.defers (KX K)) k a w
 | 0,e,env,t,n,h,K,er,hr,k=>by cases k
 | m+1,e,env,t,n,h,K,er,hr,k=>by
   intro G w a s hn r
   refine Go.wp_mono (hb er hr k G w a s hn r) fun ex a' w' p=>?_
   obtain⟨env',h',G',⟨e',t',n',er',hr',hk⟩,s',ev,r',hn',hd'⟩:=p
   cases ex with
   | normal=>
     have:=TC hb m er' hr' hk G' w' a' s' hn' r'
     exact EI (fun e a2 w2 p2=>by rw[hd']at p2;exact p2.step ev) m a' w' this
   | _=>exact⟨env',h',G',⟨e',t',n',er',hr',hk⟩,s',ev,r',hn',hd'⟩
def ab5 (P:Program) (nt:Nat) (call:mY) (f:Code→ClC):Prop:=∀ (c:Code) {e:ET}{env:Env}{t:HT}{n:Nat}{h:ae}{K:Exit→ET→HT→Nat→Bool},ER e env→HR t n h→(f c).f call e t n K=true→AWp P nt c env h (KX K)
def BB (P:Program) (rest:Code) (l:Nat) (Q:Exit→Act→World→Prop):Nat→Act→World→Prop
 | 0,_,_=>False
 | n+1,a,w=>rest.wp P (Exit.jump l (BB P rest l Q n) Q) a w
theorem AM {rest:Code}{l:Nat}{Q Q':Exit→Act→World→Prop}(hq:∀ e a w,Q e a w→Q' e a w):∀ (k:Nat) (a:Act) (w:World),BB P rest l Q k a w→BB P rest l Q' k a w
 | 0,a,w,h=>h
 | k+1,a,w,h=>Go.wp_mono h fun e a' w' p=>by
   cases e with
   | goto l'=>exact⟨p.1,AM hq k a' w' p.2⟩
   | _=>exact hq _ _ _ p
theorem I8 {c rest:Code}{Q:Exit→Act→World→Prop}{a:Act}{w:World}(l m:Nat) (hf:findLabel c l=some rest) (first:c.wp P (Exit.jump l (BB P rest l Q m) Q) a w):(Code.scope c).wp P Q a w:=by
 refine wp_scope_jumps l (fun a w=>∃ k,BB P rest l Q k a w) (fun a w=>DZ fun k=>BB P rest l Q k a w) hf (Go.wp_mono first fun e a' w' p=>?_) fun a w hJ=>?_
 ·cases e with
  | goto l'=>exact⟨p.1,m,p.2⟩
  | _=>exact p
 ·have hsp:=wN hJ
  generalize hk:DZ (fun k=>BB P rest l Q k a w)=k at hsp
  cases k with
  | zero=>exact hsp.elim
  | succ k=>
    refine Go.wp_mono (show rest.wp P (Exit.jump l (BB P rest l Q k) Q) a w from hsp) fun e a' w' p=>?_
    cases e with
    | goto l'=>exact⟨p.1,⟨k,p.2⟩,Nat.lt_of_le_of_lt (C0 p.2) (Nat.lt_succ_self k)⟩
    | _=>exact p
theorem Qg {rest:Code}{body:ClC}{l:Nat}(hb:∀ {e:ET}{env:Env}{t:HT}{n:Nat}{h:ae}{K:Exit→ET→HT→Nat→Bool},ER e env→HR t n h→body.f call e t n K=true→AWp P nt rest env h (KX K)):
  ∀ (k:Nat) {e:ET} {env:Env} {t:HT} {n:Nat} {h:ae} {K:Exit→ET→HT→Nat→Bool},ER e env→HR t n h→Ti body call l k e t n K=true→
    ∀ (G:Gh) (w:World) (a:Act),Sim G h w→a.tmps.size=nt→EnvRep G env a.tmps→BB P rest l (Post G h w nt a.defers (KX K)) k a w
 | 0,e,env,t,n,h,K,er,hr,k=>by cases k
 | m+1,e,env,t,n,h,K,er,hr,k=>by
   intro G w a s hn r
   have k:body.f call e t n (Hm l (fun e t n=>Ti body call l m e t n K) K)=true:=k
   refine Go.wp_mono (hb er hr k G w a s hn r) fun ex a' w' p=>?_
   obtain⟨env',h',G',⟨e',t',n',er',hr',hk⟩,s',ev,r',hn',hd'⟩:=p
   cases ex with
   | goto l'=>
     simp only[Hm,cJ]at hk
     refine⟨Nat.eq_of_beq_eq_true hk.1,?_⟩
     have:=Qg hb m er' hr' hk.2 G' w' a' s' hn' r'
     exact AM (fun e a2 w2 p2=>by rw[hd']at p2;exact p2.step ev) m a' w' this
   | _=>exact⟨env',h',G',⟨e',t',n',er',hr',hk⟩,s',ev,r',hn',hd'⟩
theorem Ku (ht:pv tb) (hc:kN P call) {jmp:Code→ClC}(hj:ab5 P nt call jmp):∀ (c:Code) {e:ET}{env:Env}{t:HT}{n:Nat}{h:ae}{K:Exit→ET→HT→Nat→Bool},ER e env→HR t n h→(nh P tb nt jmp c).f call e t n K=true→AWp P nt c env h (KX K):=by
 intro c
 induction c with
 | skip=>exact fun er hr k=>PN ⟨_,_,_,er,hr,k⟩
 | ret=>exact fun er hr k=>Tk ⟨_,_,_,er,hr,k⟩
 | exit id=>exact fun er hr k=>PE ⟨_,_,_,er,hr,k⟩
 | goto l=>exact fun er hr k=>NS ⟨_,_,_,er,hr,k⟩
 | label l=>exact fun er hr k=>Kh ⟨_,_,_,er,hr,k⟩
 | region id ops d=>
   intro e env t n h K er hr k
   cases d with
   | false=>exact HI (NP (fun env' h' ⟨e',t',n',er',hr',k'⟩=>⟨e',t',n',er',hr',k'⟩) (lV ht hc ops _ er hr k))
   | true=>
     simp only[nh]at k
     split at k
     ·rename_i l hl hf
      refine Kr hf (PB hl) (yN ops _ l env h [] _ _ (fun env' h' _ ⟨e',t',n',pd,er',hr',k'⟩=>⟨e',t',n',er',hr',k'⟩) (oN ht hc ops _ l er hr (pd:=[]) (by simp[PR]) k))
     ·cases k
 | seq x y hx hy=>
   intro e env t n h K er hr k
   refine LW ((hx er hr k).mono fun ex env' h' ⟨e',t',n',er',hr',k'⟩=>?_)
   cases ex with
   | normal=>exact hy er' hr' k'
   | _=>exact⟨e',t',n',er',hr',k'⟩
 | cond x a b ha hb=>
   intro e env t n h K er hr k
   obtain⟨v,hv,k⟩:=bx er k
   refine Qu ?_
   rw[hv]
   rcases abM k with ⟨rfl,k1⟩|⟨rfl,k1⟩
   ·exact ha er hr k1
   ·exact hb er hr k1
 | block id x hx=>
   intro e env t n h K er hr k
   refine JW ((hx er hr k).mono fun ex env' h' ⟨e',t',n',er',hr',k'⟩=>?_)
   cases ex with
   | exit i=>
     simp only[J7]at k'
     rcases k' with ⟨hi,k'⟩|⟨hi,k'⟩
     ·show if i=id then _ else _
      rw[if_pos (Nat.eq_of_beq_eq_true hi)];exact⟨e',t',n',er',hr',k'⟩
     ·show if i=id then _ else _
      rw[if_neg (fun e=>by rw[Nat.beq_eq.mpr e]at hi;cases hi)];exact⟨e',t',n',er',hr',k'⟩
   | _=>exact⟨e',t',n',er',hr',k'⟩
 | loop x hx=>
   intro e env t n h K er hr k G w a s hn r
   have k':XU (nh P tb nt jmp x) call un e t n K=true:=k
   generalize un=m at k'
   exact wp_loop_rounds m (TC (fun er hr k=>hx er hr k) m er hr k' G w a s hn r)
 | scope x hx=>
   intro e env t n h K er hr k
   simp only[nh]at k
   split at k
   ·rename_i l hl
    split at k
    ·rename_i rest hrest
     intro G w a s hn r
     have k':(nh P tb nt jmp x).f call e t n (Hm l (fun e t n=>Ti (jmp rest) call l un e t n K) K)=true:=k
     clear k
     generalize un=m at k'
     refine I8 l m hrest (Go.wp_mono (hx er hr k' G w a s hn r) fun ex a' w' p=>?_)
     obtain⟨env',h',G',⟨e',t',n',er',hr',hk⟩,s',ev,r',hn',hd'⟩:=p
     cases ex with
     | goto l'=>
       simp only[Hm,cJ]at hk
       refine⟨Nat.eq_of_beq_eq_true hk.1,?_⟩
       have:=Qg (hj rest) m er' hr' hk.2 G' w' a' s' hn' r'
       exact AM (fun e a2 w2 p2=>by rw[hd']at p2;exact p2.step ev) m a' w' this
     | _=>exact⟨env',h',G',⟨e',t',n',er',hr',hk⟩,s',ev,r',hn',hd'⟩
    ·cases k
   ·cases k
 | _=>intro e env t n h K er hr k;cases k
theorem Bg (ht:pv tb) (hc:kN P call):∀ (c:Code) {e:ET}{env:Env}{t:HT}{n:Nat}{h:ae}{K:Exit→ET→HT→Nat→Bool},ER e env→HR t n h→(T6 P tb nt c).f call e t n K=true→AWp P nt c env h (KX K):=
 Ku ht hc (Ku ht hc fun c {e env t n h K} er hr k=>by cases k)
theorem uj {e:ET}{env:Env}{t:HT}{n:Nat}{h:ae}(er:ER e env) (hr:HR t n h):∀ {rs:List ResultVar}{K:List AV→Bool},(v6 P rs).f e t K=true→JF P env h rs fun vs=>K vs=true
 | [],K,k=>k
 | .tmp s::rs,K,k=>by
   obtain⟨v,hv,k⟩:=IJ k
   unfold JF
   rw[er s _ hv]
   exact uj er hr k
 | .cell a ty::rs,K,k=>by
   simp only[v6]at k
   unfold JF
   split at k
   ·split at k
    ·obtain⟨v,hv,k⟩:=IJ k
     rw[er a _ hv]
     show kY P ty v h _
     unfold kY
     simp only[*,if_true]
     exact ic (fun r k=>uj er hr k) _ _ _ ⟨DK hr k⟩
    ·obtain⟨v,hv,k⟩:=IJ k
     rw[er a _ hv]
     show kY P ty v h _
     unfold kY
     simp only[*,Bool.false_eq_true,if_false]
     exact ib (fun r k=>uj er hr k) _ _ ⟨CW hr k⟩
   ·cases k
theorem qw {env:Env}{h:ae}:∀ {rs:List ResultVar}{K K':List AV→Prop},(∀ vs,K vs→K' vs)→JF P env h rs K→JF P env h rs K'
 | [],K,K',hk,k=>hk _ k
 | .tmp s::rs,K,K',hk,k=>cW (fun v k=>qw (fun vs k=>hk _ k) k) k
 | .cell a ty::rs,K,K',hk,k=>cW (fun v k=>by
   unfold kY at *
   split at k
   ·split at k
    ·rename_i hd;rw[if_pos hd];exact ic (fun r k=>qw (fun vs k=>hk _ k) k) _ _ _ k
    ·rename_i hd;rw[if_neg hd];exact ib (fun r k=>qw (fun vs k=>hk _ k) k) _ _ k
   ·exact k.elim) k
theorem B6:∀ (k:Nat) (vs:List AV),ER (PU k vs) (fj k vs)
 | k,[]=>fun i v h=>by rw[PU,aa8]at h;cases h
 | k,v::vs=>(B6 (k+1) vs).put k v
theorem YT (ht:pv tb) (hc:kN P call) {f:FuncId}{fn:Func}(hf:P.funcs[f]?=some fn) {args:List AV}{t:HT}{n:Nat}{h:ae}{K:AV→HT→Nat→Bool}(hr:HR t n h) (k:(Bh P tb fn).f call args t n K=true):ACall P f args h (KH K):=by
 unfold Bh at k
 split at k
 ·cases k
 ·rename_i c hb
  split at k
  ·cases k
  ·rename_i hname
   simp only[cJ]at k
   obtain⟨hn,k⟩:=k
   have hn:=Nat.le_of_ble_eq_true hn
   refine⟨⟨fn,hf,hname,by simp[hb]⟩,fun G w vs s r=>?_⟩
   refine calls_of_wp hf hb ?_
   have hl:=r.length
   have hre:EnvRep G (fj 0 args) (vs.toArray++Array.replicate (fn.ntmps-vs.toArray.size) undef):=fun k a e=>by
    obtain⟨_,h1⟩:=tQ args 0 k a e
    obtain⟨v,h2,h3⟩:=r.at _ _ h1
    have hk:k<vs.length:=(List.getElem?_eq_some_iff.1 h2).1
    exact⟨v,by rw[Array.getElem?_append_left (by simpa using hk)];simpa using h2,h3⟩
   have W:=Bg ht hc c (B6 0 args) hr k G w { tmps:=vs.toArray++Array.replicate (fn.ntmps-vs.toArray.size) undef,defers:=[] } s (by simp;omega) hre
   have fin:∀ {e:ET} {env':Env} {t':HT} {n':Nat} {h':ae},ER e env'→HR t' n' h'→(v6 P fn.results.toList).f e t' (fun vs=>K (zP vs) t' n')=true→IZ P fn.results.toList env' h' (KH K):=fun er hr k=>
    qw (fun vs k=>kh hr k) (uj er hr k)
   refine wp_mono W fun e a w' ⟨env',h',G',⟨e',t',n',er',hr',hk⟩,s',ev,r',hn',hd'⟩=>?_
   cases e with
   | normal=>
     obtain⟨v,x,q1,q2,q3⟩:=qp s' r' (fin er' hr' hk)
     exact⟨hd',x,q1,v,x,h',G',rfl,q2,q3,s',ev⟩
   | ret=>
     obtain⟨v,x,q1,q2,q3⟩:=qp s' r' (fin er' hr' hk)
     exact⟨hd',x,q1,v,x,h',G',rfl,q2,q3,s',ev⟩
   | exit id=>cases hk
   | goto l=>cases hk
   | panic ch=>cases hk
   | outgrown=>cases hk
def Mu (P:Program) (sp:Ig):Prop:=∀ (f:FuncId) (args:List AV) (t:HT) (n:Nat) (h:ae) (K:AV→HT→Nat→Bool),HR t n h→sp f args t n K=some true→ACall P f args h (KH K)
