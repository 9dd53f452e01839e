import Derived.Test.YtbhphjpgjgigpaaGreatDoorAL17toAL19
import Derived.IntWalk
set_option linter.all false
set_option autoImplicit true
set_option relaxedAutoImplicit true
set_option maxRecDepth 100000
namespace Go.Proofs.YtbhphjpgjgigpaaGreatDoor.AL
noncomputable section
section
def aby (op:BinOp) (x y:AV) (K:AV→Bool):Bool:=
 match x,y with
 | .lit a,.lit b=>(match ct op a b with|some r=>K (.lit r)|none=>false)
 | _,_=>false
def Xg (op:BinOp) (x y:AV) (K:AV→Bool):Bool:=
 match x,y with
 | .lit (.bool a),.lit (.bool b)=>(match op with|.eql=>K (B (a==b))|.neq=>K (B (!(a==b)))|_=>false)
 | _,_=>false
def Wi (op:BinOp) (x y:AV) (K:AV→Bool):Bool:=
 match x,y with
 | .ptr _ _,.lit (.pointer none)=>(match op with|.eql=>K (B false)|.neq=>K (B true)|_=>false)
 | .lit (.pointer none),.lit (.pointer none)=>(match op with|.eql=>K (B true)|.neq=>K (B false)|_=>false)
 | _,_=>false
def bUn (op:UnOp) (x:AV) (K:AV→Bool):Bool:=
 match op,x with
 | .neg,.lit (.int k n)=>K (.lit (.int k (k.wrap (0-n))))
 | .xor,.lit (.int k n)=>K (.lit (.int k (k.wrap ((BitVec.ofInt k.bits (if k.signed then -1 else k.max) ^^^ BitVec.ofInt k.bits n).toNat:Int))))
 | .not,.lit (.bool b)=>K (B !b)
 | .neg,.lit (.float k b)=>K (.lit (.float k (Op.negFloat k b)))
 | _,_=>false
def JH (x:AV) (K:AV→Bool):Bool:=match x with|.lit (.string s)=>K (S s)|_=>false
def aam (v:AV) (K:AV→Bool):Bool:=match v with|.ptr i o=>K (.ptr i o)|.cptr cs=>K (.cptr cs)|.fn (.func f) fi ca=>K (.fn (.func f) fi ca)|_=>false
def ZZ (off:Nat) (v:AV) (K:AV→Bool):Bool:=match v with|.ptr i o=>K (.ptr i (o+off))|.cptr cs=>K (.cptr (cs.drop off))|_=>false
def abq (n:Nat) (v:AV) (h:ae) (K:AV→Bool):Bool:=match qV h n v with|some l=>K (.agg l)|none=>false
def abl (v:AV) (h:ae) (K:AV→Bool):Bool:=match qV h 1 v with|some [a]=>K a|_=>false
def QX (off n:Nat) (v:AV) (K:AV→Bool):Bool:=match v with|.agg cs=>K (.agg ((cs.drop off).take n))|_=>false
def PO (off:Nat) (v:AV) (K:AV→Bool):Bool:=match v with|.agg cs=>(match cs[off]? with|some a=>K a|none=>false)|_=>false
def aaH (size:Nat) (v i:AV) (K:AV→Bool):Bool:=
 match asI i with
 | none=>false
 | some n=>match v with
   | .sl j off len sz=>decide (0≤n∧n<len∧sz=size)&&K (.ptr j (off+n.toNat*size))
   | .snap m cs=>decide (0≤n∧n<m)&&K (.cptr (cs.drop (n.toNat*size)))
   | .full m cs=>decide (0≤n∧n<m)&&K (.cptr (cs.drop (n.toNat*size)))
   | _=>false
def qv (len size:Nat) (v i:AV) (K:AV→Bool):Bool:=
 match asI i with
 | none=>false
 | some n=>match v with
   | .ptr j off=>decide (0≤n∧n<len)&&K (.ptr j (off+n.toNat*size))
   | .cptr cs=>decide (0≤n∧n<len)&&K (.cptr (cs.drop (n.toNat*size)))
   | _=>false
def abi (v:AV) (lo hi:Option AV) (K:AV→Bool):Bool:=
 match v with
 | .lit (.string s)=>(match kT lo 0,kT hi s.size with
   | some l,some h=>decide (0≤l∧l≤h∧h≤s.size)&&K (S (s.extract l.toNat h.toNat))
   | _,_=>false)
 | _=>false
def Kd (size:Nat) (v:AV) (lo hi:Option AV) (K:AV→Bool):Bool:=
 match v with
 | .sl i off len sz=>(match kT lo 0,kT hi len with
   | some l,some h=>decide (0≤l∧l≤h∧h≤len∧sz=size)&&K (.sl i (off+l.toNat*size) (h.toNat-l.toNat) size)
   | _,_=>false)
 | .snap n cs=>(match kT lo 0,kT hi n with
   | some l,some h=>decide (0≤l∧l≤h∧h≤n)&&K (.snap (h.toNat-l.toNat) ((cs.drop (l.toNat*size)).take ((h.toNat-l.toNat)*size)))
   | _,_=>false)
 | .full n cs=>(match kT lo 0,kT hi n with
   | some l,some h=>decide (0≤l∧l≤h∧h≤n)&&K (.snap (h.toNat-l.toNat) ((cs.drop (l.toNat*size)).take ((h.toNat-l.toNat)*size)))
   | _,_=>false)
 | _=>false
def Lu (v:AV) (K:AV→Bool):Bool:=match v with|.sl _ _ _ _=>K (.full 0 [])|.snap _ _=>K (.full 0 [])|.full _ _=>K (.full 0 [])|_=>false
def Ez (i:Nat) (v:AV) (K:AV→Bool):Bool:=match v with|.tup vs=>(match vs[i]? with|some a=>K a|none=>false)|_=>false
def Pe (t:TypeId) (v:AV) (K:AV→Bool):Bool:=K (.iface t v)
def Qn (zs:List AV) (ps:List (Nat×Nat×AV)) (K:AV→Bool):Bool:=match Da zs ps with|some cs=>K (.agg cs)|none=>false
def vD (n size:Nat) (vs:List AV) (K:AV→Bool):Bool:=decide (vs.length=n∧(vs.all fun v=>!v.isTup&&v.cells.length==size)=true)&&K (.full n (vs.flatMap (·.cells)))
def abh (d:TypeDesc) (ok:Bool) (z x key:AV) (h:ae) (K:AV→Bool):Bool:=
 match key with
 | .lit k=>match x with
   | .lit (.map none)=>if kOk d k=true then K (if ok then .tup [z,B false] else z) else false
   | .map i=>match h[i]? with
     | some (.amap es _)=>if (kOk d k&&es.all fun e=>kOk d e.1)=true then (match lq k es 0 with
       | some (_,_,v)=>K (if ok then .tup [v,B true] else v)
       | none=>K (if ok then .tup [z,B false] else z)) else false
     | _=>false
   | _=>false
 | _=>false
def ZY (bytes:Nat) (z l c:AV) (h:ae) (K:AV→ae→Bool):Bool:=
 match l,c with
 | .lit (.int _ l),.lit (.int _ c)=>decide (0≤l∧l≤c∧(bytes:Int)*c≤1099511627776∧c≤1099511627776)&&K (.sl h.length 0 l.toNat 1) (h++[.cells (List.replicate c.toNat z)])
 | _,_=>false
def KR (op:BinOp) (x:AV) (K:AV→Bool):Bool:=
 match op,x with
 | .eql,.map _=>K (B false)
 | .neq,.map _=>K (B true)
 | .eql,.lit (.map none)=>K (B true)
 | .neq,.lit (.map none)=>K (B false)
 | _,_=>false
def J8 (op:BinOp) (x:AV) (K:AV→Bool):Bool:=
 match op,x with
 | .eql,.iface _ _=>K (B false)
 | .neq,.iface _ _=>K (B true)
 | .eql,.lit .nilIface=>K (B true)
 | .neq,.lit .nilIface=>K (B false)
 | _,_=>false
def K8 (op:BinOp) (x:AV) (K:AV→Bool):Bool:=
 match op,x with
 | .eql,.fn _ _ _=>K (B false)
 | .neq,.fn _ _ _=>K (B true)
 | .eql,.lit .nilFunc=>K (B true)
 | .neq,.lit .nilFunc=>K (B false)
 | _,_=>false
def HW (op:BinOp) (b:Bool) (K:AV→Bool):Bool:=match op with|.eql=>K (B b)|.neq=>K (B !b)|_=>false
def J0 (op:BinOp) (x:AV) (K:AV→Bool):Bool:=
 match x with
 | .sl _ _ _ _=>HW op false K
 | .full n _=>if n=0 then HW op true K&&HW op false K else HW op false K
 | .snap n _=>if n=0 then HW op true K&&HW op false K else HW op false K
 | _=>false
def aaf (op:BinOp) (ds:List TypeDesc) (x y:AV) (K:AV→Bool):Bool:=
 match x,y with
 | .agg az,.agg bs=>(match xr ds az bs with|some b=>HW op b K|none=>false)
 | _,_=>false
def V0 (v:AV) (K:AV→Bool):Bool:=match v with|.sl _ _ len _=>K (I len)|.snap n _=>K (I n)|.full n _=>K (I n)|_=>false
def Z3 (x y:AV) (K:AV→Bool):Bool:=match x,y with|.lit (.int k a),.lit (.int _ b)=>K (.lit (.int k (if b > a then b else a)))|_,_=>false
def aag (x y:AV) (K:AV→Bool):Bool:=match x,y with|.lit (.int k a),.lit (.int _ b)=>K (.lit (.int k (if b<a then b else a)))|_,_=>false
theorem qz {K:AV→Bool}(op:BinOp) (b:Bool) (k:HW op b K=true):rJ op b (fun r=>K r=true):=by
 unfold HW at k
 unfold rJ
 (repeat' split at k)<;>first|(cases k;done)|exact k|(simp only[Bool.and_eq_true,decide_eq_true_eq]at k;exact k)|(rw[if_pos ‹_›];exact k)|(rw[if_neg ‹_›];exact k)|(simp only[*,↓reduceIte,Bool.false_eq_true];done)|(simp_all;done)
theorem W3 {K:AV→Bool}(op:BinOp) (x y:AV) (k:Xg op x y K=true):wn op x y (fun r=>K r=true):=by
 unfold Xg at k
 unfold wn
 (repeat' split at k)<;>first|(cases k;done)|exact k|(simp only[Bool.and_eq_true,decide_eq_true_eq]at k;exact k)|(rw[if_pos ‹_›];exact k)|(rw[if_neg ‹_›];exact k)|(simp only[*,↓reduceIte,Bool.false_eq_true];done)|(simp_all;done)
theorem Vm {K:AV→Bool}(op:BinOp) (x y:AV) (k:Wi op x y K=true):we op x y (fun r=>K r=true):=by
 unfold Wi at k
 unfold we
 (repeat' split at k)<;>first|(cases k;done)|exact k|(simp only[Bool.and_eq_true,decide_eq_true_eq]at k;exact k)|(rw[if_pos ‹_›];exact k)|(rw[if_neg ‹_›];exact k)|(simp only[*,↓reduceIte,Bool.false_eq_true];done)|(simp_all;done)
theorem ZS {K:AV→Bool}(op:UnOp) (x:AV) (k:bUn op x K=true):pUn op x (fun r=>K r=true):=by
 unfold bUn at k
 unfold pUn
 (repeat' split at k)<;>first|(cases k;done)|exact k|(simp only[Bool.and_eq_true,decide_eq_true_eq]at k;exact k)|(rw[if_pos ‹_›];exact k)|(rw[if_neg ‹_›];exact k)|(simp only[*,↓reduceIte,Bool.false_eq_true];done)|(simp_all;done)
theorem OZ {K:AV→Bool}(x:AV) (k:JH x K=true):lH x (fun r=>K r=true):=by
 unfold JH at k
 unfold lH
 (repeat' split at k)<;>first|(cases k;done)|exact k|(simp only[Bool.and_eq_true,decide_eq_true_eq]at k;exact k)|(rw[if_pos ‹_›];exact k)|(rw[if_neg ‹_›];exact k)|(simp only[*,↓reduceIte,Bool.false_eq_true];done)|(simp_all;done)
theorem Yg {K:AV→Bool}(v:AV) (k:aam v K=true):HN v (fun r=>K r=true):=by
 unfold aam at k
 unfold HN
 (repeat' split at k)<;>first|(cases k;done)|exact k|(simp only[Bool.and_eq_true,decide_eq_true_eq]at k;exact k)|(rw[if_pos ‹_›];exact k)|(rw[if_neg ‹_›];exact k)|(simp only[*,↓reduceIte,Bool.false_eq_true];done)|(simp_all;done)
theorem S6 {K:AV→Bool}(off n:Nat) (v:AV) (k:QX off n v K=true):pS off n v (fun r=>K r=true):=by
 unfold QX at k
 unfold pS
 (repeat' split at k)<;>first|(cases k;done)|exact k|(simp only[Bool.and_eq_true,decide_eq_true_eq]at k;exact k)|(rw[if_pos ‹_›];exact k)|(rw[if_neg ‹_›];exact k)|(simp only[*,↓reduceIte,Bool.false_eq_true];done)|(simp_all;done)
theorem TU {K:AV→Bool}(off:Nat) (v:AV) (k:PO off v K=true):qb off v (fun r=>K r=true):=by
 unfold PO at k
 unfold qb
 (repeat' split at k)<;>first|(cases k;done)|exact k|(simp only[Bool.and_eq_true,decide_eq_true_eq]at k;exact k)|(rw[if_pos ‹_›];exact k)|(rw[if_neg ‹_›];exact k)|(simp only[*,↓reduceIte,Bool.false_eq_true];done)|(simp_all;done)
theorem vJ {K:AV→Bool}(len size:Nat) (v i:AV) (k:qv len size v i K=true):cQ len size v i (fun r=>K r=true):=by
 unfold qv at k
 unfold cQ
 (repeat' split at k)<;>first|(cases k;done)|exact k|(simp only[Bool.and_eq_true,decide_eq_true_eq]at k;exact k)|(rw[if_pos ‹_›];exact k)|(rw[if_neg ‹_›];exact k)|(simp only[*,↓reduceIte,Bool.false_eq_true];done)|(simp_all;done)
theorem Pv {K:AV→Bool}(size:Nat) (v:AV) (lo hi:Option AV) (k:Kd size v lo hi K=true):ik size v lo hi (fun r=>K r=true):=by
 unfold Kd at k
 unfold ik
 (repeat' split at k)<;>first|(cases k;done)|exact k|(simp only[Bool.and_eq_true,decide_eq_true_eq]at k;exact k)|(rw[if_pos ‹_›];exact k)|(rw[if_neg ‹_›];exact k)|(simp only[*,↓reduceIte,Bool.false_eq_true];done)|(simp_all;done)
theorem Py {K:AV→Bool}(v:AV) (k:Lu v K=true):lK v (fun r=>K r=true):=by
 unfold Lu at k
 unfold lK
 (repeat' split at k)<;>first|(cases k;done)|exact k|(simp only[Bool.and_eq_true,decide_eq_true_eq]at k;exact k)|(rw[if_pos ‹_›];exact k)|(rw[if_neg ‹_›];exact k)|(simp only[*,↓reduceIte,Bool.false_eq_true];done)|(simp_all;done)
theorem N5 {K:AV→Bool}(i:Nat) (v:AV) (k:Ez i v K=true):ie i v (fun r=>K r=true):=by
 unfold Ez at k
 unfold ie
 (repeat' split at k)<;>first|(cases k;done)|exact k|(simp only[Bool.and_eq_true,decide_eq_true_eq]at k;exact k)|(rw[if_pos ‹_›];exact k)|(rw[if_neg ‹_›];exact k)|(simp only[*,↓reduceIte,Bool.false_eq_true];done)|(simp_all;done)
theorem Ti {K:AV→Bool}(t:TypeId) (v:AV) (k:Pe t v K=true):Cs t v (fun r=>K r=true):=by
 unfold Pe at k
 unfold Cs
 (repeat' split at k)<;>first|(cases k;done)|exact k|(simp only[Bool.and_eq_true,decide_eq_true_eq]at k;exact k)|(rw[if_pos ‹_›];exact k)|(rw[if_neg ‹_›];exact k)|(simp only[*,↓reduceIte,Bool.false_eq_true];done)|(simp_all;done)
theorem SW {K:AV→Bool}(zs:List AV) (ps:List (Nat×Nat×AV)) (k:Qn zs ps K=true):oh zs ps (fun r=>K r=true):=by
 unfold Qn at k
 unfold oh
 (repeat' split at k)<;>first|(cases k;done)|exact k|(simp only[Bool.and_eq_true,decide_eq_true_eq]at k;exact k)|(rw[if_pos ‹_›];exact k)|(rw[if_neg ‹_›];exact k)|(simp only[*,↓reduceIte,Bool.false_eq_true];done)|(simp_all;done)
theorem GM {K:AV→Bool}(n size:Nat) (vs:List AV) (k:vD n size vs K=true):gH n size vs (fun r=>K r=true):=by
 unfold vD at k
 unfold gH
 (repeat' split at k)<;>first|(cases k;done)|exact k|(simp only[Bool.and_eq_true,decide_eq_true_eq]at k;exact k)|(rw[if_pos ‹_›];exact k)|(rw[if_neg ‹_›];exact k)|(simp only[*,↓reduceIte,Bool.false_eq_true];done)|(simp_all;done)
theorem QU {K:AV→Bool}(op:BinOp) (x:AV) (k:KR op x K=true):me op x (fun r=>K r=true):=by
 unfold KR at k
 unfold me
 (repeat' split at k)<;>first|(cases k;done)|exact k|(simp only[Bool.and_eq_true,decide_eq_true_eq]at k;exact k)|(rw[if_pos ‹_›];exact k)|(rw[if_neg ‹_›];exact k)|(simp only[*,↓reduceIte,Bool.false_eq_true];done)|(simp_all;done)
theorem PU {K:AV→Bool}(op:BinOp) (x:AV) (k:J8 op x K=true):lI op x (fun r=>K r=true):=by
 unfold J8 at k
 unfold lI
 (repeat' split at k)<;>first|(cases k;done)|exact k|(simp only[Bool.and_eq_true,decide_eq_true_eq]at k;exact k)|(rw[if_pos ‹_›];exact k)|(rw[if_neg ‹_›];exact k)|(simp only[*,↓reduceIte,Bool.false_eq_true];done)|(simp_all;done)
theorem QJ {K:AV→Bool}(op:BinOp) (x:AV) (k:K8 op x K=true):mj op x (fun r=>K r=true):=by
 unfold K8 at k
 unfold mj
 (repeat' split at k)<;>first|(cases k;done)|exact k|(simp only[Bool.and_eq_true,decide_eq_true_eq]at k;exact k)|(rw[if_pos ‹_›];exact k)|(rw[if_neg ‹_›];exact k)|(simp only[*,↓reduceIte,Bool.false_eq_true];done)|(simp_all;done)
theorem Pw {K:AV→Bool}(op:BinOp) (x:AV) (k:J0 op x K=true):nq op x (fun r=>K r=true):=by
 unfold J0 at k
 unfold nq
 split at k
 ·exact qz _ _ k
 ·split at k
  ·rename_i h0;simp only[if_pos h0];simp only[Bool.and_eq_true]at k;exact⟨qz _ _ k.1,qz _ _ k.2⟩
  ·rename_i h0;simp only[if_neg h0];exact qz _ _ k
 ·split at k
  ·rename_i h0;simp only[if_pos h0];simp only[Bool.and_eq_true]at k;exact⟨qz _ _ k.1,qz _ _ k.2⟩
  ·rename_i h0;simp only[if_neg h0];exact qz _ _ k
 ·cases k
theorem Zc {K:AV→Bool}(op:BinOp) (ds:List TypeDesc) (x y:AV) (k:aaf op ds x y K=true):Fd op ds x y (fun r=>K r=true):=by
 unfold aaf at k
 unfold Fd
 split at k
 ·split at k
  ·rename_i hm;simp only[hm];exact qz _ _ k
  ·cases k
 ·cases k
theorem WE {K:AV→Bool}(v:AV) (k:V0 v K=true):yK v (fun r=>K r=true):=by
 unfold V0 at k
 unfold yK
 (repeat' split at k)<;>first|(cases k;done)|exact k|(simp only[Bool.and_eq_true,decide_eq_true_eq]at k;exact k)|(rw[if_pos ‹_›];exact k)|(rw[if_neg ‹_›];exact k)|(simp only[*,↓reduceIte,Bool.false_eq_true];done)|(simp_all;done)
theorem Y6 {K:AV→Bool}(x y:AV) (k:Z3 x y K=true):DY x y (fun r=>K r=true):=by
 unfold Z3 at k
 unfold DY
 (repeat' split at k)<;>first|(cases k;done)|exact k|(simp only[Bool.and_eq_true,decide_eq_true_eq]at k;exact k)|(rw[if_pos ‹_›];exact k)|(rw[if_neg ‹_›];exact k)|(simp only[*,↓reduceIte,Bool.false_eq_true];done)|(simp_all;done)
theorem Yk {K:AV→Bool}(x y:AV) (k:aag x y K=true):DF x y (fun r=>K r=true):=by
 unfold aag at k
 unfold DF
 (repeat' split at k)<;>first|(cases k;done)|exact k|(simp only[Bool.and_eq_true,decide_eq_true_eq]at k;exact k)|(rw[if_pos ‹_›];exact k)|(rw[if_neg ‹_›];exact k)|(simp only[*,↓reduceIte,Bool.false_eq_true];done)|(simp_all;done)
end
section
def bI (c t e:Bool):Bool:=@Bool.casesOn (fun _=>Bool) c e t
theorem L6 (c t e:Bool):bI c t e=true↔(c=true∧t=true)∨(c=false∧e=true):=by cases c<;>simp[bI]
def bA (c t:Bool):Bool:=@Bool.casesOn (fun _=>Bool) c false t
theorem dw (c t:Bool):bA c t=true↔c=true∧t=true:=by cases c<;>simp[bA]
def fN (m:Nat) (K:Nat→Bool):Bool:=@Nat.casesOn (fun _=>Bool) m (K 0) (fun m=>K (Nat.succ m))
theorem k8 (m:Nat) (K:Nat→Bool):fN m K=K m:=by cases m<;>rfl
def fI (n:Int) (K:Int→Bool):Bool:=@Int.casesOn (fun _=>Bool) n (fun m=>fN m fun m=>K (.ofNat m)) (fun m=>fN m fun m=>K (.negSucc m))
theorem SC (n:Int) (K:Int→Bool):fI n K=K n:=by cases n<;>simp[fI,k8]
def fB (b:Bool) (K:Bool→Bool):Bool:=@Bool.casesOn (fun _=>Bool) b (K false) (K true)
theorem RX (b:Bool) (K:Bool→Bool):fB b K=K b:=by cases b<;>rfl
theorem nbF {a b:Nat}(h:¬ a=b):Nat.beq a b=false:=by
 cases e:Nat.beq a b
 ·rfl
 ·exact (h (Nat.eq_of_beq_eq_true e)).elim
inductive Tr (α:Type) where
 | leaf
 | node (l:Tr α) (v:Option α) (r:Tr α)
namespace Tr
variable {α:Type}
def abd:Tr α→Nat→Option α
 | .leaf,_=>none
 | .node l v r,i=>if i=0 then v else if i%2=1 then abd l (i / 2) else abd r (i / 2-1)
def WZ (x:α):Nat→Nat→Tr α
 | 0,_=>.leaf
 | f+1,i=>if i=0 then .node .leaf (some x) .leaf else if i%2=1 then .node (WZ x f (i / 2)) none .leaf else .node .leaf none (WZ x f (i / 2-1))
def aa7 (t:Tr α) (x:α) (i:Nat):Tr α:=match t with
 | .leaf=>WZ x (i+1) i
 | .node l v r=>if i=0 then .node l (some x) r else if i%2=1 then .node (aa7 l x (i / 2)) v r else .node l v (aa7 r x (i / 2-1))
def get (t:Tr α):Nat→Option α:=
 @Tr.rec α (fun _=>Nat→Option α) (fun _=>none) (fun _ v _ gl gr i=>@Bool.rec (fun _=>Option α) (@Bool.rec (fun _=>Option α) (gr (Nat.sub (Nat.div i 2) 1)) (gl (Nat.div i 2)) (Nat.beq (Nat.mod i 2) 1)) v (Nat.beq i 0)) t
def MH (x:α):Nat→Nat→Tr α:=
 fun f=>@Nat.rec (fun _=>Nat→Tr α) (fun _=>.leaf) (fun _ ih i=>@Bool.rec (fun _=>Tr α) (@Bool.rec (fun _=>Tr α) (.node .leaf none (ih (Nat.sub (Nat.div i 2) 1))) (.node (ih (Nat.div i 2)) none .leaf) (Nat.beq (Nat.mod i 2) 1)) (.node .leaf (some x) .leaf) (Nat.beq i 0)) f
def set (t:Tr α) (x:α):Nat→Tr α:=
 @Tr.rec α (fun _=>Nat→Tr α) (fun i=>MH x (Nat.succ i) i) (fun l v r sl sr i=>@Bool.rec (fun _=>Tr α) (@Bool.rec (fun _=>Tr α) (.node l v (sr (Nat.sub (Nat.div i 2) 1))) (.node (sl (Nat.div i 2)) v r) (Nat.beq (Nat.mod i 2) 1)) (.node l (some x) r) (Nat.beq i 0)) t
theorem He (i:Nat):(Tr.leaf:Tr α).get i=none:=rfl
theorem ql (l:Tr α) (v:Option α) (r:Tr α) (i:Nat):(Tr.node l v r).get i=if i=0 then v else if i%2=1 then l.get (i / 2) else r.get (i / 2-1):=by
 show @Bool.rec (fun _=>Option α) (@Bool.rec (fun _=>Option α) (r.get (i / 2-1)) (l.get (i / 2)) (Nat.beq (i%2) 1)) v (Nat.beq i 0)=_
 by_cases h0:i=0
 ·subst h0;rfl
 ·have:Nat.beq i 0=false:=nbF h0
  rw[this,if_neg h0]
  by_cases h1:i%2=1
  ·have:Nat.beq (i%2) 1=true:=Nat.beq_eq.mpr h1
   rw[this,if_pos h1]
  ·have:Nat.beq (i%2) 1=false:=nbF h1
   rw[this,if_neg h1]
theorem T2 (x:α) (f i:Nat):MH x (f+1) i=if i=0 then .node .leaf (some x) .leaf else if i%2=1 then .node (MH x f (i / 2)) none .leaf else .node .leaf none (MH x f (i / 2-1)):=by
 show @Bool.rec (fun _=>Tr α) (@Bool.rec (fun _=>Tr α) (.node .leaf none (MH x f (i / 2-1))) (.node (MH x f (i / 2)) none .leaf) (Nat.beq (i%2) 1)) (.node .leaf (some x) .leaf) (Nat.beq i 0)=_
 by_cases h0:i=0
 ·subst h0;rfl
 ·have:Nat.beq i 0=false:=nbF h0
  rw[this,if_neg h0]
  by_cases h1:i%2=1
  ·have:Nat.beq (i%2) 1=true:=Nat.beq_eq.mpr h1
   rw[this,if_pos h1]
  ·have:Nat.beq (i%2) 1=false:=nbF h1
   rw[this,if_neg h1]
theorem VB (x:α) (i:Nat):(Tr.leaf:Tr α).set x i=MH x (i+1) i:=rfl
theorem Ws (l:Tr α) (v:Option α) (r:Tr α) (x:α) (i:Nat):(Tr.node l v r).set x i=if i=0 then .node l (some x) r else if i%2=1 then .node (l.set x (i / 2)) v r else .node l v (r.set x (i / 2-1)):=by
 show @Bool.rec (fun _=>Tr α) (@Bool.rec (fun _=>Tr α) (.node l v (r.set x (i / 2-1))) (.node (l.set x (i / 2)) v r) (Nat.beq (i%2) 1)) (.node l (some x) r) (Nat.beq i 0)=_
 by_cases h0:i=0
 ·subst h0;rfl
 ·have:Nat.beq i 0=false:=nbF h0
  rw[this,if_neg h0]
  by_cases h1:i%2=1
  ·have:Nat.beq (i%2) 1=true:=Nat.beq_eq.mpr h1
   rw[this,if_pos h1]
  ·have:Nat.beq (i%2) 1=false:=nbF h1
   rw[this,if_neg h1]
theorem GF (x:α):∀ (f i j:Nat),i<f→(MH x f i).get j=if j=i then some x else none
 | 0,i,j,h=>by omega
 | f+1,i,j,h=>by
   rw[T2]
   by_cases h0:i=0
   ·rw[if_pos h0,ql]
    subst h0
    split
    ·rfl
    ·split<;>rfl
   ·rw[if_neg h0]
    by_cases h1:i%2=1
    ·rw[if_pos h1,ql]
     by_cases hj:j=0
     ·rw[if_pos hj,if_neg (by omega)]
     ·rw[if_neg hj]
      by_cases hj1:j%2=1
      ·rw[if_pos hj1,GF x f (i / 2) (j / 2) (by omega)]
       by_cases e:j / 2=i / 2
       ·rw[if_pos e,if_pos (by omega)]
       ·rw[if_neg e,if_neg (fun h=>e (by rw[h]))]
      ·rw[if_neg hj1,He,if_neg (fun h=>by subst h;omega)]
    ·rw[if_neg h1,ql]
     by_cases hj:j=0
     ·rw[if_pos hj,if_neg (by omega)]
     ·rw[if_neg hj]
      by_cases hj1:j%2=1
      ·rw[if_pos hj1,He,if_neg (fun h=>by subst h;omega)]
      ·rw[if_neg hj1,GF x f (i / 2-1) (j / 2-1) (by omega)]
       by_cases e:j / 2-1=i / 2-1
       ·rw[if_pos e,if_pos (by omega)]
       ·rw[if_neg e,if_neg (fun h=>e (by rw[h]))]
theorem get_set (x:α):∀ (t:Tr α) (i j:Nat),(t.set x i).get j=if j=i then some x else t.get j
 | .leaf,i,j=>by rw[VB,GF x _ _ _ (Nat.lt_succ_self _),He]
 | .node l v r,i,j=>by
   rw[Ws,ql]
   by_cases h0:i=0
   ·subst h0
    rw[if_pos rfl,ql]
    by_cases hj:j=0
    ·rw[if_pos hj,if_pos hj]
    ·rw[if_neg hj,if_neg hj,if_neg hj]
   ·rw[if_neg h0]
    by_cases h1:i%2=1
    ·rw[if_pos h1,ql]
     by_cases hj:j=0
     ·subst hj;rw[if_pos rfl,if_neg (Ne.symm h0),if_pos rfl]
     ·rw[if_neg hj,if_neg hj]
      by_cases hj1:j%2=1
      ·rw[if_pos hj1,if_pos hj1,get_set x l]
       by_cases e:j / 2=i / 2
       ·rw[if_pos e,if_pos (by omega)]
       ·rw[if_neg e,if_neg (fun h=>e (by rw[h]))]
      ·rw[if_neg hj1,if_neg hj1,if_neg (fun h=>by subst h;omega)]
    ·rw[if_neg h1,ql]
     by_cases hj:j=0
     ·subst hj;rw[if_pos rfl,if_neg (Ne.symm h0),if_pos rfl]
     ·rw[if_neg hj,if_neg hj]
      by_cases hj1:j%2=1
      ·rw[if_pos hj1,if_pos hj1,if_neg (fun h=>by subst h;omega)]
      ·rw[if_neg hj1,if_neg hj1,get_set x r]
       by_cases e:j / 2-1=i / 2-1
       ·rw[if_pos e,if_pos (by omega)]
       ·rw[if_neg e,if_neg (fun h=>e (by rw[h]))]
end Tr
abbrev HT:=Tr AObj
structure HR (t:HT) (n:Nat) (h:ae):Prop where
 len:h.length=n
 at_:∀ i x,t.get i=some x→h[i]?=some x
theorem HR.set {t:HT}{n:Nat}{h:ae}(r:HR t n h) {i:Nat}{o x:AObj}(hi:t.get i=some x):HR (t.set o i) n (h.set i o) where
 len:=by simp[r.len]
 at_:=fun j y hy=>by
  have hl:i<h.length:=(List.getElem?_eq_some_iff.1 (r.at_ i x hi)).1
  rw[Tr.get_set]at hy
  rw[List.getElem?_set]
  by_cases e:j=i
  ·subst e;rw[if_pos rfl]at hy;rw[if_pos rfl,if_pos hl];exact hy
  ·rw[if_neg e]at hy;rw[if_neg (Ne.symm e)];exact r.at_ j y hy
theorem HR.push {t:HT}{n:Nat}{h:ae}(r:HR t n h) (o:AObj):HR (t.set o n) (n+1) (h++[o]) where
 len:=by simp[r.len]
 at_:=fun j y hy=>by
  have hl:=r.len
  rw[Tr.get_set]at hy
  by_cases e:j=n
  ·subst e;rw[if_pos rfl]at hy;rw[List.getElem?_append_right (by omega)];simp[hl];cases hy;rfl
  ·rw[if_neg e]at hy
   have:=r.at_ j y hy
   have hj:j<h.length:=(List.getElem?_eq_some_iff.1 this).1
   rw[List.getElem?_append_left hj];exact this
theorem HR.more {t:HT}{n:Nat}{h:ae}(r:HR t n h) (l:ae):HR t (n+l.length) (h++l) where
 len:=by simp[r.len]
 at_:=fun j y hy=>by
  have:=r.at_ j y hy
  have hj:j<h.length:=(List.getElem?_eq_some_iff.1 this).1
  rw[List.getElem?_append_left hj];exact this
theorem HR.none {n:Nat}{h:ae}(e:h.length=n):HR .leaf n h:=⟨e,fun i x hx=>by cases hx⟩
def KH (K:AV→HT→Nat→Bool) (r:AV) (h:ae):Prop:=∃ t n,HR t n h∧K r t n=true
def KS (K:HT→Nat→Bool) (h:ae):Prop:=∃ t n,HR t n h∧K t n=true
section
variable {t:HT}{n:Nat}{h:ae}
def R5 (t:HT) (m:Nat) (v:AV):Option (List AV):=match v with
 | .ptr i o=>match t.get i with
   | some (.cells cs)=>if o+m≤cs.length then some ((cs.drop o).take m) else none
   | _=>none
 | .cptr cs=>if m≤cs.length then some (cs.take m) else none
 | _=>none
theorem Ot (r:HR t n h) {m:Nat}{v:AV}{l:List AV}(e:R5 t m v=some l):qV h m v=some l:=by
 unfold R5 at e
 unfold qV
 split at e
 ·split at e
  ·rename_i hc;simp only[r.at_ _ _ hc];exact e
  ·cases e
 ·exact e
 ·cases e
def E9 (m:Nat) (v:AV) (t:HT) (K:AV→Bool):Bool:=match R5 t m v with|some l=>K (.agg l)|none=>false
def EP (v:AV) (t:HT) (K:AV→Bool):Bool:=match R5 t 1 v with|some [a]=>K a|_=>false
theorem CK (r:HR t n h) {m:Nat}{v:AV}{K:AV→Bool}(k:E9 m v t K=true):mH m v h (fun r=>K r=true):=by
 unfold E9 at k
 unfold mH
 split at k
 ·rename_i hl;simp only[Ot r hl];exact k
 ·cases k
theorem Cl (r:HR t n h) {v:AV}{K:AV→Bool}(k:EP v t K=true):ml v h (fun r=>K r=true):=by
 unfold EP at k
 unfold ml
 split at k
 ·rename_i hl;simp only[Ot r hl];exact k
 ·cases k
def YI (cs:List AV) (t:HT) (n:Nat) (K:AV→HT→Nat→Bool):Bool:=fN n fun n=>K (.ptr n 0) (t.set (.cells cs) n) (n+1)
theorem Q3 (r:HR t n h) {cs:List AV}{K:AV→HT→Nat→Bool}(k:YI cs t n K=true):U7 cs h (KH K):=by
 unfold YI at k;rw[k8]at k
 unfold U7
 rw[r.len]
 exact⟨_,_,r.push _,k⟩
def ZW (v:AV) (t:HT) (n:Nat) (K:AV→HT→Nat→Bool):Bool:=bI v.isTup false (YI v.cells t n K)
theorem YK (r:HR t n h) {v:AV}{K:AV→HT→Nat→Bool}(k:ZW v t n K=true):aaQ v h (KH K):=by
 unfold ZW at k
 rcases (L6 _ _ _).1 k with ⟨_,k⟩|⟨hv,k⟩
 ·cases k
 ·exact⟨hv,Q3 r k⟩
def Qb (m:Nat) (v u:AV) (t:HT) (n:Nat) (K:HT→Nat→Bool):Bool:=
 match v with
 | .ptr i o=>(match t.get i with
   | some (.cells cs)=>decide (u.isTup=false∧u.cells.length=m∧u.cells.all AV.one=true∧o+m≤cs.length)&&K (t.set (.cells (splice cs o u.cells)) i) n
   | _=>false)
 | _=>false
theorem UI (r:HR t n h) {m:Nat}{v u:AV}{K:HT→Nat→Bool}(k:Qb m v u t n K=true):ur m v u h (KS K):=by
 unfold Qb at k
 unfold ur
 split at k
 ·rename_i i o
  skip
  split at k
  ·rename_i cs hc
   simp only[r.at_ _ _ hc]
   simp only[Bool.and_eq_true,decide_eq_true_eq]at k
   exact⟨k.1,_,_,r.set hc,k.2⟩
  ·cases k
 ·cases k
def Hb (t:HT) (size:Nat) (v:AV):Option (Nat×List AV):=match v with
 | .snap n cs=>if cs.length=n*size then some (n,cs) else none
 | .full n cs=>if cs.length=n*size then some (n,cs) else none
 | .sl i off len sz=>match t.get i with
   | some (.cells cs)=>if sz=size∧off+len*size≤cs.length then some (len,(cs.drop off).take (len*size)) else none
   | _=>none
 | .lit (.string s)=>if size=1 then some (s.size,s.data.toList.map fun b=>.lit (.int .u8 b.toNat)) else none
 | _=>none
theorem BM (r:HR t n h) {m:Nat}{v:AV}{x:Nat×List AV}(e:Hb t m v=some x):dz h m v=some x:=by
 unfold Hb at e
 unfold dz
 split at e
 ·exact e
 ·exact e
 ·split at e
  ·rename_i hc;simp only[r.at_ _ _ hc];exact e
  ·cases e
 ·exact e
 ·cases e
def K6 (size bytes:Nat) (v x:AV) (t:HT) (n:Nat) (K:AV→HT→Nat→Bool):Bool:=
 match Hb t size x with
 | none=>false
 | some (m,xs)=>match v with
   | .full n0 cs=>decide (cs.length=n0*size∧(n0+m)*bytes≤1099511627776)&&(bI (Nat.beq m 0) (K (.full n0 cs) t n) (fN n fun n=>fN (n0+m) fun l=>K (.sl n 0 l size) (t.set (.cells (cs++xs)) n) (n+1)))
   | .sl i off len sz=>(match t.get i with
     | some (.cells cs)=>decide (sz=size∧off+len*size=cs.length∧xs.all AV.one=true∧(len+m)*bytes≤1099511627776)&&fN n fun n=>fN (len+m) fun l=>K (.sl n 0 l size) ((t.set .dead i).set (.cells (cs.drop off++xs)) n) (n+1)
     | _=>false)
   | _=>false
theorem Pm (r:HR t n h) {size bytes:Nat}{v x:AV}{K:AV→HT→Nat→Bool}(k:K6 size bytes v x t n K=true):kF size bytes v x h (KH K):=by
 unfold K6 at k
 unfold kF
 split at k
 ·cases k
 ·rename_i m xs hx
  simp only[BM r hx]
  split at k
  ·simp only[Bool.and_eq_true,decide_eq_true_eq,L6,k8]at k
   refine⟨k.1,?_⟩
   rcases k.2 with ⟨h0,k⟩|⟨h0,k⟩
   ·rw[if_pos (Nat.eq_of_beq_eq_true h0)];exact⟨t,n,r,k⟩
   ·rw[if_neg (fun e=>by rw[Nat.beq_eq.mpr e]at h0;cases h0),r.len];exact⟨_,_,r.push _,k⟩
  ·rename_i i off len sz
   skip
   split at k
   ·rename_i cs hc
    simp only[r.at_ _ _ hc]
    simp only[Bool.and_eq_true,decide_eq_true_eq,k8]at k
    refine⟨k.1,?_⟩
    rw[r.len]
    exact⟨_,_,(r.set hc).push _,k.2⟩
   ·cases k
  ·cases k
def Cc (x:AV) (t:HT) (K:AV→Bool):Bool:=
 bA (yR x) (match Hb t 1 x with
  | some (_,xs)=>(match xP xs with|some l=>K (S ⟨l.toArray⟩)|none=>false)
  | none=>false)
theorem LI (r:HR t n h) {x:AV}{K:AV→Bool}(k:Cc x t K=true):gg x h (fun r=>K r=true):=by
 unfold Cc at k
 unfold gg
 rw[dw]at k
 rw[if_pos k.1]
 have k:=k.2
 split at k
 ·rename_i hx
  simp only[BM r hx]
  split at k
  ·simp only[*]
  ·cases k
 ·cases k
def B3 (x:AV) (t:HT) (n:Nat) (K:AV→HT→Nat→Bool):Bool:=
 match x with
 | .lit (.string s)=>fN n fun n=>fN s.size fun l=>K (.sl n 0 l 1) (t.set (.cells (s.data.toList.map fun b=>.lit (.int .u8 b.toNat))) n) (n+1)
 | _=>false
theorem J7 (r:HR t n h) {x:AV}{K:AV→HT→Nat→Bool}(k:B3 x t n K=true):jA x h (KH K):=by
 unfold B3 at k
 unfold jA
 split at k
 ·simp only[k8]at k
  rw[r.len]
  exact⟨_,_,r.push _,k⟩
 ·cases k
def zH (bytes:Nat) (z l c:AV) (t:HT) (n:Nat) (K:AV→HT→Nat→Bool):Bool:=
 match l,c with
 | .lit (.int _ l),.lit (.int _ c)=>decide (0≤l∧l≤c∧(bytes:Int)*c≤1099511627776∧c≤1099511627776)&&fN n fun n=>fN l.toNat fun l=>K (.sl n 0 l 1) (t.set (.cells (List.replicate c.toNat z)) n) (n+1)
 | _,_=>false
theorem Hp (r:HR t n h) {bytes:Nat}{z l c:AV}{K:AV→HT→Nat→Bool}(k:zH bytes z l c t n K=true):gR bytes z l c h (KH K):=by
 unfold zH at k
 unfold gR
 split at k
 ·simp only[k8,Bool.and_eq_true,decide_eq_true_eq]at k
  rw[r.len]
  exact⟨k.1,_,_,r.push _,k.2⟩
 ·cases k
def VY (v:AV) (t:HT) (K:AV→Bool):Bool:=match v with|.map i=>(match t.get i with|some (.amap es _)=>fN es.length fun l=>K (I l)|_=>false)|_=>false
theorem Vk (r:HR t n h) {v:AV}{K:AV→Bool}(k:VY v t K=true):yQ v h (fun r=>K r=true):=by
 unfold VY at k
 unfold yQ
 split at k
 ·split at k
  ·rename_i hc
   simp only[k8]at k;simp only[r.at_ _ _ hc];exact k
  ·cases k
 ·cases k
def uEq (a b:UInt8):Bool:=Nat.beq a.toNat b.toNat
theorem JW (a b:UInt8):uEq a b=(a==b):=by
 rw[Bool.eq_iff_iff,uEq,Nat.beq_eq,beq_iff_eq,UInt8.toNat_inj]
def lEq:List UInt8→List UInt8→Bool
 | [],[]=>true
 | a::l,b::m=>bA (uEq a b) (lEq l m)
 | _,_=>false
theorem Xm:∀ a b:List UInt8,lEq a b=true↔a=b
 | [],[]=>by simp[lEq]
 | [],b::m=>by simp[lEq]
 | a::l,[]=>by simp[lEq]
 | a::l,b::m=>by simp only[lEq,dw,JW,beq_iff_eq,Xm l m,List.cons.injEq]
def sEq (a b:ByteArray):Bool:=lEq a.data.toList b.data.toList
theorem Lc (a b:ByteArray):sEq a b=true↔a=b:=by
 unfold sEq
 rw[Xm]
 constructor
 ·intro h
  rcases a with ⟨⟨a⟩⟩;rcases b with ⟨⟨b⟩⟩
  simp at h;subst h;rfl
 ·rintro rfl;rfl
theorem aaL (a b:ByteArray):sEq a b=(a==b):=by
 rw[Bool.eq_iff_iff,Lc]
 show a=b↔(a.data==b.data)=true
 rw[beq_iff_eq]
 exact⟨fun h=>by rw[h],fun h=>by cases a;cases b;simp at h;rw[h]⟩
def iEq (a b:Int):Bool:=@Int.casesOn (fun _=>Bool) a (fun m=>@Int.casesOn (fun _=>Bool) b (fun k=>Nat.beq m k) (fun _=>false)) (fun m=>@Int.casesOn (fun _=>Bool) b (fun _=>false) (fun k=>Nat.beq m k))
theorem Re (a b:Int):iEq a b=true↔a=b:=by
 cases a<;>cases b<;>simp[iEq]
 exact⟨fun h=>by rw[h],fun h=>Int.ofNat.inj h⟩
theorem Xx (a b:Int):iEq a b=(a==b):=by
 rw[Bool.eq_iff_iff,Re,beq_iff_eq]
def aae:Value→Value→Bool
 | .string a,.string b=>sEq a b
 | .int _ a,.int _ b=>iEq a b
 | _,_=>false
theorem X2 (a b:Value):aae a b=keq a b:=by
 unfold aae keq
 split<;>simp_all [aaL,Xx]
def FD (k:Value):fF→Nat→Option (Nat×Nat×AV)
 | [],_=>none
 | (k',n,v)::r,i=>match aae k k' with
   | true=>some (i,n,v)
   | false=>FD k r (i+1)
theorem vZ (k:Value):∀ (es:fF) (i:Nat),FD k es i=lq k es i
 | [],_=>rfl
 | (k',n,v)::r,i=>by
   simp only[FD,lq]
   rw[X2]
   cases h:keq k k'
   ·simp[vZ k r]
   ·simp
def ZU (k:Value) (v:AV) (clock:Nat) (es:fF):AObj:=
 match FD k es 0 with
 | some (i,n,_)=>.amap (es.set i (k,n,v)) clock
 | none=>.amap (es++[(k,clock,v)]) (clock+1)
theorem Zq (k:Value) (v:AV) (clock:Nat) (es:fF):ZU k v clock es=MT k v clock es:=by
 unfold ZU MT;rw[vZ]
 split<;>simp_all
def QO (d:TypeDesc):fF→Bool
 | []=>true
 | e::es=>bA (kOk d e.1) (QO d es)
theorem Au (d:TypeDesc):∀ es:fF,QO d es=es.all fun e=>kOk d e.1
 | []=>rfl
 | e::es=>by
   simp only[QO,List.all_cons,← Au d es]
   cases kOk d e.1<;>rfl
def KT (d:TypeDesc) (ok:Bool) (z x key:AV) (t:HT) (K:AV→Bool):Bool:=
 match key with
 | .lit k=>match x with
   | .lit (.map none)=>bA (kOk d k) (K (if ok then .tup [z,B false] else z))
   | .map i=>match t.get i with
     | some (.amap es _)=>bA (kOk d k) (bA (QO d es) (match FD k es 0 with
       | some (_,_,v)=>K (if ok then .tup [v,B true] else v)
       | none=>K (if ok then .tup [z,B false] else z)))
     | _=>false
   | _=>false
 | _=>false
theorem Po (r:HR t n h) {d:TypeDesc}{ok:Bool}{z x key:AV}{K:AV→Bool}(k:KT d ok z x key t K=true):jC d ok z x key h (fun r=>K r=true):=by
 unfold KT at k
 unfold jC
 split at k
 ·split at k
  ·rw[dw]at k;simp only[if_pos k.1];exact k.2
  ·split at k
   ·rename_i hc
    simp only[r.at_ _ _ hc]
    rw[dw,dw,Au,vZ]at k
    rw[if_pos (by simp[k.1,k.2.1])]
    have k:=k.2.2
    split at k<;>simp only[*]
   ·cases k
  ·cases k
 ·cases k
def ut (d:TypeDesc) (x key v:AV) (t:HT) (n:Nat) (K:HT→Nat→Bool):Bool:=
 match key,x with
 | .lit k,.map i=>(match t.get i with
   | some (.amap es clock)=>bA (kOk d k) (bA (QO d es) (K (t.set (ZU k v clock es) i) n))
   | _=>false)
 | _,_=>false
theorem yG (r:HR t n h) {d:TypeDesc}{x key v:AV}{K:HT→Nat→Bool}(k:ut d x key v t n K=true):g7 d x key v h (KS K):=by
 unfold ut at k
 unfold g7
 split at k
 ·skip
  split at k
  ·rename_i hc
   simp only[r.at_ _ _ hc]
   rw[dw,dw,Au,Zq]at k
   rw[if_pos (by simp[k.1,k.2.1])]
   exact⟨_,_,r.set hc,k.2.2⟩
  ·cases k
 ·cases k
def BL (d:TypeDesc) (z x key:AV) (t:HT) (n:Nat) (K:AV→HT→Nat→Bool):Bool:=
 match key,x with
 | .lit k,.map i=>(match t.get i with
   | some (.amap es clock)=>bA (kOk d k) (bA (QO d es) (match FD k es 0 with
     | some (_,m,v)=>K (.tup [v,I m]) t n
     | none=>K (.tup [z,I clock]) (t.set (.amap (es++[(k,clock,z)]) (clock+1)) i) n))
   | _=>false)
 | _,_=>false
theorem LF (r:HR t n h) {d:TypeDesc}{z x key:AV}{K:AV→HT→Nat→Bool}(k:BL d z x key t n K=true):jw d z x key h (KH K):=by
 unfold BL at k
 unfold jw
 split at k
 ·skip
  split at k
  ·rename_i hc
   simp only[r.at_ _ _ hc]
   rw[dw,dw,Au,vZ]at k
   rw[if_pos (by simp[k.1,k.2.1])]
   have k:=k.2.2
   split at k
   ·simp only[*];exact⟨_,_,r,k⟩
   ·simp only[*];exact⟨_,_,r.set hc,k⟩
  ·cases k
 ·cases k
def wA (x st v:AV) (t:HT) (n:Nat) (K:HT→Nat→Bool):Bool:=
 match st,x with
 | .lit (.int .i64 m),.map i=>(match t.get i with
   | some (.amap es clock)=>(match ue m es 0 with
     | some (j,k,b)=>K (t.set (.amap (es.set j (k,b,v)) clock) i) n
     | none=>false)
   | _=>false)
 | _,_=>false
theorem FA (r:HR t n h) {x st v:AV}{K:HT→Nat→Bool}(k:wA x st v t n K=true):fJ x st v h (KS K):=by
 unfold wA at k
 unfold fJ
 split at k
 ·skip
  split at k
  ·rename_i hc
   simp only[r.at_ _ _ hc]
   split at k
   ·simp only[*];exact⟨_,_,r.set hc,k⟩
   ·cases k
  ·cases k
 ·cases k
def KO (d:TypeDesc) (x key:AV) (t:HT) (n:Nat) (K:HT→Nat→Bool):Bool:=
 match key with
 | .lit k=>match x with
   | .lit (.map none)=>bA (kOk d k) (K t n)
   | .map i=>(match t.get i with
     | some (.amap es clock)=>bA (kOk d k) (bA (QO d es) (match FD k es 0 with
       | some (j,_,_)=>K (t.set (.amap (es.eraseIdx j) clock) i) n
       | none=>K t n))
     | _=>false)
   | _=>false
 | _=>false
theorem QB (r:HR t n h) {d:TypeDesc}{x key:AV}{K:HT→Nat→Bool}(k:KO d x key t n K=true):qw d x key h (KS K):=by
 unfold KO at k
 unfold qw
 split at k
 ·split at k
  ·rw[dw]at k;simp only[if_pos k.1];exact⟨_,_,r,k.2⟩
  ·skip
   split at k
   ·rename_i hc
    simp only[r.at_ _ _ hc]
    rw[dw,dw,Au,vZ]at k
    rw[if_pos (by simp[k.1,k.2.1])]
    have k:=k.2.2
    split at k
    ·simp only[*];exact⟨_,_,r.set hc,k⟩
    ·simp only[*];exact⟨_,_,r,k⟩
   ·cases k
  ·cases k
 ·cases k
def FE (t:HT) (n:Nat) (K:AV→HT→Nat→Bool):Bool:=fN n fun n=>K (.map n) (t.set (.amap [] 0) n) (n+1)
theorem NY (r:HR t n h) {K:AV→HT→Nat→Bool}(k:FE t n K=true):tl h (KH K):=by
 unfold FE at k;rw[k8]at k
 unfold tl
 rw[r.len]
 exact⟨_,_,r.push _,k⟩
def JO (x:AV) (t:HT) (n:Nat) (K:AV→HT→Nat→Bool):Bool:=
 match x with
 | .lit (.string s)=>fN n fun n=>K (.ptr n 0) (t.set (.siter s 0) n) (n+1)
 | _=>false
theorem Ph (r:HR t n h) {x:AV}{K:AV→HT→Nat→Bool}(k:JO x t n K=true):rc x h (KH K):=by
 unfold JO at k
 unfold rc
 split at k
 ·rw[k8]at k;rw[r.len];exact⟨_,_,r.push _,k⟩
 ·cases k
def Pi (x:AV) (t:HT) (n:Nat) (K:AV→HT→Nat→Bool):Bool:=
 match x with
 | .ptr i 0=>(match t.get i with
   | some (.siter s pos)=>bI (Nat.blt pos s.size) (K (.tup [B true,I pos,.lit (.int .i32 (Utf8.decode s pos).1)]) (t.set (.siter s (pos+(Utf8.decode s pos).2)) i) n) (K (.tup [B false]) t n)
   | _=>false)
 | _=>false
theorem TM (r:HR t n h) {x:AV}{K:AV→HT→Nat→Bool}(k:Pi x t n K=true):uZ x h (KH K):=by
 unfold Pi at k
 unfold uZ
 split at k
 ·skip
  split at k
  ·rename_i hc
   simp only[r.at_ _ _ hc]
   rw[L6]at k
   rcases k with ⟨hp,k⟩|⟨hp,k⟩
   ·rw[if_pos (by rw[Nat.blt_eq]at hp;exact hp)];exact⟨_,_,r.set hc,k⟩
   ·rw[if_neg (fun e=>by rw[← Nat.blt_eq,hp]at e;cases e)];exact⟨_,_,r,k⟩
  ·cases k
 ·cases k
def Lo (x:AV) (t:HT) (n:Nat) (K:AV→HT→Nat→Bool):Bool:=
 match x with
 | .lit (.map none)=>fN n fun n=>K (.ptr n 0) (t.set (.miter none 0 [] 0) n) (n+1)
 | .map i=>(match t.get i with
   | some (.amap es clock)=>fN n fun n=>K (.ptr n 0) (t.set (.miter (some i) clock [] clock) n) (n+1)
   | _=>false)
 | _=>false
theorem PC (r:HR t n h) {x:AV}{K:AV→HT→Nat→Bool}(k:Lo x t n K=true):pm x h (KH K):=by
 unfold Lo at k
 unfold pm
 split at k
 ·rw[k8]at k;rw[r.len];exact⟨_,_,r.push _,k⟩
 ·skip
  split at k
  ·rename_i hc
   simp only[r.at_ _ _ hc]
   rw[k8]at k;rw[r.len];exact⟨_,_,r.push _,k⟩
  ·cases k
 ·cases k
def QA (x:AV) (t:HT) (n:Nat) (K:AV→HT→Nat→Bool):Bool:=
 match x with
 | .ptr i 0=>(match t.get i with
   | some (.miter none _ _ _)=>K (.tup [B false]) t n
   | some (.miter (some j) since seen last)=>(match t.get j with
     | some (.amap es clock)=>
       decide ((es.all fun e=>e.1.oneCell')=true∧(!seen.isEmpty&&!es.isEmpty&&es.all fun e=>decide (e.2.1≥last))=false)&&
       ((!(es.all fun e=>seen.contains e.2.1||decide (since≤e.2.1))||K (.tup [B false]) t n)&&
       es.all fun e=>seen.contains e.2.1||K (.tup [B true,.lit e.1,e.2.2]) (t.set (.miter (some j) since (seen++[e.2.1]) clock) i) n)
     | _=>false)
   | _=>false)
 | _=>false
theorem Um (r:HR t n h) {x:AV}{K:AV→HT→Nat→Bool}(k:QA x t n K=true):uL x h (KH K):=by
 unfold QA at k
 unfold uL
 split at k
 ·skip
  split at k
  ·rename_i hes;simp only[r.at_ _ _ hes];exact⟨_,_,r,k⟩
  ·rename_i hes
   split at k
   ·rename_i hm
    simp only[r.at_ _ _ hes,r.at_ _ _ hm]
    simp only[Bool.and_eq_true,decide_eq_true_eq,Bool.or_eq_true,Bool.not_eq_true',List.all_eq_true,List.all_eq_false]at k
    obtain⟨k0,k1,k2⟩:=k
    refine⟨⟨List.all_eq_true.2 k0.1,k0.2⟩,fun ha=>?_,fun e he hs=>?_⟩
    ·rcases k1 with ⟨x,hx,hn⟩|k1
     ·exfalso
      rcases ha x hx with h1|h1
      ·exact hn (by simp[h1])
      ·exact hn (by simp[h1])
     ·exact⟨_,_,r,k1⟩
    ·rcases k2 e he with h1|h1
     ·exact (hs (by simpa using h1)).elim
     ·exact⟨_,_,r.set hes,h1⟩
   ·cases k
  ·cases k
 ·cases k
def Pz (x:AV) (t:HT) (K:AV→Bool):Bool:=
 match x with
 | .ptr i 0=>(match t.get i with
   | some (.miter (some j) _ seen last)=>(match t.get j,seen.getLast? with
     | some (.amap es clock),some n=>(match nR n es with
       | some (k,v)=>bA (k.oneCell'&&clock==last) (K (.tup [.lit k,v]))
       | none=>false)
     | _,_=>false)
   | _=>false)
 | _=>false
theorem SO (r:HR t n h) {x:AV}{K:AV→Bool}(k:Pz x t K=true):oo x h (fun r=>K r=true):=by
 unfold Pz at k
 unfold oo
 split at k
 ·split at k
  ·rename_i hc
   simp only[r.at_ _ _ hc]
   split at k
   ·rename_i h1 h2
    simp only[r.at_ _ _ h1,h2]
    split at k
    ·rw[dw]at k;simp only[*,if_true]
    ·cases k
   ·cases k
  ·cases k
 ·cases k
end
end
section
def kNo (k:IntKind):Nat:=match k with|.i8=>0|.i16=>1|.i32=>2|.i64=>3|.u8=>4|.u16=>5|.u32=>6|.u64=>7
def kEq (j k:IntKind):Bool:=Nat.beq (kNo j) (kNo k)
theorem Rx (j k:IntKind):kEq j k=true↔j=k:=by cases j<;>cases k<;>decide
def aar (n:Int):Bool:=@Int.casesOn (fun _=>Bool) n (fun m=>Nat.ble m 9223372036854775807) (fun m=>Nat.ble m 9223372036854775807)
theorem SH {n:Int}(h:aar n=true):IntKind.i64.wrap n=n:=by
 have hb:-9223372036854775808≤n∧n≤9223372036854775807:=by
  cases n with
  | ofNat m=>have:m≤9223372036854775807:=Nat.le_of_ble_eq_true h;constructor<;>simp<;>omega
  | negSucc m=>have:m≤9223372036854775807:=Nat.le_of_ble_eq_true h;constructor<;>omega
 exact IntWalk.i64_in _ hb
def wI (k:IntKind) (n:Int) (K:Int→Bool):Bool:=bI (bA (Nat.beq (kNo k) 3) (aar n)) (fI n K) (fI (k.wrap n) K)
theorem ZB (k:IntKind) (n:Int) (K:Int→Bool):wI k n K=K (k.wrap n):=by
 unfold wI
 cases h:bA (Nat.beq (kNo k) 3) (aar n)
 ·simp[bI,SC]
 ·rw[dw]at h
  have hk:k=.i64:=by
   have h1:=Nat.eq_of_beq_eq_true h.1
   cases k<;>simp_all [kNo]
  subst hk
  simp[bI,SC,SH h.2]
def iLt (a b:Int):Bool:=@Int.casesOn (fun _=>Bool) a (fun m=>@Int.casesOn (fun _=>Bool) b (fun k=>Nat.blt m k) (fun _=>false)) (fun m=>@Int.casesOn (fun _=>Bool) b (fun _=>true) (fun k=>Nat.blt k m))
theorem xL (a b:Nat):Nat.blt a b=true↔a<b:=by simp
theorem Sf (a b:Int):iLt a b=true↔a<b:=by
 cases a<;>cases b
 ·exact (xL _ _).trans ⟨fun h=>by simpa using h,fun h=>by simpa using h⟩
 ·exact⟨fun h=>(by cases h),fun h=>by simp at h;omega⟩
 ·exact⟨fun h=>by simp;omega,fun h=>rfl⟩
 ·exact (xL _ _).trans ⟨fun h=>by omega,fun h=>by omega⟩
def fS:List UInt8→(List UInt8→Bool)→Bool
 | [],K=>K []
 | a::l,K=>fS l fun l=>K (a::l)
theorem XJ:∀ (l:List UInt8) (K:List UInt8→Bool),fS l K=K l
 | [],K=>rfl
 | a::l,K=>by simp only[fS,XJ l]
def uLt (a b:UInt8):Bool:=Nat.blt a.toNat b.toNat
def lLt:List UInt8→List UInt8→Bool
 | _,[]=>false
 | [],_::_=>true
 | a::x,b::y=>bI (uLt a b) true (bA (uEq a b) (lLt x y))
theorem V2:∀ a b:List UInt8,lLt a b=Op.bytesLess a b
 | [],[]=>rfl
 | a::x,[]=>rfl
 | [],b::y=>rfl
 | a::x,b::y=>by
   simp only[lLt,Op.bytesLess,V2 x y,JW]
   have:uLt a b=decide (a<b):=by
    rw[Bool.eq_iff_iff,uLt,xL,decide_eq_true_eq,UInt8.lt_iff_toNat_lt]
   rw[this]
   cases decide (a<b)<;>cases (a==b)<;>rfl
def oV (o:Option Value) (K:AV→Bool):Bool:=match o with
 | some (.int k r)=>fI r fun r=>K (.lit (.int k r))
 | some (.bool b)=>fB b fun b=>K (.lit (.bool b))
 | some (.float k r)=>fN r fun r=>K (.lit (.float k r))
 | some r=>K (.lit r)
 | none=>false
theorem XH (o:Option Value) (K:AV→Bool) (h:oV o K=true):∃ r,o=some r∧K (.lit r)=true:=by
 unfold oV at h
 split at h
 ·rw[SC]at h;exact⟨_,rfl,h⟩
 ·rw[RX]at h;exact⟨_,rfl,h⟩
 ·rw[k8]at h;exact⟨_,rfl,h⟩
 ·exact⟨_,rfl,h⟩
 ·cases h
def aaa (op:BinOp) (k k':IntKind) (a b:Int) (K:AV→Bool):Bool:=
 match op with
 | .add=>bA (kEq k k') (wI k (Int.add a b) fun r=>K (.lit (.int k r)))
 | .sub=>bA (kEq k k') (wI k (Int.sub a b) fun r=>K (.lit (.int k r)))
 | .mul=>bA (kEq k k') (wI k (Int.mul a b) fun r=>K (.lit (.int k r)))
 | .eql=>bA (kEq k k') (fB (iEq a b) fun r=>K (B r))
 | .neq=>bA (kEq k k') (fB (iEq a b) fun r=>K (B !r))
 | .lss=>bA (kEq k k') (fB (iLt a b) fun r=>K (B r))
 | .leq=>bA (kEq k k') (fB (iLt b a) fun r=>K (B !r))
 | .gtr=>bA (kEq k k') (fB (iLt b a) fun r=>K (B r))
 | .geq=>bA (kEq k k') (fB (iLt a b) fun r=>K (B !r))
 | op=>oV (ct op (.int k a) (.int k' b)) K
def aah (op:BinOp) (x y:ByteArray) (K:AV→Bool):Bool:=
 match op with
 | .add=>bA (Nat.ble (Nat.add x.data.toList.length y.data.toList.length) 1099511627776) (fS (x.data.toList++y.data.toList) fun l=>K (S ⟨⟨l⟩⟩))
 | .eql=>fB (sEq x y) fun r=>K (B r)
 | .neq=>fB (sEq x y) fun r=>K (B !r)
 | .lss=>fB (lLt x.data.toList y.data.toList) fun r=>K (B r)
 | .leq=>fB (bI (lLt x.data.toList y.data.toList) true (sEq x y)) fun r=>K (B r)
 | .gtr=>fB (bI (lLt x.data.toList y.data.toList) true (sEq x y)) fun r=>K (B !r)
 | .geq=>fB (lLt x.data.toList y.data.toList) fun r=>K (B !r)
 | _=>false
def VQ (op:BinOp) (x y:AV) (K:AV→Bool):Bool:=
 match x,y with
 | .lit (.int k a),.lit (.int k' b)=>aaa op k k' a b K
 | .lit (.string a),.lit (.string b)=>aah op a b K
 | .lit a,.lit b=>oV (ct op a b) K
 | _,_=>false
theorem Yf {op:BinOp}{k k':IntKind}{a b:Int}{K:AV→Bool}(h:aaa op k k' a b K=true):∃ r,ct op (.int k a) (.int k' b)=some r∧K (.lit r)=true:=by
 unfold aaa at h
 have h1:decide (b<a)=!decide (a≤b):=by by_cases hh:a≤b<;>simp[hh]<;>omega
 have h2:decide (a<b)=!decide (b≤a):=by by_cases hh:b≤a<;>simp[hh]<;>omega
 have e1:iLt a b=decide (a<b):=by rw[Bool.eq_iff_iff,Sf,decide_eq_true_eq]
 have e2:iLt b a=decide (b<a):=by rw[Bool.eq_iff_iff,Sf,decide_eq_true_eq]
 split at h
 case h_10=>exact XH _ _ h
 all_goals
  rw[dw,Rx]at h
  obtain⟨rfl,h⟩:=h
  first|rw[ZB]at h|rw[RX]at h
  refine⟨_,by simp only[ct,gm,if_true];rfl,?_⟩
  first
   | exact h
   | (rw[Xx]at h;exact h)
   | (rw[e1]at h;exact h)
   | (rw[e2]at h;exact h)
   | (rw[e1,h2,Bool.not_not]at h;exact h)
   | (rw[e2,h1,Bool.not_not]at h;exact h)
theorem Y0 {op:BinOp}{x y:ByteArray}{K:AV→Bool}(h:aah op x y K=true):∃ r,ct op (.string x) (.string y)=some r∧K (.lit r)=true:=by
 have he:(x.toList==y.toList)=sEq x y:=by
  rw[Bool.eq_iff_iff,Lc,beq_iff_eq,ByteArray.toList_eq,ByteArray.toList_eq]
  exact⟨fun h=>by rcases x with ⟨⟨x⟩⟩;rcases y with ⟨⟨y⟩⟩;simp at h;rw[h],fun h=>by rw[h]⟩
 have hl:Op.bytesLess x.toList y.toList=lLt x.data.toList y.data.toList:=by rw[ByteArray.toList_eq,ByteArray.toList_eq,V2]
 have hor:∀ a b:Bool,bI a true b=(a||b):=fun a b=>by cases a<;>rfl
 have hbl:ct op (.string x) (.string y)=uK op x y:=by cases op<;>rfl
 rw[hbl]
 unfold aah at h
 unfold uK
 simp only[he,hl]
 split at h
 ·rw[dw,XJ]at h
  have hs:=Nat.le_of_ble_eq_true h.1
  have hsz:¬ ((x.size+y.size:Nat):Int) > IntKind.i64.max:=by
   have h1:x.data.toList.length=x.size:=rfl
   have h2:y.data.toList.length=y.size:=rfl
   have h3:Nat.add x.data.toList.length y.data.toList.length=x.size+y.size:=rfl
   rw[h3]at hs
   have:IntKind.i64.max=9223372036854775807:=by decide
   rw[this];omega
  refine⟨_,by rw[if_neg hsz],?_⟩
  have:(x++y:ByteArray)=⟨⟨x.data.toList++y.data.toList⟩⟩:=by
   have:(x++y).data=x.data++y.data:=by simp
   rcases h:x++y with ⟨⟨l⟩⟩
   rw[h]at this
   congr 1
   apply Array.toList_inj.1
   have h2:=congrArg Array.toList this
   simpa using h2
  rw[this]
  exact h.2
 all_goals first
  | cases h;done
  | (rw[RX]at h;exact⟨_,rfl,h⟩)
  | (rw[RX,hor]at h;exact⟨_,rfl,h⟩)
theorem KB {op:BinOp}{x y:AV}{K:AV→Bool}(h:VQ op x y K=true):DH op x y (fun r=>K r=true):=by
 unfold VQ at h
 unfold DH
 split at h
 ·obtain⟨r,e,k⟩:=Yf h;simp only[e];exact k
 ·obtain⟨r,e,k⟩:=Y0 h;simp only[e];exact k
 ·obtain⟨r,e,k⟩:=XH _ _ h;simp only[e];exact k
 ·cases h
def JT (kd:FloatKind) (x:AV) (K:AV→Bool):Bool:=match x with|.lit (.int _ n)=>fN (kd.nearest n) fun r=>K (.lit (.float kd r))|_=>false
theorem Pa {kd:FloatKind}{x:AV}{K:AV→Bool}(h:JT kd x K=true):lP kd x (fun r=>K r=true):=by
 unfold JT at h
 unfold lP
 split at h
 ·rw[k8]at h;exact h
 ·cases h
def KI (kd:IntKind) (x:AV) (K:AV→Bool):Bool:=match x with|.lit (.int _ n)=>wI kd n fun r=>K (.lit (.int kd r))|_=>false
theorem P6 {kd:IntKind}{x:AV}{K:AV→Bool}(h:KI kd x K=true):lW kd x (fun r=>K r=true):=by
 unfold KI at h
 unfold lW
 split at h
 ·rw[ZB]at h;exact h
 ·cases h
def tUn (op:UnOp) (x:AV) (K:AV→Bool):Bool:=bUn op x fun v=>match v with|.lit r=>oV (some r) K|v=>K v
theorem aal {op:UnOp}{x:AV}{K:AV→Bool}(h:tUn op x K=true):pUn op x (fun r=>K r=true):=by
 have hk:∀ v:AV,(match v with|.lit r=>oV (some r) K|v=>K v)=true→K v=true:=fun v k=>by
  split at k
  ·obtain⟨r',e,k⟩:=XH _ _ k;cases e;exact k
  ·exact k
 have k:=ZS _ _ h
 unfold pUn at k ⊢
 split at k<;>first|exact k.elim|exact hk _ k
def X0:List UInt8→Nat→Option UInt8
 | [],_=>none
 | b::l,i=>@Nat.casesOn (fun _=>Option UInt8) i (some b) (fun i=>X0 l i)
theorem Rr:∀ (l:List UInt8) (i:Nat),X0 l i=l[i]?
 | [],i=>by simp[X0]
 | b::l,0=>rfl
 | b::l,i+1=>by show X0 l i=_;rw[Rr l i];simp
def Lv (v i:AV) (K:AV→Bool):Bool:=match v,i with
 | .lit (.string s),.lit (.int _ (.ofNat n))=>(match X0 s.data.toList n with|some b=>fN b.toNat fun c=>K (.lit (.int .u8 (.ofNat c)))|none=>false)
 | _,_=>false
theorem Qr {v i:AV}{K:AV→Bool}(h:Lv v i K=true):kH v i (fun r=>K r=true):=by
 unfold Lv at h
 unfold kH
 split at h
 ·rename_i s k n
  rw[Rr]at h
  split at h
  ·rename_i b hb
   rw[k8]at h
   have hl:n<s.size:=(List.getElem?_eq_some_iff.1 hb).1
   refine⟨⟨by simp,by simpa using hl⟩,?_⟩
   have:bAt s (Int.ofNat n)=Int.ofNat b.toNat:=by
    unfold bAt
    have:s.data[n]?=some b:=by rw[← Array.getElem?_toList];exact hb
    simp[this]
   rw[this];exact h
  ·cases h
 ·cases h
def Zs (o:Option AV) (d:Nat):Option Nat:=match o with|none=>some d|some (.lit (.int _ (.ofNat n)))=>some n|_=>none
theorem Ra {o:Option AV}{d m:Nat}(h:Zs o d=some m):kT o d=some (m:Int):=by
 unfold Zs at h
 split at h
 ·cases h;rfl
 ·cases h;rfl
 ·cases h
def Lw (v:AV) (lo hi:Option AV) (K:AV→Bool):Bool:=
 match v with
 | .lit (.string s)=>(match Zs lo 0,Zs hi s.data.toList.length with
   | some l,some h=>bA (Nat.ble l h) (bA (Nat.ble h s.data.toList.length) (fS ((s.data.toList.drop l).take (Nat.sub h l)) fun r=>K (S ⟨⟨r⟩⟩)))
   | _,_=>false)
 | _=>false
theorem PV (s:ByteArray) (l h:Nat):s.extract l h=⟨⟨(s.data.toList.drop l).take (h-l)⟩⟩:=by
 have h1:(s.extract l h).data=s.data.extract l h:=by simp
 rcases he:s.extract l h with ⟨d⟩
 rw[he]at h1
 congr 1
 apply Array.toList_inj.1
 have h2:=congrArg Array.toList h1
 simpa [Array.toList_extract,List.extract_eq_take_drop] using h2
theorem QN {v:AV}{lo hi:Option AV}{K:AV→Bool}(k:Lw v lo hi K=true):iq v lo hi (fun r=>K r=true):=by
 unfold Lw at k
 unfold iq
 split at k
 ·rename_i s
  split at k
  ·rename_i l h h1 h2
   rw[dw,dw,XJ]at k
   have a1:=Nat.le_of_ble_eq_true k.1
   have a2:=Nat.le_of_ble_eq_true k.2.1
   have h2':kT hi s.size=some (h:Int):=Ra h2
   have h1':kT lo 0=some (l:Int):=Ra h1
   simp only[h1',h2']
   have hz:s.data.toList.length=s.size:=rfl
   rw[hz]at a2
   refine⟨⟨by omega,by omega,by omega⟩,?_⟩
   simp only[Int.toNat_natCast]
   rw[PV]
   exact k.2.2
  ·cases k
 ·cases k
def U4 (v:AV) (K:AV→Bool):Bool:=match v with|.lit (.string s)=>fN s.data.toList.length fun n=>K (I (.ofNat n))|_=>false
theorem Wv {v:AV}{K:AV→Bool}(h:U4 v K=true):yg v (fun r=>K r=true):=by
 unfold U4 at h
 unfold yg
 split at h
 ·rw[k8]at h;exact h
 ·cases h
def zC (off:Nat) (v:AV) (K:AV→Bool):Bool:=match v with|.ptr i o=>fN (Nat.add o off) fun o=>K (.ptr i o)|.cptr cs=>K (.cptr (cs.drop off))|_=>false
theorem HC {off:Nat}{v:AV}{K:AV→Bool}(h:zC off v K=true):eT off v (fun r=>K r=true):=by
 unfold zC at h
 unfold eT
 split at h
 ·rw[k8]at h;exact h
 ·exact h
 ·cases h
def y8 (size:Nat) (v i:AV) (K:AV→Bool):Bool:=
 match i with
 | .lit (.int _ (.ofNat n))=>match v with
   | .sl j off len sz=>bA (Nat.blt n len) (bA (Nat.beq sz size) (fN (Nat.add off (Nat.mul n size)) fun o=>K (.ptr j o)))
   | .snap m cs=>bA (Nat.blt n m) (K (.cptr (cs.drop (Nat.mul n size))))
   | .full m cs=>bA (Nat.blt n m) (K (.cptr (cs.drop (Nat.mul n size))))
   | _=>false
 | _=>false
theorem Hj {size:Nat}{v i:AV}{K:AV→Bool}(h:y8 size v i K=true):dn size v i (fun r=>K r=true):=by
 unfold y8 at h
 unfold dn
 split at h
 ·rename_i k n
  simp only[asI]
  split at h
  ·rw[dw,dw,k8,xL]at h
   exact⟨⟨by simp,by simpa using h.1,Nat.eq_of_beq_eq_true h.2.1⟩,h.2.2⟩
  ·rw[dw,xL]at h
   exact⟨⟨by simp,by simpa using h.1⟩,h.2⟩
  ·rw[dw,xL]at h
   exact⟨⟨by simp,by simpa using h.1⟩,h.2⟩
  ·cases h
 ·cases h
end
section
structure V16 where
 (a0 a1 a2 a3 a4 a5 a6 a7 a8 a9 a10 a11 a12 a13 a14 a15:Option AV)
structure E16 where
 (b0 b1 b2 b3 b4 b5 b6 b7 b8 b9 b10 b11 b12 b13 b14 b15:V16)
structure I9 where
 g:V16→Option AV
 s:V16→AV→V16
structure aaS where
 g:E16→Option AV
 s:E16→AV→E16
def v0:V16:=⟨none,none,none,none,none,none,none,none,none,none,none,none,none,none,none,none⟩
def ee0:E16:=⟨v0,v0,v0,v0,v0,v0,v0,v0,v0,v0,v0,v0,v0,v0,v0,v0⟩
def Ih (i:Nat):I9:=match i with
 | 0=>⟨fun v=>v.a0,fun v x=>match v with|⟨a0,a1,a2,a3,a4,a5,a6,a7,a8,a9,a10,a11,a12,a13,a14,a15⟩=>⟨some x,a1,a2,a3,a4,a5,a6,a7,a8,a9,a10,a11,a12,a13,a14,a15⟩⟩
 | 1=>⟨fun v=>v.a1,fun v x=>match v with|⟨a0,a1,a2,a3,a4,a5,a6,a7,a8,a9,a10,a11,a12,a13,a14,a15⟩=>⟨a0,some x,a2,a3,a4,a5,a6,a7,a8,a9,a10,a11,a12,a13,a14,a15⟩⟩
 | 2=>⟨fun v=>v.a2,fun v x=>match v with|⟨a0,a1,a2,a3,a4,a5,a6,a7,a8,a9,a10,a11,a12,a13,a14,a15⟩=>⟨a0,a1,some x,a3,a4,a5,a6,a7,a8,a9,a10,a11,a12,a13,a14,a15⟩⟩
 | 3=>⟨fun v=>v.a3,fun v x=>match v with|⟨a0,a1,a2,a3,a4,a5,a6,a7,a8,a9,a10,a11,a12,a13,a14,a15⟩=>⟨a0,a1,a2,some x,a4,a5,a6,a7,a8,a9,a10,a11,a12,a13,a14,a15⟩⟩
 | 4=>⟨fun v=>v.a4,fun v x=>match v with|⟨a0,a1,a2,a3,a4,a5,a6,a7,a8,a9,a10,a11,a12,a13,a14,a15⟩=>⟨a0,a1,a2,a3,some x,a5,a6,a7,a8,a9,a10,a11,a12,a13,a14,a15⟩⟩
 | 5=>⟨fun v=>v.a5,fun v x=>match v with|⟨a0,a1,a2,a3,a4,a5,a6,a7,a8,a9,a10,a11,a12,a13,a14,a15⟩=>⟨a0,a1,a2,a3,a4,some x,a6,a7,a8,a9,a10,a11,a12,a13,a14,a15⟩⟩
 | 6=>⟨fun v=>v.a6,fun v x=>match v with|⟨a0,a1,a2,a3,a4,a5,a6,a7,a8,a9,a10,a11,a12,a13,a14,a15⟩=>⟨a0,a1,a2,a3,a4,a5,some x,a7,a8,a9,a10,a11,a12,a13,a14,a15⟩⟩
 | 7=>⟨fun v=>v.a7,fun v x=>match v with|⟨a0,a1,a2,a3,a4,a5,a6,a7,a8,a9,a10,a11,a12,a13,a14,a15⟩=>⟨a0,a1,a2,a3,a4,a5,a6,some x,a8,a9,a10,a11,a12,a13,a14,a15⟩⟩
 | 8=>⟨fun v=>v.a8,fun v x=>match v with|⟨a0,a1,a2,a3,a4,a5,a6,a7,a8,a9,a10,a11,a12,a13,a14,a15⟩=>⟨a0,a1,a2,a3,a4,a5,a6,a7,some x,a9,a10,a11,a12,a13,a14,a15⟩⟩
 | 9=>⟨fun v=>v.a9,fun v x=>match v with|⟨a0,a1,a2,a3,a4,a5,a6,a7,a8,a9,a10,a11,a12,a13,a14,a15⟩=>⟨a0,a1,a2,a3,a4,a5,a6,a7,a8,some x,a10,a11,a12,a13,a14,a15⟩⟩
 | 10=>⟨fun v=>v.a10,fun v x=>match v with|⟨a0,a1,a2,a3,a4,a5,a6,a7,a8,a9,a10,a11,a12,a13,a14,a15⟩=>⟨a0,a1,a2,a3,a4,a5,a6,a7,a8,a9,some x,a11,a12,a13,a14,a15⟩⟩
 | 11=>⟨fun v=>v.a11,fun v x=>match v with|⟨a0,a1,a2,a3,a4,a5,a6,a7,a8,a9,a10,a11,a12,a13,a14,a15⟩=>⟨a0,a1,a2,a3,a4,a5,a6,a7,a8,a9,a10,some x,a12,a13,a14,a15⟩⟩
 | 12=>⟨fun v=>v.a12,fun v x=>match v with|⟨a0,a1,a2,a3,a4,a5,a6,a7,a8,a9,a10,a11,a12,a13,a14,a15⟩=>⟨a0,a1,a2,a3,a4,a5,a6,a7,a8,a9,a10,a11,some x,a13,a14,a15⟩⟩
 | 13=>⟨fun v=>v.a13,fun v x=>match v with|⟨a0,a1,a2,a3,a4,a5,a6,a7,a8,a9,a10,a11,a12,a13,a14,a15⟩=>⟨a0,a1,a2,a3,a4,a5,a6,a7,a8,a9,a10,a11,a12,some x,a14,a15⟩⟩
 | 14=>⟨fun v=>v.a14,fun v x=>match v with|⟨a0,a1,a2,a3,a4,a5,a6,a7,a8,a9,a10,a11,a12,a13,a14,a15⟩=>⟨a0,a1,a2,a3,a4,a5,a6,a7,a8,a9,a10,a11,a12,a13,some x,a15⟩⟩
 | 15=>⟨fun v=>v.a15,fun v x=>match v with|⟨a0,a1,a2,a3,a4,a5,a6,a7,a8,a9,a10,a11,a12,a13,a14,a15⟩=>⟨a0,a1,a2,a3,a4,a5,a6,a7,a8,a9,a10,a11,a12,a13,a14,some x⟩⟩
 | _=>⟨fun _=>none,fun v _=>v⟩
def Ji (j:Nat) (l:I9):aaS:=match j with
 | 0=>⟨fun e=>l.g e.b0,fun e x=>match e with|⟨b0,b1,b2,b3,b4,b5,b6,b7,b8,b9,b10,b11,b12,b13,b14,b15⟩=>⟨l.s b0 x,b1,b2,b3,b4,b5,b6,b7,b8,b9,b10,b11,b12,b13,b14,b15⟩⟩
 | 1=>⟨fun e=>l.g e.b1,fun e x=>match e with|⟨b0,b1,b2,b3,b4,b5,b6,b7,b8,b9,b10,b11,b12,b13,b14,b15⟩=>⟨b0,l.s b1 x,b2,b3,b4,b5,b6,b7,b8,b9,b10,b11,b12,b13,b14,b15⟩⟩
 | 2=>⟨fun e=>l.g e.b2,fun e x=>match e with|⟨b0,b1,b2,b3,b4,b5,b6,b7,b8,b9,b10,b11,b12,b13,b14,b15⟩=>⟨b0,b1,l.s b2 x,b3,b4,b5,b6,b7,b8,b9,b10,b11,b12,b13,b14,b15⟩⟩
 | 3=>⟨fun e=>l.g e.b3,fun e x=>match e with|⟨b0,b1,b2,b3,b4,b5,b6,b7,b8,b9,b10,b11,b12,b13,b14,b15⟩=>⟨b0,b1,b2,l.s b3 x,b4,b5,b6,b7,b8,b9,b10,b11,b12,b13,b14,b15⟩⟩
 | 4=>⟨fun e=>l.g e.b4,fun e x=>match e with|⟨b0,b1,b2,b3,b4,b5,b6,b7,b8,b9,b10,b11,b12,b13,b14,b15⟩=>⟨b0,b1,b2,b3,l.s b4 x,b5,b6,b7,b8,b9,b10,b11,b12,b13,b14,b15⟩⟩
 | 5=>⟨fun e=>l.g e.b5,fun e x=>match e with|⟨b0,b1,b2,b3,b4,b5,b6,b7,b8,b9,b10,b11,b12,b13,b14,b15⟩=>⟨b0,b1,b2,b3,b4,l.s b5 x,b6,b7,b8,b9,b10,b11,b12,b13,b14,b15⟩⟩
 | 6=>⟨fun e=>l.g e.b6,fun e x=>match e with|⟨b0,b1,b2,b3,b4,b5,b6,b7,b8,b9,b10,b11,b12,b13,b14,b15⟩=>⟨b0,b1,b2,b3,b4,b5,l.s b6 x,b7,b8,b9,b10,b11,b12,b13,b14,b15⟩⟩
 | 7=>⟨fun e=>l.g e.b7,fun e x=>match e with|⟨b0,b1,b2,b3,b4,b5,b6,b7,b8,b9,b10,b11,b12,b13,b14,b15⟩=>⟨b0,b1,b2,b3,b4,b5,b6,l.s b7 x,b8,b9,b10,b11,b12,b13,b14,b15⟩⟩
 | 8=>⟨fun e=>l.g e.b8,fun e x=>match e with|⟨b0,b1,b2,b3,b4,b5,b6,b7,b8,b9,b10,b11,b12,b13,b14,b15⟩=>⟨b0,b1,b2,b3,b4,b5,b6,b7,l.s b8 x,b9,b10,b11,b12,b13,b14,b15⟩⟩
 | 9=>⟨fun e=>l.g e.b9,fun e x=>match e with|⟨b0,b1,b2,b3,b4,b5,b6,b7,b8,b9,b10,b11,b12,b13,b14,b15⟩=>⟨b0,b1,b2,b3,b4,b5,b6,b7,b8,l.s b9 x,b10,b11,b12,b13,b14,b15⟩⟩
 | 10=>⟨fun e=>l.g e.b10,fun e x=>match e with|⟨b0,b1,b2,b3,b4,b5,b6,b7,b8,b9,b10,b11,b12,b13,b14,b15⟩=>⟨b0,b1,b2,b3,b4,b5,b6,b7,b8,b9,l.s b10 x,b11,b12,b13,b14,b15⟩⟩
 | 11=>⟨fun e=>l.g e.b11,fun e x=>match e with|⟨b0,b1,b2,b3,b4,b5,b6,b7,b8,b9,b10,b11,b12,b13,b14,b15⟩=>⟨b0,b1,b2,b3,b4,b5,b6,b7,b8,b9,b10,l.s b11 x,b12,b13,b14,b15⟩⟩
 | 12=>⟨fun e=>l.g e.b12,fun e x=>match e with|⟨b0,b1,b2,b3,b4,b5,b6,b7,b8,b9,b10,b11,b12,b13,b14,b15⟩=>⟨b0,b1,b2,b3,b4,b5,b6,b7,b8,b9,b10,b11,l.s b12 x,b13,b14,b15⟩⟩
 | 13=>⟨fun e=>l.g e.b13,fun e x=>match e with|⟨b0,b1,b2,b3,b4,b5,b6,b7,b8,b9,b10,b11,b12,b13,b14,b15⟩=>⟨b0,b1,b2,b3,b4,b5,b6,b7,b8,b9,b10,b11,b12,l.s b13 x,b14,b15⟩⟩
 | 14=>⟨fun e=>l.g e.b14,fun e x=>match e with|⟨b0,b1,b2,b3,b4,b5,b6,b7,b8,b9,b10,b11,b12,b13,b14,b15⟩=>⟨b0,b1,b2,b3,b4,b5,b6,b7,b8,b9,b10,b11,b12,b13,l.s b14 x,b15⟩⟩
 | 15=>⟨fun e=>l.g e.b15,fun e x=>match e with|⟨b0,b1,b2,b3,b4,b5,b6,b7,b8,b9,b10,b11,b12,b13,b14,b15⟩=>⟨b0,b1,b2,b3,b4,b5,b6,b7,b8,b9,b10,b11,b12,b13,b14,l.s b15 x⟩⟩
 | _=>⟨fun _=>none,fun e _=>e⟩
def rC (s:Nat):aaS:=Ji (Nat.div s 16) (Ih (Nat.mod s 16))
theorem KP {i:Nat}(h:i<16):i=0∨i=1∨i=2∨i=3∨i=4∨i=5∨i=6∨i=7∨i=8∨i=9∨i=10∨i=11∨i=12∨i=13∨i=14∨i=15:=by omega
theorem QW {i:Nat}(h:i<16) (v:V16) (x:AV):(Ih i).g ((Ih i).s v x)=some x:=by
 rcases KP h with rfl|rfl|rfl|rfl|rfl|rfl|rfl|rfl|rfl|rfl|rfl|rfl|rfl|rfl|rfl|rfl<;>rfl
theorem MA {i j:Nat}(h:i<16) (hj:j<16) (e:i≠j) (v:V16) (x:AV):(Ih i).g ((Ih j).s v x)=(Ih i).g v:=by
 rcases KP h with rfl|rfl|rfl|rfl|rfl|rfl|rfl|rfl|rfl|rfl|rfl|rfl|rfl|rfl|rfl|rfl<;>rcases KP hj with rfl|rfl|rfl|rfl|rfl|rfl|rfl|rfl|rfl|rfl|rfl|rfl|rfl|rfl|rfl|rfl<;>first|exact absurd rfl e|rfl
def Tp (j:Nat) (e:E16):V16:=match j with
 | 0=>e.b0
 | 1=>e.b1
 | 2=>e.b2
 | 3=>e.b3
 | 4=>e.b4
 | 5=>e.b5
 | 6=>e.b6
 | 7=>e.b7
 | 8=>e.b8
 | 9=>e.b9
 | 10=>e.b10
 | 11=>e.b11
 | 12=>e.b12
 | 13=>e.b13
 | 14=>e.b14
 | 15=>e.b15
 | _=>v0
theorem Rn {j:Nat}(h:j<16) (l:I9) (e:E16):(Ji j l).g e=l.g (Tp j e):=by
 rcases KP h with rfl|rfl|rfl|rfl|rfl|rfl|rfl|rfl|rfl|rfl|rfl|rfl|rfl|rfl|rfl|rfl<;>rfl
theorem UP {j:Nat}(h:j<16) (m:I9) (e:E16) (x:AV):Tp j ((Ji j m).s e x)=m.s (Tp j e) x:=by
 rcases KP h with rfl|rfl|rfl|rfl|rfl|rfl|rfl|rfl|rfl|rfl|rfl|rfl|rfl|rfl|rfl|rfl<;>rfl
theorem QF {j k:Nat}(h:j<16) (hk:k<16) (ne:j≠k) (m:I9) (e:E16) (x:AV):Tp j ((Ji k m).s e x)=Tp j e:=by
 rcases KP h with rfl|rfl|rfl|rfl|rfl|rfl|rfl|rfl|rfl|rfl|rfl|rfl|rfl|rfl|rfl|rfl<;>rcases KP hk with rfl|rfl|rfl|rfl|rfl|rfl|rfl|rfl|rfl|rfl|rfl|rfl|rfl|rfl|rfl|rfl<;>first|exact absurd rfl ne|rfl
theorem Cv {j:Nat}(h:¬ j<16) (l:I9):Ji j l=⟨fun _=>none,fun e _=>e⟩:=by
 unfold Ji
 split<;>first|(exfalso;omega)|rfl
theorem Xh {k d:Nat}{e:E16}{x v:AV}(h:(rC k).g ((rC d).s e x)=some v):(k=d∧v=x)∨(k≠d∧(rC k).g e=some v):=by
 unfold rC at *
 have hk:Nat.mod k 16<16:=Nat.mod_lt _ (by omega)
 have hd:Nat.mod d 16<16:=Nat.mod_lt _ (by omega)
 by_cases hK:Nat.div k 16<16
 ·by_cases hD:Nat.div d 16<16
  ·rw[Rn hK]at h ⊢
   by_cases e1:Nat.div k 16=Nat.div d 16
   ·rw[e1]at h ⊢
    rw[UP hD]at h
    by_cases e2:Nat.mod k 16=Nat.mod d 16
    ·rw[e2,QW hd]at h
     cases h
     refine .inl ⟨?_,rfl⟩
     have a1:k / 16=d / 16:=e1
     have a2:k%16=d%16:=e2
     omega
    ·rw[MA hk hd e2]at h
     exact .inr ⟨fun e=>e2 (by rw[e]),h⟩
   ·rw[QF hK hD e1]at h
    exact .inr ⟨fun e=>e1 (by rw[e]),h⟩
  ·rw[Cv hD]at h
   exact .inr ⟨fun e=>hD (by rw[← e];exact hK),h⟩
 ·rw[Cv hK]at h
  cases h
theorem Za (k:Nat):(rC k).g ee0=none:=by
 unfold rC
 have hk:Nat.mod k 16<16:=Nat.mod_lt _ (by omega)
 by_cases hK:Nat.div k 16<16
 ·rw[Rn hK]
  have:Tp (Nat.div k 16) ee0=v0:=by rcases KP hK with h|h|h|h|h|h|h|h|h|h|h|h|h|h|h|h<;>rw[h]<;>rfl
  rw[this]
  rcases KP hk with h|h|h|h|h|h|h|h|h|h|h|h|h|h|h|h<;>rw[h]<;>rfl
 ·rw[Cv hK]
end
end
end Go.Proofs.YtbhphjpgjgigpaaGreatDoor.AL
