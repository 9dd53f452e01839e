import Derived.Test.YtbhphjpgjgigpaaGreatDoorAL13toAL19
import Derived.IntWalk
import Derived.Test.YtbhphjpgjgigpaaGreatDoorAL10mtoAL13v
set_option linter.all false
set_option autoImplicit true
set_option relaxedAutoImplicit true
set_option maxRecDepth 100000
namespace Go.Proofs.YtbhphjpgjgigpaaGreatDoor.AL
noncomputable section
section
def Vi (op:BinOp) (x y:AV) (K:AV→Bool):Bool:=
 match x,y with
 | .lit a,.lit b=>(match cp op a b with|some r=>K (.lit r)|none=>false)
 | _,_=>false
def Q0 (op:BinOp) (x y:AV) (K:AV→Bool):Bool:=
 match x,y with
 | .lit (.bool a),.lit (.bool b)=>(match op with|.eql=>K (B (a==b))|.neq=>K (B (!(a==b)))|_=>false)
 | _,_=>false
def Rq (op:BinOp) (x y:AV) (K:AV→Bool):Bool:=
 match x,y with
 | .ptr _ _,.lit (.pointer none)=>(match op with|.eql=>K (B false)|.neq=>K (B true)|_=>false)
 | .lit (.pointer none),.lit (.pointer none)=>(match op with|.eql=>K (B true)|.neq=>K (B false)|_=>false)
 | _,_=>false
def bUn (op:UnOp) (x:AV) (K:AV→Bool):Bool:=
 match op,x with
 | .neg,.lit (.int k n)=>K (.lit (.int k (k.wrap (0-n))))
 | .xor,.lit (.int k n)=>K (.lit (.int k (k.wrap ((BitVec.ofInt k.bits (if k.signed then -1 else k.max) ^^^ BitVec.ofInt k.bits n).toNat:Int))))
 | .not,.lit (.bool b)=>K (B !b)
 | .neg,.lit (.float k b)=>K (.lit (.float k (Op.negFloat k b)))
 | _,_=>false
def EQ (x:AV) (K:AV→Bool):Bool:=match x with|.lit (.string s)=>K (S s)|_=>false
def Uc (v:AV) (K:AV→Bool):Bool:=match v with|.ptr i o=>K (.ptr i o)|.cptr cs=>K (.cptr cs)|.fn (.func f) fi ca=>K (.fn (.func f) fi ca)|_=>false
def Ub (off:Nat) (v:AV) (K:AV→Bool):Bool:=match v with|.ptr i o=>K (.ptr i (o+off))|.cptr cs=>K (.cptr (cs.drop off))|_=>false
def U6 (n:Nat) (v:AV) (h:ab) (K:AV→Bool):Bool:=match pK h n v with|some l=>K (.agg l)|none=>false
def Vh (v:AV) (h:ab) (K:AV→Bool):Bool:=match pK h 1 v with|some [a]=>K a|_=>false
def J4 (off n:Nat) (v:AV) (K:AV→Bool):Bool:=match v with|.agg cs=>K (.agg ((cs.drop off).take n))|_=>false
def Li (off:Nat) (v:AV) (K:AV→Bool):Bool:=match v with|.agg cs=>(match cs[off]? with|some a=>K a|none=>false)|_=>false
def Uu (size:Nat) (v i:AV) (K:AV→Bool):Bool:=
 match asI i with
 | none=>false
 | some n=>match v with
   | .sl j off len sz=>decide (0≤n∧n<len∧sz=size)&&K (.ptr j (off+n.toNat*size))
   | .snap m cs=>decide (0≤n∧n<m)&&K (.cptr (cs.drop (n.toNat*size)))
   | .full m cs=>decide (0≤n∧n<m)&&K (.cptr (cs.drop (n.toNat*size)))
   | _=>false
def oC (len size:Nat) (v i:AV) (K:AV→Bool):Bool:=
 match asI i with
 | none=>false
 | some n=>match v with
   | .ptr j off=>decide (0≤n∧n<len)&&K (.ptr j (off+n.toNat*size))
   | .cptr cs=>decide (0≤n∧n<len)&&K (.cptr (cs.drop (n.toNat*size)))
   | _=>false
def U3 (v:AV) (lo hi:Option AV) (K:AV→Bool):Bool:=
 match v with
 | .lit (.string s)=>(match jl lo 0,jl hi s.size with
   | some l,some h=>decide (0≤l∧l≤h∧h≤s.size)&&K (S (s.extract l.toNat h.toNat))
   | _,_=>false)
 | _=>false
def FR (size:Nat) (v:AV) (lo hi:Option AV) (K:AV→Bool):Bool:=
 match v with
 | .sl i off len sz=>(match jl lo 0,jl hi len with
   | some l,some h=>decide (0≤l∧l≤h∧h≤len∧sz=size)&&K (.sl i (off+l.toNat*size) (h.toNat-l.toNat) size)
   | _,_=>false)
 | .snap n cs=>(match jl lo 0,jl hi n with
   | some l,some h=>decide (0≤l∧l≤h∧h≤n)&&K (.snap (h.toNat-l.toNat) ((cs.drop (l.toNat*size)).take ((h.toNat-l.toNat)*size)))
   | _,_=>false)
 | .full n cs=>(match jl lo 0,jl hi n with
   | some l,some h=>decide (0≤l∧l≤h∧h≤n)&&K (.snap (h.toNat-l.toNat) ((cs.drop (l.toNat*size)).take ((h.toNat-l.toNat)*size)))
   | _,_=>false)
 | _=>false
def Fa (v:AV) (K:AV→Bool):Bool:=match v with|.sl _ _ _ _=>K (.full 0 [])|.snap _ _=>K (.full 0 [])|.full _ _=>K (.full 0 [])|_=>false
def Cf (i:Nat) (v:AV) (K:AV→Bool):Bool:=match v with|.tup vs=>(match vs[i]? with|some a=>K a|none=>false)|_=>false
def Kk (t:TypeId) (v:AV) (K:AV→Bool):Bool:=K (.iface t v)
def JV (zs:List AV) (ps:List (Nat×Nat×AV)) (K:AV→Bool):Bool:=match Ax zs ps with|some cs=>K (.agg cs)|none=>false
def rN (n size:Nat) (vs:List AV) (K:AV→Bool):Bool:=decide (vs.length=n∧(vs.all fun v=>!v.isTup&&v.cells.length==size)=true)&&K (.full n (vs.flatMap (·.cells)))
def U2 (d:TypeDesc) (ok:Bool) (z x key:AV) (h:ab) (K:AV→Bool):Bool:=
 match key with
 | .lit k=>match x with
   | .lit (.map none)=>if kOk d k=true then K (if ok then .tup [z,B false] else z) else false
   | .map i=>match h[i]? with
     | some (.amap es _)=>if (kOk d k&&es.all fun e=>kOk d e.1)=true then (match nA k es 0 with
       | some (_,_,v)=>K (if ok then .tup [v,B true] else v)
       | none=>K (if ok then .tup [z,B false] else z)) else false
     | _=>false
   | _=>false
 | _=>false
def Uq (bytes:Nat) (z l c:AV) (h:ab) (K:AV→ab→Bool):Bool:=
 match l,c with
 | .lit (.int _ l),.lit (.int _ c)=>decide (0≤l∧l≤c∧(bytes:Int)*c≤1099511627776∧c≤1099511627776)&&K (.sl h.length 0 l.toNat 1) (h++[.cells (List.replicate c.toNat z)])
 | _,_=>false
def FS (op:BinOp) (x:AV) (K:AV→Bool):Bool:=
 match op,x with
 | .eql,.map _=>K (B false)
 | .neq,.map _=>K (B true)
 | .eql,.lit (.map none)=>K (B true)
 | .neq,.lit (.map none)=>K (B false)
 | _,_=>false
def FU (op:BinOp) (x:AV) (K:AV→Bool):Bool:=
 match op,x with
 | .eql,.iface _ _=>K (B false)
 | .neq,.iface _ _=>K (B true)
 | .eql,.lit .nilIface=>K (B true)
 | .neq,.lit .nilIface=>K (B false)
 | _,_=>false
def EJ (op:BinOp) (x:AV) (K:AV→Bool):Bool:=
 match op,x with
 | .eql,.fn _ _ _=>K (B false)
 | .neq,.fn _ _ _=>K (B true)
 | .eql,.lit .nilFunc=>K (B true)
 | .neq,.lit .nilFunc=>K (B false)
 | _,_=>false
def CP (op:BinOp) (b:Bool) (K:AV→Bool):Bool:=match op with|.eql=>K (B b)|.neq=>K (B !b)|_=>false
def EP (op:BinOp) (x:AV) (K:AV→Bool):Bool:=
 match x with
 | .sl _ _ _ _=>CP op false K
 | .full n _=>if n=0 then CP op true K&&CP op false K else CP op false K
 | .snap n _=>if n=0 then CP op true K&&CP op false K else CP op false K
 | _=>false
def Up (op:BinOp) (ds:List TypeDesc) (x y:AV) (K:AV→Bool):Bool:=
 match x,y with
 | .agg az,.agg bs=>(match uf ds az bs with|some b=>CP op b K|none=>false)
 | _,_=>false
def Qi (v:AV) (K:AV→Bool):Bool:=match v with|.sl _ _ len _=>K (I len)|.snap n _=>K (I n)|.full n _=>K (I n)|_=>false
def Uw (x y:AV) (K:AV→Bool):Bool:=match x,y with|.lit (.int k a),.lit (.int _ b)=>K (.lit (.int k (if b > a then b else a)))|_,_=>false
def TS (x y:AV) (K:AV→Bool):Bool:=match x,y with|.lit (.int k a),.lit (.int _ b)=>K (.lit (.int k (if b<a then b else a)))|_,_=>false
theorem n5 {K:AV→Bool}(op:BinOp) (b:Bool) (k:CP op b K=true):o6 op b (fun r=>K r=true):=by
 unfold CP at k
 unfold o6
 (repeat' split at k)<;>first|(cases k;done)|exact k|(simp only[Bool.and_eq_true,decide_eq_true_eq]at k;exact k)|(rw[if_pos ‹_›];exact k)|(rw[if_neg ‹_›];exact k)|(simp only[*,↓reduceIte,Bool.false_eq_true];done)|(simp_all;done)
theorem PH {K:AV→Bool}(op:BinOp) (x y:AV) (k:Q0 op x y K=true):tc op x y (fun r=>K r=true):=by
 unfold Q0 at k
 unfold tc
 (repeat' split at k)<;>first|(cases k;done)|exact k|(simp only[Bool.and_eq_true,decide_eq_true_eq]at k;exact k)|(rw[if_pos ‹_›];exact k)|(rw[if_neg ‹_›];exact k)|(simp only[*,↓reduceIte,Bool.false_eq_true];done)|(simp_all;done)
theorem P7 {K:AV→Bool}(op:BinOp) (x y:AV) (k:Rq op x y K=true):sN op x y (fun r=>K r=true):=by
 unfold Rq at k
 unfold sN
 (repeat' split at k)<;>first|(cases k;done)|exact k|(simp only[Bool.and_eq_true,decide_eq_true_eq]at k;exact k)|(rw[if_pos ‹_›];exact k)|(rw[if_neg ‹_›];exact k)|(simp only[*,↓reduceIte,Bool.false_eq_true];done)|(simp_all;done)
theorem TQ {K:AV→Bool}(op:UnOp) (x:AV) (k:bUn op x K=true):pUn op x (fun r=>K r=true):=by
 unfold bUn at k
 unfold pUn
 (repeat' split at k)<;>first|(cases k;done)|exact k|(simp only[Bool.and_eq_true,decide_eq_true_eq]at k;exact k)|(rw[if_pos ‹_›];exact k)|(rw[if_neg ‹_›];exact k)|(simp only[*,↓reduceIte,Bool.false_eq_true];done)|(simp_all;done)
theorem K8 {K:AV→Bool}(x:AV) (k:EQ x K=true):kA x (fun r=>K r=true):=by
 unfold EQ at k
 unfold kA
 (repeat' split at k)<;>first|(cases k;done)|exact k|(simp only[Bool.and_eq_true,decide_eq_true_eq]at k;exact k)|(rw[if_pos ‹_›];exact k)|(rw[if_neg ‹_›];exact k)|(simp only[*,↓reduceIte,Bool.false_eq_true];done)|(simp_all;done)
theorem S5 {K:AV→Bool}(v:AV) (k:Uc v K=true):C7 v (fun r=>K r=true):=by
 unfold Uc at k
 unfold C7
 (repeat' split at k)<;>first|(cases k;done)|exact k|(simp only[Bool.and_eq_true,decide_eq_true_eq]at k;exact k)|(rw[if_pos ‹_›];exact k)|(rw[if_neg ‹_›];exact k)|(simp only[*,↓reduceIte,Bool.false_eq_true];done)|(simp_all;done)
theorem MR {K:AV→Bool}(off n:Nat) (v:AV) (k:J4 off n v K=true):nq off n v (fun r=>K r=true):=by
 unfold J4 at k
 unfold nq
 (repeat' split at k)<;>first|(cases k;done)|exact k|(simp only[Bool.and_eq_true,decide_eq_true_eq]at k;exact k)|(rw[if_pos ‹_›];exact k)|(rw[if_neg ‹_›];exact k)|(simp only[*,↓reduceIte,Bool.false_eq_true];done)|(simp_all;done)
theorem M0 {K:AV→Bool}(off:Nat) (v:AV) (k:Li off v K=true):m9 off v (fun r=>K r=true):=by
 unfold Li at k
 unfold m9
 (repeat' split at k)<;>first|(cases k;done)|exact k|(simp only[Bool.and_eq_true,decide_eq_true_eq]at k;exact k)|(rw[if_pos ‹_›];exact k)|(rw[if_neg ‹_›];exact k)|(simp only[*,↓reduceIte,Bool.false_eq_true];done)|(simp_all;done)
theorem tT {K:AV→Bool}(len size:Nat) (v i:AV) (k:oC len size v i K=true):cT len size v i (fun r=>K r=true):=by
 unfold oC at k
 unfold cT
 (repeat' split at k)<;>first|(cases k;done)|exact k|(simp only[Bool.and_eq_true,decide_eq_true_eq]at k;exact k)|(rw[if_pos ‹_›];exact k)|(rw[if_neg ‹_›];exact k)|(simp only[*,↓reduceIte,Bool.false_eq_true];done)|(simp_all;done)
theorem Ko {K:AV→Bool}(size:Nat) (v:AV) (lo hi:Option AV) (k:FR size v lo hi K=true):gK size v lo hi (fun r=>K r=true):=by
 unfold FR at k
 unfold gK
 (repeat' split at k)<;>first|(cases k;done)|exact k|(simp only[Bool.and_eq_true,decide_eq_true_eq]at k;exact k)|(rw[if_pos ‹_›];exact k)|(rw[if_neg ‹_›];exact k)|(simp only[*,↓reduceIte,Bool.false_eq_true];done)|(simp_all;done)
theorem KI {K:AV→Bool}(v:AV) (k:Fa v K=true):jW v (fun r=>K r=true):=by
 unfold Fa at k
 unfold jW
 (repeat' split at k)<;>first|(cases k;done)|exact k|(simp only[Bool.and_eq_true,decide_eq_true_eq]at k;exact k)|(rw[if_pos ‹_›];exact k)|(rw[if_neg ‹_›];exact k)|(simp only[*,↓reduceIte,Bool.false_eq_true];done)|(simp_all;done)
theorem Im {K:AV→Bool}(i:Nat) (v:AV) (k:Cf i v K=true):gw i v (fun r=>K r=true):=by
 unfold Cf at k
 unfold gw
 (repeat' split at k)<;>first|(cases k;done)|exact k|(simp only[Bool.and_eq_true,decide_eq_true_eq]at k;exact k)|(rw[if_pos ‹_›];exact k)|(rw[if_neg ‹_›];exact k)|(simp only[*,↓reduceIte,Bool.false_eq_true];done)|(simp_all;done)
theorem NP {K:AV→Bool}(t:TypeId) (v:AV) (k:Kk t v K=true):yc t v (fun r=>K r=true):=by
 unfold Kk at k
 unfold yc
 (repeat' split at k)<;>first|(cases k;done)|exact k|(simp only[Bool.and_eq_true,decide_eq_true_eq]at k;exact k)|(rw[if_pos ‹_›];exact k)|(rw[if_neg ‹_›];exact k)|(simp only[*,↓reduceIte,Bool.false_eq_true];done)|(simp_all;done)
theorem Nl {K:AV→Bool}(zs:List AV) (ps:List (Nat×Nat×AV)) (k:JV zs ps K=true):mj zs ps (fun r=>K r=true):=by
 unfold JV at k
 unfold mj
 (repeat' split at k)<;>first|(cases k;done)|exact k|(simp only[Bool.and_eq_true,decide_eq_true_eq]at k;exact k)|(rw[if_pos ‹_›];exact k)|(rw[if_neg ‹_›];exact k)|(simp only[*,↓reduceIte,Bool.false_eq_true];done)|(simp_all;done)
theorem Af {K:AV→Bool}(n size:Nat) (vs:List AV) (k:rN n size vs K=true):fQ n size vs (fun r=>K r=true):=by
 unfold rN at k
 unfold fQ
 (repeat' split at k)<;>first|(cases k;done)|exact k|(simp only[Bool.and_eq_true,decide_eq_true_eq]at k;exact k)|(rw[if_pos ‹_›];exact k)|(rw[if_neg ‹_›];exact k)|(simp only[*,↓reduceIte,Bool.false_eq_true];done)|(simp_all;done)
theorem Ls {K:AV→Bool}(op:BinOp) (x:AV) (k:FS op x K=true):j5 op x (fun r=>K r=true):=by
 unfold FS at k
 unfold j5
 (repeat' split at k)<;>first|(cases k;done)|exact k|(simp only[Bool.and_eq_true,decide_eq_true_eq]at k;exact k)|(rw[if_pos ‹_›];exact k)|(rw[if_neg ‹_›];exact k)|(simp only[*,↓reduceIte,Bool.false_eq_true];done)|(simp_all;done)
theorem KA {K:AV→Bool}(op:BinOp) (x:AV) (k:FU op x K=true):kp op x (fun r=>K r=true):=by
 unfold FU at k
 unfold kp
 (repeat' split at k)<;>first|(cases k;done)|exact k|(simp only[Bool.and_eq_true,decide_eq_true_eq]at k;exact k)|(rw[if_pos ‹_›];exact k)|(rw[if_neg ‹_›];exact k)|(simp only[*,↓reduceIte,Bool.false_eq_true];done)|(simp_all;done)
theorem Lg {K:AV→Bool}(op:BinOp) (x:AV) (k:EJ op x K=true):kB op x (fun r=>K r=true):=by
 unfold EJ at k
 unfold kB
 (repeat' split at k)<;>first|(cases k;done)|exact k|(simp only[Bool.and_eq_true,decide_eq_true_eq]at k;exact k)|(rw[if_pos ‹_›];exact k)|(rw[if_neg ‹_›];exact k)|(simp only[*,↓reduceIte,Bool.false_eq_true];done)|(simp_all;done)
theorem KO {K:AV→Bool}(op:BinOp) (x:AV) (k:EP op x K=true):lA op x (fun r=>K r=true):=by
 unfold EP at k
 unfold lA
 split at k
 ·exact n5 _ _ k
 ·split at k
  ·rename_i h0;simp only[if_pos h0];simp only[Bool.and_eq_true]at k;exact⟨n5 _ _ k.1,n5 _ _ k.2⟩
  ·rename_i h0;simp only[if_neg h0];exact n5 _ _ k
 ·split at k
  ·rename_i h0;simp only[if_pos h0];simp only[Bool.and_eq_true]at k;exact⟨n5 _ _ k.1,n5 _ _ k.2⟩
  ·rename_i h0;simp only[if_neg h0];exact n5 _ _ k
 ·cases k
theorem Sr {K:AV→Bool}(op:BinOp) (ds:List TypeDesc) (x y:AV) (k:Up op ds x y K=true):Bv op ds x y (fun r=>K r=true):=by
 unfold Up at k
 unfold Bv
 split at k
 ·split at k
  ·rename_i hm;simp only[hm];exact n5 _ _ k
  ·cases k
 ·cases k
theorem Pe {K:AV→Bool}(v:AV) (k:Qi v K=true):uJ v (fun r=>K r=true):=by
 unfold Qi at k
 unfold uJ
 (repeat' split at k)<;>first|(cases k;done)|exact k|(simp only[Bool.and_eq_true,decide_eq_true_eq]at k;exact k)|(rw[if_pos ‹_›];exact k)|(rw[if_neg ‹_›];exact k)|(simp only[*,↓reduceIte,Bool.false_eq_true];done)|(simp_all;done)
theorem RU {K:AV→Bool}(x y:AV) (k:Uw x y K=true):y5 x y (fun r=>K r=true):=by
 unfold Uw at k
 unfold y5
 (repeat' split at k)<;>first|(cases k;done)|exact k|(simp only[Bool.and_eq_true,decide_eq_true_eq]at k;exact k)|(rw[if_pos ‹_›];exact k)|(rw[if_neg ‹_›];exact k)|(simp only[*,↓reduceIte,Bool.false_eq_true];done)|(simp_all;done)
theorem S0 {K:AV→Bool}(x y:AV) (k:TS x y K=true):zu x y (fun r=>K r=true):=by
 unfold TS at k
 unfold zu
 (repeat' split at k)<;>first|(cases k;done)|exact k|(simp only[Bool.and_eq_true,decide_eq_true_eq]at k;exact k)|(rw[if_pos ‹_›];exact k)|(rw[if_neg ‹_›];exact k)|(simp only[*,↓reduceIte,Bool.false_eq_true];done)|(simp_all;done)
end
section
def bI (c t e:Bool):Bool:=@Bool.casesOn (fun _=>Bool) c e t
theorem GG (c t e:Bool):bI c t e=true↔(c=true∧t=true)∨(c=false∧e=true):=by cases c<;>simp[bI]
def bA (c t:Bool):Bool:=@Bool.casesOn (fun _=>Bool) c false t
theorem db (c t:Bool):bA c t=true↔c=true∧t=true:=by cases c<;>simp[bA]
def fN (m:Nat) (K:Nat→Bool):Bool:=@Nat.casesOn (fun _=>Bool) m (K 0) (fun m=>K (Nat.succ m))
theorem jE (m:Nat) (K:Nat→Bool):fN m K=K m:=by cases m<;>rfl
def fI (n:Int) (K:Int→Bool):Bool:=@Int.casesOn (fun _=>Bool) n (fun m=>fN m fun m=>K (.ofNat m)) (fun m=>fN m fun m=>K (.negSucc m))
theorem MF (n:Int) (K:Int→Bool):fI n K=K n:=by cases n<;>simp[fI,jE]
def fB (b:Bool) (K:Bool→Bool):Bool:=@Bool.casesOn (fun _=>Bool) b (K false) (K true)
theorem L7 (b:Bool) (K:Bool→Bool):fB b K=K b:=by cases b<;>rfl
theorem nbF {a b:Nat}(h:¬ a=b):Nat.beq a b=false:=by
 cases e:Nat.beq a b
 ·rfl
 ·exact (h (Nat.eq_of_beq_eq_true e)).elim
inductive Tr (α:Type) where
 | leaf
 | node (l:Tr α) (v:Option α) (r:Tr α)
namespace Tr
variable {α:Type}
def UU:Tr α→Nat→Option α
 | .leaf,_=>none
 | .node l v r,i=>if i=0 then v else if i%2=1 then UU l (i / 2) else UU r (i / 2-1)
def QJ (x:α):Nat→Nat→Tr α
 | 0,_=>.leaf
 | f+1,i=>if i=0 then .node .leaf (some x) .leaf else if i%2=1 then .node (QJ x f (i / 2)) none .leaf else .node .leaf none (QJ x f (i / 2-1))
def UC (t:Tr α) (x:α) (i:Nat):Tr α:=match t with
 | .leaf=>QJ x (i+1) i
 | .node l v r=>if i=0 then .node l (some x) r else if i%2=1 then .node (UC l x (i / 2)) v r else .node l v (UC r x (i / 2-1))
def get (t:Tr α):Nat→Option α:=
 @Tr.rec α (fun _=>Nat→Option α) (fun _=>none) (fun _ v _ gl gr i=>@Bool.rec (fun _=>Option α) (@Bool.rec (fun _=>Option α) (gr (Nat.sub (Nat.div i 2) 1)) (gl (Nat.div i 2)) (Nat.beq (Nat.mod i 2) 1)) v (Nat.beq i 0)) t
def I8 (x:α):Nat→Nat→Tr α:=
 fun f=>@Nat.rec (fun _=>Nat→Tr α) (fun _=>.leaf) (fun _ ih i=>@Bool.rec (fun _=>Tr α) (@Bool.rec (fun _=>Tr α) (.node .leaf none (ih (Nat.sub (Nat.div i 2) 1))) (.node (ih (Nat.div i 2)) none .leaf) (Nat.beq (Nat.mod i 2) 1)) (.node .leaf (some x) .leaf) (Nat.beq i 0)) f
def set (t:Tr α) (x:α):Nat→Tr α:=
 @Tr.rec α (fun _=>Nat→Tr α) (fun i=>I8 x (Nat.succ i) i) (fun l v r sl sr i=>@Bool.rec (fun _=>Tr α) (@Bool.rec (fun _=>Tr α) (.node l v (sr (Nat.sub (Nat.div i 2) 1))) (.node (sl (Nat.div i 2)) v r) (Nat.beq (Nat.mod i 2) 1)) (.node l (some x) r) (Nat.beq i 0)) t
theorem Bf (i:Nat):(Tr.leaf:Tr α).get i=none:=rfl
theorem nH (l:Tr α) (v:Option α) (r:Tr α) (i:Nat):(Tr.node l v r).get i=if i=0 then v else if i%2=1 then l.get (i / 2) else r.get (i / 2-1):=by
 show @Bool.rec (fun _=>Option α) (@Bool.rec (fun _=>Option α) (r.get (i / 2-1)) (l.get (i / 2)) (Nat.beq (i%2) 1)) v (Nat.beq i 0)=_
 by_cases h0:i=0
 ·subst h0;rfl
 ·have:Nat.beq i 0=false:=nbF h0
  rw[this,if_neg h0]
  by_cases h1:i%2=1
  ·have:Nat.beq (i%2) 1=true:=Nat.beq_eq.mpr h1
   rw[this,if_pos h1]
  ·have:Nat.beq (i%2) 1=false:=nbF h1
   rw[this,if_neg h1]
theorem Nm (x:α) (f i:Nat):I8 x (f+1) i=if i=0 then .node .leaf (some x) .leaf else if i%2=1 then .node (I8 x f (i / 2)) none .leaf else .node .leaf none (I8 x f (i / 2-1)):=by
 show @Bool.rec (fun _=>Tr α) (@Bool.rec (fun _=>Tr α) (.node .leaf none (I8 x f (i / 2-1))) (.node (I8 x f (i / 2)) none .leaf) (Nat.beq (i%2) 1)) (.node .leaf (some x) .leaf) (Nat.beq i 0)=_
 by_cases h0:i=0
 ·subst h0;rfl
 ·have:Nat.beq i 0=false:=nbF h0
  rw[this,if_neg h0]
  by_cases h1:i%2=1
  ·have:Nat.beq (i%2) 1=true:=Nat.beq_eq.mpr h1
   rw[this,if_pos h1]
  ·have:Nat.beq (i%2) 1=false:=nbF h1
   rw[this,if_neg h1]
theorem QL (x:α) (i:Nat):(Tr.leaf:Tr α).set x i=I8 x (i+1) i:=rfl
theorem OZ (l:Tr α) (v:Option α) (r:Tr α) (x:α) (i:Nat):(Tr.node l v r).set x i=if i=0 then .node l (some x) r else if i%2=1 then .node (l.set x (i / 2)) v r else .node l v (r.set x (i / 2-1)):=by
 show @Bool.rec (fun _=>Tr α) (@Bool.rec (fun _=>Tr α) (.node l v (r.set x (i / 2-1))) (.node (l.set x (i / 2)) v r) (Nat.beq (i%2) 1)) (.node l (some x) r) (Nat.beq i 0)=_
 by_cases h0:i=0
 ·subst h0;rfl
 ·have:Nat.beq i 0=false:=nbF h0
  rw[this,if_neg h0]
  by_cases h1:i%2=1
  ·have:Nat.beq (i%2) 1=true:=Nat.beq_eq.mpr h1
   rw[this,if_pos h1]
  ·have:Nat.beq (i%2) 1=false:=nbF h1
   rw[this,if_neg h1]
theorem A0 (x:α):∀ (f i j:Nat),i<f→(I8 x f i).get j=if j=i then some x else none
 | 0,i,j,h=>by omega
 | f+1,i,j,h=>by
   rw[Nm]
   by_cases h0:i=0
   ·rw[if_pos h0,nH]
    subst h0
    split
    ·rfl
    ·split<;>rfl
   ·rw[if_neg h0]
    by_cases h1:i%2=1
    ·rw[if_pos h1,nH]
     by_cases hj:j=0
     ·rw[if_pos hj,if_neg (by omega)]
     ·rw[if_neg hj]
      by_cases hj1:j%2=1
      ·rw[if_pos hj1,A0 x f (i / 2) (j / 2) (by omega)]
       by_cases e:j / 2=i / 2
       ·rw[if_pos e,if_pos (by omega)]
       ·rw[if_neg e,if_neg (fun h=>e (by rw[h]))]
      ·rw[if_neg hj1,Bf,if_neg (fun h=>by subst h;omega)]
    ·rw[if_neg h1,nH]
     by_cases hj:j=0
     ·rw[if_pos hj,if_neg (by omega)]
     ·rw[if_neg hj]
      by_cases hj1:j%2=1
      ·rw[if_pos hj1,Bf,if_neg (fun h=>by subst h;omega)]
      ·rw[if_neg hj1,A0 x f (i / 2-1) (j / 2-1) (by omega)]
       by_cases e:j / 2-1=i / 2-1
       ·rw[if_pos e,if_pos (by omega)]
       ·rw[if_neg e,if_neg (fun h=>e (by rw[h]))]
theorem get_set (x:α):∀ (t:Tr α) (i j:Nat),(t.set x i).get j=if j=i then some x else t.get j
 | .leaf,i,j=>by rw[QL,A0 x _ _ _ (Nat.lt_succ_self _),Bf]
 | .node l v r,i,j=>by
   rw[OZ,nH]
   by_cases h0:i=0
   ·subst h0
    rw[if_pos rfl,nH]
    by_cases hj:j=0
    ·rw[if_pos hj,if_pos hj]
    ·rw[if_neg hj,if_neg hj,if_neg hj]
   ·rw[if_neg h0]
    by_cases h1:i%2=1
    ·rw[if_pos h1,nH]
     by_cases hj:j=0
     ·subst hj;rw[if_pos rfl,if_neg (Ne.symm h0),if_pos rfl]
     ·rw[if_neg hj,if_neg hj]
      by_cases hj1:j%2=1
      ·rw[if_pos hj1,if_pos hj1,get_set x l]
       by_cases e:j / 2=i / 2
       ·rw[if_pos e,if_pos (by omega)]
       ·rw[if_neg e,if_neg (fun h=>e (by rw[h]))]
      ·rw[if_neg hj1,if_neg hj1,if_neg (fun h=>by subst h;omega)]
    ·rw[if_neg h1,nH]
     by_cases hj:j=0
     ·subst hj;rw[if_pos rfl,if_neg (Ne.symm h0),if_pos rfl]
     ·rw[if_neg hj,if_neg hj]
      by_cases hj1:j%2=1
      ·rw[if_pos hj1,if_pos hj1,if_neg (fun h=>by subst h;omega)]
      ·rw[if_neg hj1,if_neg hj1,get_set x r]
       by_cases e:j / 2-1=i / 2-1
       ·rw[if_pos e,if_pos (by omega)]
       ·rw[if_neg e,if_neg (fun h=>e (by rw[h]))]
end Tr
abbrev HT:=Tr AObj
structure HR (t:HT) (n:Nat) (h:ab):Prop where
 len:h.length=n
 at_:∀ i x,t.get i=some x→h[i]?=some x
theorem HR.set {t:HT}{n:Nat}{h:ab}(r:HR t n h) {i:Nat}{o x:AObj}(hi:t.get i=some x):HR (t.set o i) n (h.set i o) where
 len:=by simp[r.len]
 at_:=fun j y hy=>by
  have hl:i<h.length:=(List.getElem?_eq_some_iff.1 (r.at_ i x hi)).1
  rw[Tr.get_set]at hy
  rw[List.getElem?_set]
  by_cases e:j=i
  ·subst e;rw[if_pos rfl]at hy;rw[if_pos rfl,if_pos hl];exact hy
  ·rw[if_neg e]at hy;rw[if_neg (Ne.symm e)];exact r.at_ j y hy
theorem HR.push {t:HT}{n:Nat}{h:ab}(r:HR t n h) (o:AObj):HR (t.set o n) (n+1) (h++[o]) where
 len:=by simp[r.len]
 at_:=fun j y hy=>by
  have hl:=r.len
  rw[Tr.get_set]at hy
  by_cases e:j=n
  ·subst e;rw[if_pos rfl]at hy;rw[List.getElem?_append_right (by omega)];simp[hl];cases hy;rfl
  ·rw[if_neg e]at hy
   have:=r.at_ j y hy
   have hj:j<h.length:=(List.getElem?_eq_some_iff.1 this).1
   rw[List.getElem?_append_left hj];exact this
theorem HR.more {t:HT}{n:Nat}{h:ab}(r:HR t n h) (l:ab):HR t (n+l.length) (h++l) where
 len:=by simp[r.len]
 at_:=fun j y hy=>by
  have:=r.at_ j y hy
  have hj:j<h.length:=(List.getElem?_eq_some_iff.1 this).1
  rw[List.getElem?_append_left hj];exact this
theorem HR.none {n:Nat}{h:ab}(e:h.length=n):HR .leaf n h:=⟨e,fun i x hx=>by cases hx⟩
def KH (K:AV→HT→Nat→Bool) (r:AV) (h:ab):Prop:=∃ t n,HR t n h∧K r t n=true
def KS (K:HT→Nat→Bool) (h:ab):Prop:=∃ t n,HR t n h∧K t n=true
section
variable {t:HT}{n:Nat}{h:ab}
def MG (t:HT) (m:Nat) (v:AV):Option (List AV):=match v with
 | .ptr i o=>match t.get i with
   | some (.cells cs)=>if o+m≤cs.length then some ((cs.drop o).take m) else none
   | _=>none
 | .cptr cs=>if m≤cs.length then some (cs.take m) else none
 | _=>none
theorem Hn (r:HR t n h) {m:Nat}{v:AV}{l:List AV}(e:MG t m v=some l):pK h m v=some l:=by
 unfold MG at e
 unfold pK
 split at e
 ·split at e
  ·rename_i hc;simp only[r.at_ _ _ hc];exact e
  ·cases e
 ·exact e
 ·cases e
def BH (m:Nat) (v:AV) (t:HT) (K:AV→Bool):Bool:=match MG t m v with|some l=>K (.agg l)|none=>false
def BX (v:AV) (t:HT) (K:AV→Bool):Bool:=match MG t 1 v with|some [a]=>K a|_=>false
theorem ye (r:HR t n h) {m:Nat}{v:AV}{K:AV→Bool}(k:BH m v t K=true):kS m v h (fun r=>K r=true):=by
 unfold BH at k
 unfold kS
 split at k
 ·rename_i hl;simp only[Hn r hl];exact k
 ·cases k
theorem x9 (r:HR t n h) {v:AV}{K:AV→Bool}(k:BX v t K=true):kP v h (fun r=>K r=true):=by
 unfold BX at k
 unfold kP
 split at k
 ·rename_i hl;simp only[Hn r hl];exact k
 ·cases k
def R6 (cs:List AV) (t:HT) (n:Nat) (K:AV→HT→Nat→Bool):Bool:=fN n fun n=>K (.ptr n 0) (t.set (.cells cs) n) (n+1)
theorem MD (r:HR t n h) {cs:List AV}{K:AV→HT→Nat→Bool}(k:R6 cs t n K=true):PO cs h (KH K):=by
 unfold R6 at k;rw[jE]at k
 unfold PO
 rw[r.len]
 exact⟨_,_,r.push _,k⟩
def UA (v:AV) (t:HT) (n:Nat) (K:AV→HT→Nat→Bool):Bool:=bI v.isTup false (R6 v.cells t n K)
theorem RY (r:HR t n h) {v:AV}{K:AV→HT→Nat→Bool}(k:UA v t n K=true):UR v h (KH K):=by
 unfold UA at k
 rcases (GG _ _ _).1 k with ⟨_,k⟩|⟨hv,k⟩
 ·cases k
 ·exact⟨hv,MD r k⟩
def Lo (m:Nat) (v u:AV) (t:HT) (n:Nat) (K:HT→Nat→Bool):Bool:=
 match v with
 | .ptr i o=>(match t.get i with
   | some (.cells cs)=>decide (u.isTup=false∧u.cells.length=m∧u.cells.all AV.one=true∧o+m≤cs.length)&&K (t.set (.cells (splice cs o u.cells)) i) n
   | _=>false)
 | _=>false
theorem NC (r:HR t n h) {m:Nat}{v u:AV}{K:HT→Nat→Bool}(k:Lo m v u t n K=true):qU m v u h (KS K):=by
 unfold Lo at k
 unfold qU
 split at k
 ·rename_i i o
  skip
  split at k
  ·rename_i cs hc
   simp only[r.at_ _ _ hc]
   simp only[Bool.and_eq_true,decide_eq_true_eq]at k
   exact⟨k.1,_,_,r.set hc,k.2⟩
  ·cases k
 ·cases k
def Bp (t:HT) (size:Nat) (v:AV):Option (Nat×List AV):=match v with
 | .snap n cs=>if cs.length=n*size then some (n,cs) else none
 | .full n cs=>if cs.length=n*size then some (n,cs) else none
 | .sl i off len sz=>match t.get i with
   | some (.cells cs)=>if sz=size∧off+len*size≤cs.length then some (len,(cs.drop off).take (len*size)) else none
   | _=>none
 | .lit (.string s)=>if size=1 then some (s.size,s.data.toList.map fun b=>.lit (.int .u8 b.toNat)) else none
 | _=>none
theorem xq (r:HR t n h) {m:Nat}{v:AV}{x:Nat×List AV}(e:Bp t m v=some x):da h m v=some x:=by
 unfold Bp at e
 unfold da
 split at e
 ·exact e
 ·exact e
 ·split at e
  ·rename_i hc;simp only[r.at_ _ _ hc];exact e
  ·cases e
 ·exact e
 ·cases e
def Fs (size bytes:Nat) (v x:AV) (t:HT) (n:Nat) (K:AV→HT→Nat→Bool):Bool:=
 match Bp t size x with
 | none=>false
 | some (m,xs)=>match v with
   | .full n0 cs=>decide (cs.length=n0*size∧(n0+m)*bytes≤1099511627776)&&(bI (Nat.beq m 0) (K (.full n0 cs) t n) (fN n fun n=>fN (n0+m) fun l=>K (.sl n 0 l size) (t.set (.cells (cs++xs)) n) (n+1)))
   | .sl i off len sz=>(match t.get i with
     | some (.cells cs)=>decide (sz=size∧off+len*size=cs.length∧xs.all AV.one=true∧(len+m)*bytes≤1099511627776)&&fN n fun n=>fN (len+m) fun l=>K (.sl n 0 l size) ((t.set .dead i).set (.cells (cs.drop off++xs)) n) (n+1)
     | _=>false)
   | _=>false
theorem Kr (r:HR t n h) {size bytes:Nat}{v x:AV}{K:AV→HT→Nat→Bool}(k:Fs size bytes v x t n K=true):jT size bytes v x h (KH K):=by
 unfold Fs at k
 unfold jT
 split at k
 ·cases k
 ·rename_i m xs hx
  simp only[xq r hx]
  split at k
  ·simp only[Bool.and_eq_true,decide_eq_true_eq,GG,jE]at k
   refine⟨k.1,?_⟩
   rcases k.2 with ⟨h0,k⟩|⟨h0,k⟩
   ·rw[if_pos (Nat.eq_of_beq_eq_true h0)];exact⟨t,n,r,k⟩
   ·rw[if_neg (fun e=>by rw[Nat.beq_eq.mpr e]at h0;cases h0),r.len];exact⟨_,_,r.push _,k⟩
  ·rename_i i off len sz
   skip
   split at k
   ·rename_i cs hc
    simp only[r.at_ _ _ hc]
    simp only[Bool.and_eq_true,decide_eq_true_eq,jE]at k
    refine⟨k.1,?_⟩
    rw[r.len]
    exact⟨_,_,(r.set hc).push _,k.2⟩
   ·cases k
  ·cases k
def xL (x:AV) (t:HT) (K:AV→Bool):Bool:=
 bA (uC x) (match Bp t 1 x with
  | some (_,xs)=>(match oe xs with|some l=>K (S ⟨l.toArray⟩)|none=>false)
  | none=>false)
theorem Ft (r:HR t n h) {x:AV}{K:AV→Bool}(k:xL x t K=true):eO x h (fun r=>K r=true):=by
 unfold xL at k
 unfold eO
 rw[db]at k
 rw[if_pos k.1]
 have k:=k.2
 split at k
 ·rename_i hx
  simp only[xq r hx]
  split at k
  ·simp only[*]
  ·cases k
 ·cases k
def yp (x:AV) (t:HT) (n:Nat) (K:AV→HT→Nat→Bool):Bool:=
 match x with
 | .lit (.string s)=>fN n fun n=>fN s.size fun l=>K (.sl n 0 l 1) (t.set (.cells (s.data.toList.map fun b=>.lit (.int .u8 b.toNat))) n) (n+1)
 | _=>false
theorem Gz (r:HR t n h) {x:AV}{K:AV→HT→Nat→Bool}(k:yp x t n K=true):io x h (KH K):=by
 unfold yp at k
 unfold io
 split at k
 ·simp only[jE]at k
  rw[r.len]
  exact⟨_,_,r.push _,k⟩
 ·cases k
def vk (bytes:Nat) (z l c:AV) (t:HT) (n:Nat) (K:AV→HT→Nat→Bool):Bool:=
 match l,c with
 | .lit (.int _ l),.lit (.int _ c)=>decide (0≤l∧l≤c∧(bytes:Int)*c≤1099511627776∧c≤1099511627776)&&fN n fun n=>fN l.toNat fun l=>K (.sl n 0 l 1) (t.set (.cells (List.replicate c.toNat z)) n) (n+1)
 | _,_=>false
theorem CN (r:HR t n h) {bytes:Nat}{z l c:AV}{K:AV→HT→Nat→Bool}(k:vk bytes z l c t n K=true):fY bytes z l c h (KH K):=by
 unfold vk at k
 unfold fY
 split at k
 ·simp only[jE,Bool.and_eq_true,decide_eq_true_eq]at k
  rw[r.len]
  exact⟨k.1,_,_,r.push _,k.2⟩
 ·cases k
def Rb (v:AV) (t:HT) (K:AV→Bool):Bool:=match v with|.map i=>(match t.get i with|some (.amap es _)=>fN es.length fun l=>K (I l)|_=>false)|_=>false
theorem PS (r:HR t n h) {v:AV}{K:AV→Bool}(k:Rb v t K=true):uH v h (fun r=>K r=true):=by
 unfold Rb at k
 unfold uH
 split at k
 ·split at k
  ·rename_i hc
   simp only[jE]at k;simp only[r.at_ _ _ hc];exact k
  ·cases k
 ·cases k
def uEq (a b:UInt8):Bool:=Nat.beq a.toNat b.toNat
theorem Fe (a b:UInt8):uEq a b=(a==b):=by
 rw[Bool.eq_iff_iff,uEq,Nat.beq_eq,beq_iff_eq,UInt8.toNat_inj]
def lEq:List UInt8→List UInt8→Bool
 | [],[]=>true
 | a::l,b::m=>bA (uEq a b) (lEq l m)
 | _,_=>false
theorem Rz:∀ a b:List UInt8,lEq a b=true↔a=b
 | [],[]=>by simp[lEq]
 | [],b::m=>by simp[lEq]
 | a::l,[]=>by simp[lEq]
 | a::l,b::m=>by simp only[lEq,db,Fe,beq_iff_eq,Rz l m,List.cons.injEq]
def sEq (a b:ByteArray):Bool:=lEq a.data.toList b.data.toList
theorem FW (a b:ByteArray):sEq a b=true↔a=b:=by
 unfold sEq
 rw[Rz]
 constructor
 ·intro h
  rcases a with ⟨⟨a⟩⟩;rcases b with ⟨⟨b⟩⟩
  simp at h;subst h;rfl
 ·rintro rfl;rfl
theorem TJ (a b:ByteArray):sEq a b=(a==b):=by
 rw[Bool.eq_iff_iff,FW]
 show a=b↔(a.data==b.data)=true
 rw[beq_iff_eq]
 exact⟨fun h=>by rw[h],fun h=>by cases a;cases b;simp at h;rw[h]⟩
def iEq (a b:Int):Bool:=@Int.casesOn (fun _=>Bool) a (fun m=>@Int.casesOn (fun _=>Bool) b (fun k=>Nat.beq m k) (fun _=>false)) (fun m=>@Int.casesOn (fun _=>Bool) b (fun _=>false) (fun k=>Nat.beq m k))
theorem LP (a b:Int):iEq a b=true↔a=b:=by
 cases a<;>cases b<;>simp[iEq]
 exact⟨fun h=>by rw[h],fun h=>Int.ofNat.inj h⟩
theorem Qd (a b:Int):iEq a b=(a==b):=by
 rw[Bool.eq_iff_iff,LP,beq_iff_eq]
def Ur:Value→Value→Bool
 | .string a,.string b=>sEq a b
 | .int _ a,.int _ b=>iEq a b
 | _,_=>false
theorem SR (a b:Value):Ur a b=keq a b:=by
 unfold Ur keq
 split<;>simp_all [TJ,Qd]
def Aj (k:Value):ft→Nat→Option (Nat×Nat×AV)
 | [],_=>none
 | (k',n,v)::r,i=>match Ur k k' with
   | true=>some (i,n,v)
   | false=>Aj k r (i+1)
theorem sR (k:Value):∀ (es:ft) (i:Nat),Aj k es i=nA k es i
 | [],_=>rfl
 | (k',n,v)::r,i=>by
   simp only[Aj,nA]
   rw[SR]
   cases h:keq k k'
   ·simp[sR k r]
   ·simp
def Ug (k:Value) (v:AV) (clock:Nat) (es:ft):AObj:=
 match Aj k es 0 with
 | some (i,n,_)=>.amap (es.set i (k,n,v)) clock
 | none=>.amap (es++[(k,clock,v)]) (clock+1)
theorem Tf (k:Value) (v:AV) (clock:Nat) (es:ft):Ug k v clock es=Oe k v clock es:=by
 unfold Ug Oe;rw[sR]
 split<;>simp_all
def KZ (d:TypeDesc):ft→Bool
 | []=>true
 | e::es=>bA (kOk d e.1) (KZ d es)
theorem wh (d:TypeDesc):∀ es:ft,KZ d es=es.all fun e=>kOk d e.1
 | []=>rfl
 | e::es=>by
   simp only[KZ,List.all_cons,← wh d es]
   cases kOk d e.1<;>rfl
def EC (d:TypeDesc) (ok:Bool) (z x key:AV) (t:HT) (K:AV→Bool):Bool:=
 match key with
 | .lit k=>match x with
   | .lit (.map none)=>bA (kOk d k) (K (if ok then .tup [z,B false] else z))
   | .map i=>match t.get i with
     | some (.amap es _)=>bA (kOk d k) (bA (KZ d es) (match Aj k es 0 with
       | some (_,_,v)=>K (if ok then .tup [v,B true] else v)
       | none=>K (if ok then .tup [z,B false] else z)))
     | _=>false
   | _=>false
 | _=>false
theorem Lf (r:HR t n h) {d:TypeDesc}{ok:Bool}{z x key:AV}{K:AV→Bool}(k:EC d ok z x key t K=true):ie d ok z x key h (fun r=>K r=true):=by
 unfold EC at k
 unfold ie
 split at k
 ·split at k
  ·rw[db]at k;simp only[if_pos k.1];exact k.2
  ·split at k
   ·rename_i hc
    simp only[r.at_ _ _ hc]
    rw[db,db,wh,sR]at k
    rw[if_pos (by simp[k.1,k.2.1])]
    have k:=k.2.2
    split at k<;>simp only[*]
   ·cases k
  ·cases k
 ·cases k
def rk (d:TypeDesc) (x key v:AV) (t:HT) (n:Nat) (K:HT→Nat→Bool):Bool:=
 match key,x with
 | .lit k,.map i=>(match t.get i with
   | some (.amap es clock)=>bA (kOk d k) (bA (KZ d es) (K (t.set (Ug k v clock es) i) n))
   | _=>false)
 | _,_=>false
theorem u6 (r:HR t n h) {d:TypeDesc}{x key v:AV}{K:HT→Nat→Bool}(k:rk d x key v t n K=true):ga d x key v h (KS K):=by
 unfold rk at k
 unfold ga
 split at k
 ·skip
  split at k
  ·rename_i hc
   simp only[r.at_ _ _ hc]
   rw[db,db,wh,Tf]at k
   rw[if_pos (by simp[k.1,k.2.1])]
   exact⟨_,_,r.set hc,k.2.2⟩
  ·cases k
 ·cases k
def xD (d:TypeDesc) (z x key:AV) (t:HT) (n:Nat) (K:AV→HT→Nat→Bool):Bool:=
 match key,x with
 | .lit k,.map i=>(match t.get i with
   | some (.amap es clock)=>bA (kOk d k) (bA (KZ d es) (match Aj k es 0 with
     | some (_,m,v)=>K (.tup [v,I m]) t n
     | none=>K (.tup [z,I clock]) (t.set (.amap (es++[(k,clock,z)]) (clock+1)) i) n))
   | _=>false)
 | _,_=>false
theorem Fb (r:HR t n h) {d:TypeDesc}{z x key:AV}{K:AV→HT→Nat→Bool}(k:xD d z x key t n K=true):ik d z x key h (KH K):=by
 unfold xD at k
 unfold ik
 split at k
 ·skip
  split at k
  ·rename_i hc
   simp only[r.at_ _ _ hc]
   rw[db,db,wh,sR]at k
   rw[if_pos (by simp[k.1,k.2.1])]
   have k:=k.2.2
   split at k
   ·simp only[*];exact⟨_,_,r,k⟩
   ·simp only[*];exact⟨_,_,r.set hc,k⟩
  ·cases k
 ·cases k
def tj (x st v:AV) (t:HT) (n:Nat) (K:HT→Nat→Bool):Bool:=
 match st,x with
 | .lit (.int .i64 m),.map i=>(match t.get i with
   | some (.amap es clock)=>(match qS m es 0 with
     | some (j,k,b)=>K (t.set (.amap (es.set j (k,b,v)) clock) i) n
     | none=>false)
   | _=>false)
 | _,_=>false
theorem Be (r:HR t n h) {x st v:AV}{K:HT→Nat→Bool}(k:tj x st v t n K=true):fb x st v h (KS K):=by
 unfold tj at k
 unfold fb
 split at k
 ·skip
  split at k
  ·rename_i hc
   simp only[r.at_ _ _ hc]
   split at k
   ·simp only[*];exact⟨_,_,r.set hc,k⟩
   ·cases k
  ·cases k
 ·cases k
def FD (d:TypeDesc) (x key:AV) (t:HT) (n:Nat) (K:HT→Nat→Bool):Bool:=
 match key with
 | .lit k=>match x with
   | .lit (.map none)=>bA (kOk d k) (K t n)
   | .map i=>(match t.get i with
     | some (.amap es clock)=>bA (kOk d k) (bA (KZ d es) (match Aj k es 0 with
       | some (j,_,_)=>K (t.set (.amap (es.eraseIdx j) clock) i) n
       | none=>K t n))
     | _=>false)
   | _=>false
 | _=>false
theorem Jx (r:HR t n h) {d:TypeDesc}{x key:AV}{K:HT→Nat→Bool}(k:FD d x key t n K=true):of d x key h (KS K):=by
 unfold FD at k
 unfold of
 split at k
 ·split at k
  ·rw[db]at k;simp only[if_pos k.1];exact⟨_,_,r,k.2⟩
  ·skip
   split at k
   ·rename_i hc
    simp only[r.at_ _ _ hc]
    rw[db,db,wh,sR]at k
    rw[if_pos (by simp[k.1,k.2.1])]
    have k:=k.2.2
    split at k
    ·simp only[*];exact⟨_,_,r.set hc,k⟩
    ·simp only[*];exact⟨_,_,r,k⟩
   ·cases k
  ·cases k
 ·cases k
def BZ (t:HT) (n:Nat) (K:AV→HT→Nat→Bool):Bool:=fN n fun n=>K (.map n) (t.set (.amap [] 0) n) (n+1)
theorem Hy (r:HR t n h) {K:AV→HT→Nat→Bool}(k:BZ t n K=true):px h (KH K):=by
 unfold BZ at k;rw[jE]at k
 unfold px
 rw[r.len]
 exact⟨_,_,r.push _,k⟩
def F3 (x:AV) (t:HT) (n:Nat) (K:AV→HT→Nat→Bool):Bool:=
 match x with
 | .lit (.string s)=>fN n fun n=>K (.ptr n 0) (t.set (.siter s 0) n) (n+1)
 | _=>false
theorem Kv (r:HR t n h) {x:AV}{K:AV→HT→Nat→Bool}(k:F3 x t n K=true):nZ x h (KH K):=by
 unfold F3 at k
 unfold nZ
 split at k
 ·rw[jE]at k;rw[r.len];exact⟨_,_,r.push _,k⟩
 ·cases k
def K3 (x:AV) (t:HT) (n:Nat) (K:AV→HT→Nat→Bool):Bool:=
 match x with
 | .ptr i 0=>(match t.get i with
   | some (.siter s pos)=>bI (Nat.blt pos s.size) (K (.tup [B true,I pos,.lit (.int .i32 (Utf8.decode s pos).1)]) (t.set (.siter s (pos+(Utf8.decode s pos).2)) i) n) (K (.tup [B false]) t n)
   | _=>false)
 | _=>false
theorem M4 (r:HR t n h) {x:AV}{K:AV→HT→Nat→Bool}(k:K3 x t n K=true):qK x h (KH K):=by
 unfold K3 at k
 unfold qK
 split at k
 ·skip
  split at k
  ·rename_i hc
   simp only[r.at_ _ _ hc]
   rw[GG]at k
   rcases k with ⟨hp,k⟩|⟨hp,k⟩
   ·rw[if_pos (by rw[Nat.blt_eq]at hp;exact hp)];exact⟨_,_,r.set hc,k⟩
   ·rw[if_neg (fun e=>by rw[← Nat.blt_eq,hp]at e;cases e)];exact⟨_,_,r,k⟩
  ·cases k
 ·cases k
def Gr (x:AV) (t:HT) (n:Nat) (K:AV→HT→Nat→Bool):Bool:=
 match x with
 | .lit (.map none)=>fN n fun n=>K (.ptr n 0) (t.set (.miter none 0 [] 0) n) (n+1)
 | .map i=>(match t.get i with
   | some (.amap es clock)=>fN n fun n=>K (.ptr n 0) (t.set (.miter (some i) clock [] clock) n) (n+1)
   | _=>false)
 | _=>false
theorem KC (r:HR t n h) {x:AV}{K:AV→HT→Nat→Bool}(k:Gr x t n K=true):mQ x h (KH K):=by
 unfold Gr at k
 unfold mQ
 split at k
 ·rw[jE]at k;rw[r.len];exact⟨_,_,r.push _,k⟩
 ·skip
  split at k
  ·rename_i hc
   simp only[r.at_ _ _ hc]
   rw[jE]at k;rw[r.len];exact⟨_,_,r.push _,k⟩
  ·cases k
 ·cases k
def Lk (x:AV) (t:HT) (n:Nat) (K:AV→HT→Nat→Bool):Bool:=
 match x with
 | .ptr i 0=>(match t.get i with
   | some (.miter none _ _ _)=>K (.tup [B false]) t n
   | some (.miter (some j) since seen last)=>(match t.get j with
     | some (.amap es clock)=>
       decide ((es.all fun e=>e.1.oneCell')=true∧(!seen.isEmpty&&!es.isEmpty&&es.all fun e=>decide (e.2.1≥last))=false)&&
       ((!(es.all fun e=>seen.contains e.2.1||decide (since≤e.2.1))||K (.tup [B false]) t n)&&
       es.all fun e=>seen.contains e.2.1||K (.tup [B true,.lit e.1,e.2.2]) (t.set (.miter (some j) since (seen++[e.2.1]) clock) i) n)
     | _=>false)
   | _=>false)
 | _=>false
theorem ML (r:HR t n h) {x:AV}{K:AV→HT→Nat→Bool}(k:Lk x t n K=true):q8 x h (KH K):=by
 unfold Lk at k
 unfold q8
 split at k
 ·skip
  split at k
  ·rename_i hes;simp only[r.at_ _ _ hes];exact⟨_,_,r,k⟩
  ·rename_i hes
   split at k
   ·rename_i hm
    simp only[r.at_ _ _ hes,r.at_ _ _ hm]
    simp only[Bool.and_eq_true,decide_eq_true_eq,Bool.or_eq_true,Bool.not_eq_true',List.all_eq_true,List.all_eq_false]at k
    obtain⟨k0,k1,k2⟩:=k
    refine⟨⟨List.all_eq_true.2 k0.1,k0.2⟩,fun ha=>?_,fun e he hs=>?_⟩
    ·rcases k1 with ⟨x,hx,hn⟩|k1
     ·exfalso
      rcases ha x hx with h1|h1
      ·exact hn (by simp[h1])
      ·exact hn (by simp[h1])
     ·exact⟨_,_,r,k1⟩
    ·rcases k2 e he with h1|h1
     ·exact (hs (by simpa using h1)).elim
     ·exact⟨_,_,r.set hes,h1⟩
   ·cases k
  ·cases k
 ·cases k
def Ll (x:AV) (t:HT) (K:AV→Bool):Bool:=
 match x with
 | .ptr i 0=>(match t.get i with
   | some (.miter (some j) _ seen last)=>(match t.get j,seen.getLast? with
     | some (.amap es clock),some n=>(match lZ n es with
       | some (k,v)=>bA (k.oneCell'&&clock==last) (K (.tup [.lit k,v]))
       | none=>false)
     | _,_=>false)
   | _=>false)
 | _=>false
theorem Oh (r:HR t n h) {x:AV}{K:AV→Bool}(k:Ll x t K=true):mh x h (fun r=>K r=true):=by
 unfold Ll at k
 unfold mh
 split at k
 ·split at k
  ·rename_i hc
   simp only[r.at_ _ _ hc]
   split at k
   ·rename_i h1 h2
    simp only[r.at_ _ _ h1,h2]
    split at k
    ·rw[db]at k;simp only[*,if_true]
    ·cases k
   ·cases k
  ·cases k
 ·cases k
end
end
section
def kNo (k:IntKind):Nat:=match k with|.i8=>0|.i16=>1|.i32=>2|.i64=>3|.u8=>4|.u16=>5|.u32=>6|.u64=>7
def kEq (j k:IntKind):Bool:=Nat.beq (kNo j) (kNo k)
theorem LW (j k:IntKind):kEq j k=true↔j=k:=by cases j<;>cases k<;>decide
def Ut (n:Int):Bool:=@Int.casesOn (fun _=>Bool) n (fun m=>Nat.ble m 9223372036854775807) (fun m=>Nat.ble m 9223372036854775807)
theorem Ov {n:Int}(h:Ut n=true):IntKind.i64.wrap n=n:=by
 have hb:-9223372036854775808≤n∧n≤9223372036854775807:=by
  cases n with
  | ofNat m=>have:m≤9223372036854775807:=Nat.le_of_ble_eq_true h;constructor<;>simp<;>omega
  | negSucc m=>have:m≤9223372036854775807:=Nat.le_of_ble_eq_true h;constructor<;>omega
 exact IntWalk.i64_in _ hb
def wI (k:IntKind) (n:Int) (K:Int→Bool):Bool:=bI (bA (Nat.beq (kNo k) 3) (Ut n)) (fI n K) (fI (k.wrap n) K)
theorem TA (k:IntKind) (n:Int) (K:Int→Bool):wI k n K=K (k.wrap n):=by
 unfold wI
 cases h:bA (Nat.beq (kNo k) 3) (Ut n)
 ·simp[bI,MF]
 ·rw[db]at h
  have hk:k=.i64:=by
   have h1:=Nat.eq_of_beq_eq_true h.1
   cases k<;>simp_all [kNo]
  subst hk
  simp[bI,MF,Ov h.2]
def iLt (a b:Int):Bool:=@Int.casesOn (fun _=>Bool) a (fun m=>@Int.casesOn (fun _=>Bool) b (fun k=>Nat.blt m k) (fun _=>false)) (fun m=>@Int.casesOn (fun _=>Bool) b (fun _=>true) (fun k=>Nat.blt k m))
theorem uk (a b:Nat):Nat.blt a b=true↔a<b:=by simp
theorem Mg (a b:Int):iLt a b=true↔a<b:=by
 cases a<;>cases b
 ·exact (uk _ _).trans ⟨fun h=>by simpa using h,fun h=>by simpa using h⟩
 ·exact⟨fun h=>(by cases h),fun h=>by simp at h;omega⟩
 ·exact⟨fun h=>by simp;omega,fun h=>rfl⟩
 ·exact (uk _ _).trans ⟨fun h=>by omega,fun h=>by omega⟩
def fS:List UInt8→(List UInt8→Bool)→Bool
 | [],K=>K []
 | a::l,K=>fS l fun l=>K (a::l)
theorem Rg:∀ (l:List UInt8) (K:List UInt8→Bool),fS l K=K l
 | [],K=>rfl
 | a::l,K=>by simp only[fS,Rg l]
def uLt (a b:UInt8):Bool:=Nat.blt a.toNat b.toNat
def lLt:List UInt8→List UInt8→Bool
 | _,[]=>false
 | [],_::_=>true
 | a::x,b::y=>bI (uLt a b) true (bA (uEq a b) (lLt x y))
theorem Pk:∀ a b:List UInt8,lLt a b=Op.bytesLess a b
 | [],[]=>rfl
 | a::x,[]=>rfl
 | [],b::y=>rfl
 | a::x,b::y=>by
   simp only[lLt,Op.bytesLess,Pk x y,Fe]
   have:uLt a b=decide (a<b):=by
    rw[Bool.eq_iff_iff,uLt,uk,decide_eq_true_eq,UInt8.lt_iff_toNat_lt]
   rw[this]
   cases decide (a<b)<;>cases (a==b)<;>rfl
def oV (o:Option Value) (K:AV→Bool):Bool:=match o with
 | some (.int k r)=>fI r fun r=>K (.lit (.int k r))
 | some (.bool b)=>fB b fun b=>K (.lit (.bool b))
 | some (.float k r)=>fN r fun r=>K (.lit (.float k r))
 | some r=>K (.lit r)
 | none=>false
theorem PC (o:Option Value) (K:AV→Bool) (h:oV o K=true):∃ r,o=some r∧K (.lit r)=true:=by
 unfold oV at h
 split at h
 ·rw[MF]at h;exact⟨_,rfl,h⟩
 ·rw[L7]at h;exact⟨_,rfl,h⟩
 ·rw[jE]at h;exact⟨_,rfl,h⟩
 ·exact⟨_,rfl,h⟩
 ·cases h
def Ud (op:BinOp) (k k':IntKind) (a b:Int) (K:AV→Bool):Bool:=
 match op with
 | .add=>bA (kEq k k') (wI k (Int.add a b) fun r=>K (.lit (.int k r)))
 | .sub=>bA (kEq k k') (wI k (Int.sub a b) fun r=>K (.lit (.int k r)))
 | .mul=>bA (kEq k k') (wI k (Int.mul a b) fun r=>K (.lit (.int k r)))
 | .eql=>bA (kEq k k') (fB (iEq a b) fun r=>K (B r))
 | .neq=>bA (kEq k k') (fB (iEq a b) fun r=>K (B !r))
 | .lss=>bA (kEq k k') (fB (iLt a b) fun r=>K (B r))
 | .leq=>bA (kEq k k') (fB (iLt b a) fun r=>K (B !r))
 | .gtr=>bA (kEq k k') (fB (iLt b a) fun r=>K (B r))
 | .geq=>bA (kEq k k') (fB (iLt a b) fun r=>K (B !r))
 | op=>oV (cp op (.int k a) (.int k' b)) K
def T1 (op:BinOp) (x y:ByteArray) (K:AV→Bool):Bool:=
 match op with
 | .add=>bA (Nat.ble (Nat.add x.data.toList.length y.data.toList.length) 1099511627776) (fS (x.data.toList++y.data.toList) fun l=>K (S ⟨⟨l⟩⟩))
 | .eql=>fB (sEq x y) fun r=>K (B r)
 | .neq=>fB (sEq x y) fun r=>K (B !r)
 | .lss=>fB (lLt x.data.toList y.data.toList) fun r=>K (B r)
 | .leq=>fB (bI (lLt x.data.toList y.data.toList) true (sEq x y)) fun r=>K (B r)
 | .gtr=>fB (bI (lLt x.data.toList y.data.toList) true (sEq x y)) fun r=>K (B !r)
 | .geq=>fB (lLt x.data.toList y.data.toList) fun r=>K (B !r)
 | _=>false
def Q5 (op:BinOp) (x y:AV) (K:AV→Bool):Bool:=
 match x,y with
 | .lit (.int k a),.lit (.int k' b)=>Ud op k k' a b K
 | .lit (.string a),.lit (.string b)=>T1 op a b K
 | .lit a,.lit b=>oV (cp op a b) K
 | _,_=>false
theorem SQ {op:BinOp}{k k':IntKind}{a b:Int}{K:AV→Bool}(h:Ud op k k' a b K=true):∃ r,cp op (.int k a) (.int k' b)=some r∧K (.lit r)=true:=by
 unfold Ud at h
 have h1:decide (b<a)=!decide (a≤b):=by by_cases hh:a≤b<;>simp[hh]<;>omega
 have h2:decide (a<b)=!decide (b≤a):=by by_cases hh:b≤a<;>simp[hh]<;>omega
 have e1:iLt a b=decide (a<b):=by rw[Bool.eq_iff_iff,Mg,decide_eq_true_eq]
 have e2:iLt b a=decide (b<a):=by rw[Bool.eq_iff_iff,Mg,decide_eq_true_eq]
 split at h
 case h_10=>exact PC _ _ h
 all_goals
  rw[db,LW]at h
  obtain⟨rfl,h⟩:=h
  first|rw[TA]at h|rw[L7]at h
  refine⟨_,by simp only[cp,gj,if_true];rfl,?_⟩
  first
   | exact h
   | (rw[Qd]at h;exact h)
   | (rw[e1]at h;exact h)
   | (rw[e2]at h;exact h)
   | (rw[e1,h2,Bool.not_not]at h;exact h)
   | (rw[e2,h1,Bool.not_not]at h;exact h)
theorem Sh {op:BinOp}{x y:ByteArray}{K:AV→Bool}(h:T1 op x y K=true):∃ r,cp op (.string x) (.string y)=some r∧K (.lit r)=true:=by
 have he:(x.toList==y.toList)=sEq x y:=by
  rw[Bool.eq_iff_iff,FW,beq_iff_eq,ByteArray.toList_eq,ByteArray.toList_eq]
  exact⟨fun h=>by rcases x with ⟨⟨x⟩⟩;rcases y with ⟨⟨y⟩⟩;simp at h;rw[h],fun h=>by rw[h]⟩
 have hl:Op.bytesLess x.toList y.toList=lLt x.data.toList y.data.toList:=by rw[ByteArray.toList_eq,ByteArray.toList_eq,Pk]
 have hor:∀ a b:Bool,bI a true b=(a||b):=fun a b=>by cases a<;>rfl
 have hbl:cp op (.string x) (.string y)=tG op x y:=by cases op<;>rfl
 rw[hbl]
 unfold T1 at h
 unfold tG
 simp only[he,hl]
 split at h
 ·rw[db,Rg]at h
  have hs:=Nat.le_of_ble_eq_true h.1
  have hsz:¬ ((x.size+y.size:Nat):Int) > IntKind.i64.max:=by
   have h1:x.data.toList.length=x.size:=rfl
   have h2:y.data.toList.length=y.size:=rfl
   have h3:Nat.add x.data.toList.length y.data.toList.length=x.size+y.size:=rfl
   rw[h3]at hs
   have:IntKind.i64.max=9223372036854775807:=by decide
   rw[this];omega
  refine⟨_,by rw[if_neg hsz],?_⟩
  have:(x++y:ByteArray)=⟨⟨x.data.toList++y.data.toList⟩⟩:=by
   have:(x++y).data=x.data++y.data:=by simp
   rcases h:x++y with ⟨⟨l⟩⟩
   rw[h]at this
   congr 1
   apply Array.toList_inj.1
   have h2:=congrArg Array.toList this
   simpa using h2
  rw[this]
  exact h.2
 all_goals first
  | cases h;done
  | (rw[L7]at h;exact⟨_,rfl,h⟩)
  | (rw[L7,hor]at h;exact⟨_,rfl,h⟩)
theorem FC {op:BinOp}{x y:AV}{K:AV→Bool}(h:Q5 op x y K=true):y8 op x y (fun r=>K r=true):=by
 unfold Q5 at h
 unfold y8
 split at h
 ·obtain⟨r,e,k⟩:=SQ h;simp only[e];exact k
 ·obtain⟨r,e,k⟩:=Sh h;simp only[e];exact k
 ·obtain⟨r,e,k⟩:=PC _ _ h;simp only[e];exact k
 ·cases h
def FX (kd:FloatKind) (x:AV) (K:AV→Bool):Bool:=match x with|.lit (.int _ n)=>fN (kd.nearest n) fun r=>K (.lit (.float kd r))|_=>false
theorem Jz {kd:FloatKind}{x:AV}{K:AV→Bool}(h:FX kd x K=true):j2 kd x (fun r=>K r=true):=by
 unfold FX at h
 unfold j2
 split at h
 ·rw[jE]at h;exact h
 ·cases h
def EB (kd:IntKind) (x:AV) (K:AV→Bool):Bool:=match x with|.lit (.int _ n)=>wI kd n fun r=>K (.lit (.int kd r))|_=>false
theorem JU {kd:IntKind}{x:AV}{K:AV→Bool}(h:EB kd x K=true):jU kd x (fun r=>K r=true):=by
 unfold EB at h
 unfold jU
 split at h
 ·rw[TA]at h;exact h
 ·cases h
def tUn (op:UnOp) (x:AV) (K:AV→Bool):Bool:=bUn op x fun v=>match v with|.lit r=>oV (some r) K|v=>K v
theorem Uj {op:UnOp}{x:AV}{K:AV→Bool}(h:tUn op x K=true):pUn op x (fun r=>K r=true):=by
 have hk:∀ v:AV,(match v with|.lit r=>oV (some r) K|v=>K v)=true→K v=true:=fun v k=>by
  split at k
  ·obtain⟨r',e,k⟩:=PC _ _ k;cases e;exact k
  ·exact k
 have k:=TQ _ _ h
 unfold pUn at k ⊢
 split at k<;>first|exact k.elim|exact hk _ k
def Qz:List UInt8→Nat→Option UInt8
 | [],_=>none
 | b::l,i=>@Nat.casesOn (fun _=>Option UInt8) i (some b) (fun i=>Qz l i)
theorem ME:∀ (l:List UInt8) (i:Nat),Qz l i=l[i]?
 | [],i=>by simp[Qz]
 | b::l,0=>rfl
 | b::l,i+1=>by show Qz l i=_;rw[ME l i];simp
def FA (v i:AV) (K:AV→Bool):Bool:=match v,i with
 | .lit (.string s),.lit (.int _ (.ofNat n))=>(match Qz s.data.toList n with|some b=>fN b.toNat fun c=>K (.lit (.int .u8 (.ofNat c)))|none=>false)
 | _,_=>false
theorem KM {v i:AV}{K:AV→Bool}(h:FA v i K=true):jg v i (fun r=>K r=true):=by
 unfold FA at h
 unfold jg
 split at h
 ·rename_i s k n
  rw[ME]at h
  split at h
  ·rename_i b hb
   rw[jE]at h
   have hl:n<s.size:=(List.getElem?_eq_some_iff.1 hb).1
   refine⟨⟨by simp,by simpa using hl⟩,?_⟩
   have:bAt s (Int.ofNat n)=Int.ofNat b.toNat:=by
    unfold bAt
    have:s.data[n]?=some b:=by rw[← Array.getElem?_toList];exact hb
    simp[this]
   rw[this];exact h
  ·cases h
 ·cases h
def S1 (o:Option AV) (d:Nat):Option Nat:=match o with|none=>some d|some (.lit (.int _ (.ofNat n)))=>some n|_=>none
theorem LN {o:Option AV}{d m:Nat}(h:S1 o d=some m):jl o d=some (m:Int):=by
 unfold S1 at h
 split at h
 ·cases h;rfl
 ·cases h;rfl
 ·cases h
def Fk (v:AV) (lo hi:Option AV) (K:AV→Bool):Bool:=
 match v with
 | .lit (.string s)=>(match S1 lo 0,S1 hi s.data.toList.length with
   | some l,some h=>bA (Nat.ble l h) (bA (Nat.ble h s.data.toList.length) (fS ((s.data.toList.drop l).take (Nat.sub h l)) fun r=>K (S ⟨⟨r⟩⟩)))
   | _,_=>false)
 | _=>false
theorem Ki (s:ByteArray) (l h:Nat):s.extract l h=⟨⟨(s.data.toList.drop l).take (h-l)⟩⟩:=by
 have h1:(s.extract l h).data=s.data.extract l h:=by simp
 rcases he:s.extract l h with ⟨d⟩
 rw[he]at h1
 congr 1
 apply Array.toList_inj.1
 have h2:=congrArg Array.toList h1
 simpa [Array.toList_extract,List.extract_eq_take_drop] using h2
theorem JQ {v:AV}{lo hi:Option AV}{K:AV→Bool}(k:Fk v lo hi K=true):gN v lo hi (fun r=>K r=true):=by
 unfold Fk at k
 unfold gN
 split at k
 ·rename_i s
  split at k
  ·rename_i l h h1 h2
   rw[db,db,Rg]at k
   have a1:=Nat.le_of_ble_eq_true k.1
   have a2:=Nat.le_of_ble_eq_true k.2.1
   have h2':jl hi s.size=some (h:Int):=LN h2
   have h1':jl lo 0=some (l:Int):=LN h1
   simp only[h1',h2']
   have hz:s.data.toList.length=s.size:=rfl
   rw[hz]at a2
   refine⟨⟨by omega,by omega,by omega⟩,?_⟩
   simp only[Int.toNat_natCast]
   rw[Ki]
   exact k.2.2
  ·cases k
 ·cases k
def RM (v:AV) (K:AV→Bool):Bool:=match v with|.lit (.string s)=>fN s.data.toList.length fun n=>K (I (.ofNat n))|_=>false
theorem OR {v:AV}{K:AV→Bool}(h:RM v K=true):vb v (fun r=>K r=true):=by
 unfold RM at h
 unfold vb
 split at h
 ·rw[jE]at h;exact h
 ·cases h
def vH (off:Nat) (v:AV) (K:AV→Bool):Bool:=match v with|.ptr i o=>fN (Nat.add o off) fun o=>K (.ptr i o)|.cptr cs=>K (.cptr (cs.drop off))|_=>false
theorem C0 {off:Nat}{v:AV}{K:AV→Bool}(h:vH off v K=true):eu off v (fun r=>K r=true):=by
 unfold vH at h
 unfold eu
 split at h
 ·rw[jE]at h;exact h
 ·exact h
 ·cases h
def vT (size:Nat) (v i:AV) (K:AV→Bool):Bool:=
 match i with
 | .lit (.int _ (.ofNat n))=>match v with
   | .sl j off len sz=>bA (Nat.blt n len) (bA (Nat.beq sz size) (fN (Nat.add off (Nat.mul n size)) fun o=>K (.ptr j o)))
   | .snap m cs=>bA (Nat.blt n m) (K (.cptr (cs.drop (Nat.mul n size))))
   | .full m cs=>bA (Nat.blt n m) (K (.cptr (cs.drop (Nat.mul n size))))
   | _=>false
 | _=>false
theorem C6 {size:Nat}{v i:AV}{K:AV→Bool}(h:vT size v i K=true):dB size v i (fun r=>K r=true):=by
 unfold vT at h
 unfold dB
 split at h
 ·rename_i k n
  simp only[asI]
  split at h
  ·rw[db,db,jE,uk]at h
   exact⟨⟨by simp,by simpa using h.1,Nat.eq_of_beq_eq_true h.2.1⟩,h.2.2⟩
  ·rw[db,uk]at h
   exact⟨⟨by simp,by simpa using h.1⟩,h.2⟩
  ·rw[db,uk]at h
   exact⟨⟨by simp,by simpa using h.1⟩,h.2⟩
  ·cases h
 ·cases h
end
section
structure V16 where
 (a0 a1 a2 a3 a4 a5 a6 a7 a8 a9 a10 a11 a12 a13 a14 a15:Option AV)
structure E16 where
 (b0 b1 b2 b3 b4 b5 b6 b7 b8 b9 b10 b11 b12 b13 b14 b15:V16)
structure Ek where
 g:V16→Option AV
 s:V16→AV→V16
structure UE where
 g:E16→Option AV
 s:E16→AV→E16
def v0:V16:=⟨none,none,none,none,none,none,none,none,none,none,none,none,none,none,none,none⟩
def ee0:E16:=⟨v0,v0,v0,v0,v0,v0,v0,v0,v0,v0,v0,v0,v0,v0,v0,v0⟩
def D8 (i:Nat):Ek:=match i with
 | 0=>⟨fun v=>v.a0,fun v x=>match v with|⟨a0,a1,a2,a3,a4,a5,a6,a7,a8,a9,a10,a11,a12,a13,a14,a15⟩=>⟨some x,a1,a2,a3,a4,a5,a6,a7,a8,a9,a10,a11,a12,a13,a14,a15⟩⟩
 | 1=>⟨fun v=>v.a1,fun v x=>match v with|⟨a0,a1,a2,a3,a4,a5,a6,a7,a8,a9,a10,a11,a12,a13,a14,a15⟩=>⟨a0,some x,a2,a3,a4,a5,a6,a7,a8,a9,a10,a11,a12,a13,a14,a15⟩⟩
 | 2=>⟨fun v=>v.a2,fun v x=>match v with|⟨a0,a1,a2,a3,a4,a5,a6,a7,a8,a9,a10,a11,a12,a13,a14,a15⟩=>⟨a0,a1,some x,a3,a4,a5,a6,a7,a8,a9,a10,a11,a12,a13,a14,a15⟩⟩
 | 3=>⟨fun v=>v.a3,fun v x=>match v with|⟨a0,a1,a2,a3,a4,a5,a6,a7,a8,a9,a10,a11,a12,a13,a14,a15⟩=>⟨a0,a1,a2,some x,a4,a5,a6,a7,a8,a9,a10,a11,a12,a13,a14,a15⟩⟩
 | 4=>⟨fun v=>v.a4,fun v x=>match v with|⟨a0,a1,a2,a3,a4,a5,a6,a7,a8,a9,a10,a11,a12,a13,a14,a15⟩=>⟨a0,a1,a2,a3,some x,a5,a6,a7,a8,a9,a10,a11,a12,a13,a14,a15⟩⟩
 | 5=>⟨fun v=>v.a5,fun v x=>match v with|⟨a0,a1,a2,a3,a4,a5,a6,a7,a8,a9,a10,a11,a12,a13,a14,a15⟩=>⟨a0,a1,a2,a3,a4,some x,a6,a7,a8,a9,a10,a11,a12,a13,a14,a15⟩⟩
 | 6=>⟨fun v=>v.a6,fun v x=>match v with|⟨a0,a1,a2,a3,a4,a5,a6,a7,a8,a9,a10,a11,a12,a13,a14,a15⟩=>⟨a0,a1,a2,a3,a4,a5,some x,a7,a8,a9,a10,a11,a12,a13,a14,a15⟩⟩
 | 7=>⟨fun v=>v.a7,fun v x=>match v with|⟨a0,a1,a2,a3,a4,a5,a6,a7,a8,a9,a10,a11,a12,a13,a14,a15⟩=>⟨a0,a1,a2,a3,a4,a5,a6,some x,a8,a9,a10,a11,a12,a13,a14,a15⟩⟩
 | 8=>⟨fun v=>v.a8,fun v x=>match v with|⟨a0,a1,a2,a3,a4,a5,a6,a7,a8,a9,a10,a11,a12,a13,a14,a15⟩=>⟨a0,a1,a2,a3,a4,a5,a6,a7,some x,a9,a10,a11,a12,a13,a14,a15⟩⟩
 | 9=>⟨fun v=>v.a9,fun v x=>match v with|⟨a0,a1,a2,a3,a4,a5,a6,a7,a8,a9,a10,a11,a12,a13,a14,a15⟩=>⟨a0,a1,a2,a3,a4,a5,a6,a7,a8,some x,a10,a11,a12,a13,a14,a15⟩⟩
 | 10=>⟨fun v=>v.a10,fun v x=>match v with|⟨a0,a1,a2,a3,a4,a5,a6,a7,a8,a9,a10,a11,a12,a13,a14,a15⟩=>⟨a0,a1,a2,a3,a4,a5,a6,a7,a8,a9,some x,a11,a12,a13,a14,a15⟩⟩
 | 11=>⟨fun v=>v.a11,fun v x=>match v with|⟨a0,a1,a2,a3,a4,a5,a6,a7,a8,a9,a10,a11,a12,a13,a14,a15⟩=>⟨a0,a1,a2,a3,a4,a5,a6,a7,a8,a9,a10,some x,a12,a13,a14,a15⟩⟩
 | 12=>⟨fun v=>v.a12,fun v x=>match v with|⟨a0,a1,a2,a3,a4,a5,a6,a7,a8,a9,a10,a11,a12,a13,a14,a15⟩=>⟨a0,a1,a2,a3,a4,a5,a6,a7,a8,a9,a10,a11,some x,a13,a14,a15⟩⟩
 | 13=>⟨fun v=>v.a13,fun v x=>match v with|⟨a0,a1,a2,a3,a4,a5,a6,a7,a8,a9,a10,a11,a12,a13,a14,a15⟩=>⟨a0,a1,a2,a3,a4,a5,a6,a7,a8,a9,a10,a11,a12,some x,a14,a15⟩⟩
 | 14=>⟨fun v=>v.a14,fun v x=>match v with|⟨a0,a1,a2,a3,a4,a5,a6,a7,a8,a9,a10,a11,a12,a13,a14,a15⟩=>⟨a0,a1,a2,a3,a4,a5,a6,a7,a8,a9,a10,a11,a12,a13,some x,a15⟩⟩
 | 15=>⟨fun v=>v.a15,fun v x=>match v with|⟨a0,a1,a2,a3,a4,a5,a6,a7,a8,a9,a10,a11,a12,a13,a14,a15⟩=>⟨a0,a1,a2,a3,a4,a5,a6,a7,a8,a9,a10,a11,a12,a13,a14,some x⟩⟩
 | _=>⟨fun _=>none,fun v _=>v⟩
def Dp (j:Nat) (l:Ek):UE:=match j with
 | 0=>⟨fun e=>l.g e.b0,fun e x=>match e with|⟨b0,b1,b2,b3,b4,b5,b6,b7,b8,b9,b10,b11,b12,b13,b14,b15⟩=>⟨l.s b0 x,b1,b2,b3,b4,b5,b6,b7,b8,b9,b10,b11,b12,b13,b14,b15⟩⟩
 | 1=>⟨fun e=>l.g e.b1,fun e x=>match e with|⟨b0,b1,b2,b3,b4,b5,b6,b7,b8,b9,b10,b11,b12,b13,b14,b15⟩=>⟨b0,l.s b1 x,b2,b3,b4,b5,b6,b7,b8,b9,b10,b11,b12,b13,b14,b15⟩⟩
 | 2=>⟨fun e=>l.g e.b2,fun e x=>match e with|⟨b0,b1,b2,b3,b4,b5,b6,b7,b8,b9,b10,b11,b12,b13,b14,b15⟩=>⟨b0,b1,l.s b2 x,b3,b4,b5,b6,b7,b8,b9,b10,b11,b12,b13,b14,b15⟩⟩
 | 3=>⟨fun e=>l.g e.b3,fun e x=>match e with|⟨b0,b1,b2,b3,b4,b5,b6,b7,b8,b9,b10,b11,b12,b13,b14,b15⟩=>⟨b0,b1,b2,l.s b3 x,b4,b5,b6,b7,b8,b9,b10,b11,b12,b13,b14,b15⟩⟩
 | 4=>⟨fun e=>l.g e.b4,fun e x=>match e with|⟨b0,b1,b2,b3,b4,b5,b6,b7,b8,b9,b10,b11,b12,b13,b14,b15⟩=>⟨b0,b1,b2,b3,l.s b4 x,b5,b6,b7,b8,b9,b10,b11,b12,b13,b14,b15⟩⟩
 | 5=>⟨fun e=>l.g e.b5,fun e x=>match e with|⟨b0,b1,b2,b3,b4,b5,b6,b7,b8,b9,b10,b11,b12,b13,b14,b15⟩=>⟨b0,b1,b2,b3,b4,l.s b5 x,b6,b7,b8,b9,b10,b11,b12,b13,b14,b15⟩⟩
 | 6=>⟨fun e=>l.g e.b6,fun e x=>match e with|⟨b0,b1,b2,b3,b4,b5,b6,b7,b8,b9,b10,b11,b12,b13,b14,b15⟩=>⟨b0,b1,b2,b3,b4,b5,l.s b6 x,b7,b8,b9,b10,b11,b12,b13,b14,b15⟩⟩
 | 7=>⟨fun e=>l.g e.b7,fun e x=>match e with|⟨b0,b1,b2,b3,b4,b5,b6,b7,b8,b9,b10,b11,b12,b13,b14,b15⟩=>⟨b0,b1,b2,b3,b4,b5,b6,l.s b7 x,b8,b9,b10,b11,b12,b13,b14,b15⟩⟩
 | 8=>⟨fun e=>l.g e.b8,fun e x=>match e with|⟨b0,b1,b2,b3,b4,b5,b6,b7,b8,b9,b10,b11,b12,b13,b14,b15⟩=>⟨b0,b1,b2,b3,b4,b5,b6,b7,l.s b8 x,b9,b10,b11,b12,b13,b14,b15⟩⟩
 | 9=>⟨fun e=>l.g e.b9,fun e x=>match e with|⟨b0,b1,b2,b3,b4,b5,b6,b7,b8,b9,b10,b11,b12,b13,b14,b15⟩=>⟨b0,b1,b2,b3,b4,b5,b6,b7,b8,l.s b9 x,b10,b11,b12,b13,b14,b15⟩⟩
 | 10=>⟨fun e=>l.g e.b10,fun e x=>match e with|⟨b0,b1,b2,b3,b4,b5,b6,b7,b8,b9,b10,b11,b12,b13,b14,b15⟩=>⟨b0,b1,b2,b3,b4,b5,b6,b7,b8,b9,l.s b10 x,b11,b12,b13,b14,b15⟩⟩
 | 11=>⟨fun e=>l.g e.b11,fun e x=>match e with|⟨b0,b1,b2,b3,b4,b5,b6,b7,b8,b9,b10,b11,b12,b13,b14,b15⟩=>⟨b0,b1,b2,b3,b4,b5,b6,b7,b8,b9,b10,l.s b11 x,b12,b13,b14,b15⟩⟩
 | 12=>⟨fun e=>l.g e.b12,fun e x=>match e with|⟨b0,b1,b2,b3,b4,b5,b6,b7,b8,b9,b10,b11,b12,b13,b14,b15⟩=>⟨b0,b1,b2,b3,b4,b5,b6,b7,b8,b9,b10,b11,l.s b12 x,b13,b14,b15⟩⟩
 | 13=>⟨fun e=>l.g e.b13,fun e x=>match e with|⟨b0,b1,b2,b3,b4,b5,b6,b7,b8,b9,b10,b11,b12,b13,b14,b15⟩=>⟨b0,b1,b2,b3,b4,b5,b6,b7,b8,b9,b10,b11,b12,l.s b13 x,b14,b15⟩⟩
 | 14=>⟨fun e=>l.g e.b14,fun e x=>match e with|⟨b0,b1,b2,b3,b4,b5,b6,b7,b8,b9,b10,b11,b12,b13,b14,b15⟩=>⟨b0,b1,b2,b3,b4,b5,b6,b7,b8,b9,b10,b11,b12,b13,l.s b14 x,b15⟩⟩
 | 15=>⟨fun e=>l.g e.b15,fun e x=>match e with|⟨b0,b1,b2,b3,b4,b5,b6,b7,b8,b9,b10,b11,b12,b13,b14,b15⟩=>⟨b0,b1,b2,b3,b4,b5,b6,b7,b8,b9,b10,b11,b12,b13,b14,l.s b15 x⟩⟩
 | _=>⟨fun _=>none,fun e _=>e⟩
def pp (s:Nat):UE:=Dp (Nat.div s 16) (D8 (Nat.mod s 16))
theorem EO {i:Nat}(h:i<16):i=0∨i=1∨i=2∨i=3∨i=4∨i=5∨i=6∨i=7∨i=8∨i=9∨i=10∨i=11∨i=12∨i=13∨i=14∨i=15:=by omega
theorem KU {i:Nat}(h:i<16) (v:V16) (x:AV):(D8 i).g ((D8 i).s v x)=some x:=by
 rcases EO h with rfl|rfl|rfl|rfl|rfl|rfl|rfl|rfl|rfl|rfl|rfl|rfl|rfl|rfl|rfl|rfl<;>rfl
theorem HJ {i j:Nat}(h:i<16) (hj:j<16) (e:i≠j) (v:V16) (x:AV):(D8 i).g ((D8 j).s v x)=(D8 i).g v:=by
 rcases EO h with rfl|rfl|rfl|rfl|rfl|rfl|rfl|rfl|rfl|rfl|rfl|rfl|rfl|rfl|rfl|rfl<;>rcases EO hj with rfl|rfl|rfl|rfl|rfl|rfl|rfl|rfl|rfl|rfl|rfl|rfl|rfl|rfl|rfl|rfl<;>first|exact absurd rfl e|rfl
def Oz (j:Nat) (e:E16):V16:=match j with
 | 0=>e.b0
 | 1=>e.b1
 | 2=>e.b2
 | 3=>e.b3
 | 4=>e.b4
 | 5=>e.b5
 | 6=>e.b6
 | 7=>e.b7
 | 8=>e.b8
 | 9=>e.b9
 | 10=>e.b10
 | 11=>e.b11
 | 12=>e.b12
 | 13=>e.b13
 | 14=>e.b14
 | 15=>e.b15
 | _=>v0
theorem L9 {j:Nat}(h:j<16) (l:Ek) (e:E16):(Dp j l).g e=l.g (Oz j e):=by
 rcases EO h with rfl|rfl|rfl|rfl|rfl|rfl|rfl|rfl|rfl|rfl|rfl|rfl|rfl|rfl|rfl|rfl<;>rfl
theorem On {j:Nat}(h:j<16) (m:Ek) (e:E16) (x:AV):Oz j ((Dp j m).s e x)=m.s (Oz j e) x:=by
 rcases EO h with rfl|rfl|rfl|rfl|rfl|rfl|rfl|rfl|rfl|rfl|rfl|rfl|rfl|rfl|rfl|rfl<;>rfl
theorem K4 {j k:Nat}(h:j<16) (hk:k<16) (ne:j≠k) (m:Ek) (e:E16) (x:AV):Oz j ((Dp k m).s e x)=Oz j e:=by
 rcases EO h with rfl|rfl|rfl|rfl|rfl|rfl|rfl|rfl|rfl|rfl|rfl|rfl|rfl|rfl|rfl|rfl<;>rcases EO hk with rfl|rfl|rfl|rfl|rfl|rfl|rfl|rfl|rfl|rfl|rfl|rfl|rfl|rfl|rfl|rfl<;>first|exact absurd rfl ne|rfl
theorem yd {j:Nat}(h:¬ j<16) (l:Ek):Dp j l=⟨fun _=>none,fun e _=>e⟩:=by
 unfold Dp
 split<;>first|(exfalso;omega)|rfl
theorem Qj {k d:Nat}{e:E16}{x v:AV}(h:(pp k).g ((pp d).s e x)=some v):(k=d∧v=x)∨(k≠d∧(pp k).g e=some v):=by
 unfold pp at *
 have hk:Nat.mod k 16<16:=Nat.mod_lt _ (by omega)
 have hd:Nat.mod d 16<16:=Nat.mod_lt _ (by omega)
 by_cases hK:Nat.div k 16<16
 ·by_cases hD:Nat.div d 16<16
  ·rw[L9 hK]at h ⊢
   by_cases e1:Nat.div k 16=Nat.div d 16
   ·rw[e1]at h ⊢
    rw[On hD]at h
    by_cases e2:Nat.mod k 16=Nat.mod d 16
    ·rw[e2,KU hd]at h
     cases h
     refine .inl ⟨?_,rfl⟩
     have a1:k / 16=d / 16:=e1
     have a2:k%16=d%16:=e2
     omega
    ·rw[HJ hk hd e2]at h
     exact .inr ⟨fun e=>e2 (by rw[e]),h⟩
   ·rw[K4 hK hD e1]at h
    exact .inr ⟨fun e=>e1 (by rw[e]),h⟩
  ·rw[yd hD]at h
   exact .inr ⟨fun e=>hD (by rw[← e];exact hK),h⟩
 ·rw[yd hK]at h
  cases h
theorem Sk (k:Nat):(pp k).g ee0=none:=by
 unfold pp
 have hk:Nat.mod k 16<16:=Nat.mod_lt _ (by omega)
 by_cases hK:Nat.div k 16<16
 ·rw[L9 hK]
  have:Oz (Nat.div k 16) ee0=v0:=by rcases EO hK with h|h|h|h|h|h|h|h|h|h|h|h|h|h|h|h<;>rw[h]<;>rfl
  rw[this]
  rcases EO hk with h|h|h|h|h|h|h|h|h|h|h|h|h|h|h|h<;>rw[h]<;>rfl
 ·rw[yd hK]
end
section
abbrev ET:=E16
abbrev jZ:=FuncId→List AV→HT→Nat→(AV→HT→Nat→Bool)→Bool
structure ClX where
 f:ET→(AV→Bool)→Bool
structure ClL where
 f:ET→(List AV→Bool)→Bool
structure ClP where
 f:ET→(Option AV→Bool)→Bool
structure ClO where
 f:jZ→ET→HT→Nat→(AV→HT→Nat→Bool)→Bool
def oM (o:Option AV) (K:AV→Bool):Bool:=match o with|some v=>K v|none=>false
def eA (x:Operand):ClX:=match x with
 | .tmp s=>⟨fun e K=>oM ((pp s).g e) K⟩
 | .const v=>match okV v with
   | true=>⟨fun _ K=>K (ofV v)⟩
   | false=>⟨fun _ _=>false⟩
 | .global _=>⟨fun _ _=>false⟩
 | .func f=>⟨fun _ K=>K (.fn (.func f) [] [])⟩
def oN (l:List Operand):ClL:=match l with
 | []=>⟨fun _ K=>K []⟩
 | x::xs=>⟨fun e K=>(eA x).f e fun v=>(oN xs).f e fun vs=>K (v::vs)⟩
def tM (x:Option Operand):ClP:=match x with
 | none=>⟨fun _ K=>K none⟩
 | some x=>⟨fun e K=>(eA x).f e fun v=>K (some v)⟩
def noO:ClO:=⟨fun _ _ _ _ _=>false⟩
def q1 (x:Operand) (g:AV→(AV→Bool)→Bool):ClO:=⟨fun _ e t n K=>(eA x).f e fun v=>g v fun r=>K r t n⟩
def q1t (x:Operand) (g:AV→HT→(AV→Bool)→Bool):ClO:=⟨fun _ e t n K=>(eA x).f e fun v=>g v t fun r=>K r t n⟩
def q2 (x y:Operand) (g:AV→AV→(AV→Bool)→Bool):ClO:=⟨fun _ e t n K=>(eA x).f e fun v=>(eA y).f e fun u=>g v u fun r=>K r t n⟩
def q2t (x y:Operand) (g:AV→AV→HT→(AV→Bool)→Bool):ClO:=⟨fun _ e t n K=>(eA x).f e fun v=>(eA y).f e fun u=>g v u t fun r=>K r t n⟩
def e1 (x:Operand) (g:AV→HT→Nat→(AV→HT→Nat→Bool)→Bool):ClO:=⟨fun _ e t n K=>(eA x).f e fun v=>g v t n K⟩
def e2 (x y:Operand) (g:AV→AV→HT→Nat→(AV→HT→Nat→Bool)→Bool):ClO:=⟨fun _ e t n K=>(eA x).f e fun v=>(eA y).f e fun u=>g v u t n K⟩
def s2 (x y:Operand) (g:AV→AV→HT→Nat→(HT→Nat→Bool)→Bool):ClO:=⟨fun _ e t n K=>(eA x).f e fun v=>(eA y).f e fun u=>g v u t n fun t n=>K (.tup []) t n⟩
def s3 (x y z:Operand) (g:AV→AV→AV→HT→Nat→(HT→Nat→Bool)→Bool):ClO:=⟨fun _ e t n K=>(eA x).f e fun v=>(eA y).f e fun u=>(eA z).f e fun w=>g v u w t n fun t n=>K (.tup []) t n⟩
def Tz (c a b:AV) (K:AV→Bool):Bool:=match c with|.lit (.bool true)=>K a|.lit (.bool false)=>K b|_=>false
def K0 (P:Program) (t:TypeId) (is:List Nat) (xs:List Operand):ClO:=
 match P.underlying t,P.info? t with
 | some (.struct fs),some i=>(match i.zero,g8 P fs.toList with
   | some z,some l=>(match okV z with
     | true=>⟨fun _ e t n K=>(oN xs).f e fun vs=>match vC (fun j=>l[j]?) (is.zip vs) with|some qs=>JV (ofV z).cells qs fun r=>K r t n|none=>false⟩
     | false=>noO)
   | _,_=>noO)
 | _,_=>noO
def tz (P:Program) (t:TypeId) (m:Nat) (is:List Nat) (xs:List Operand):ClO:=
 match P.underlying t with
 | some (.slice e)=>(match P.info? e with
   | some i=>(match i.zero with
     | some _=>(match is==List.range m&&decide (m*i.size≤16777216) with
       | true=>⟨fun _ e t n K=>(oN xs).f e fun vs=>rN m i.size vs fun r=>K r t n⟩
       | false=>noO)
     | none=>noO)
   | none=>noO)
 | _=>noO
def TE (P:Program) (t:TypeId) (x:Operand):ClO:=
 match P.underlying t,P.info? t with
 | some d,some i=>(match j9 d with|true=>q1t x (BH i.size)|false=>q1t x BX)
 | _,_=>noO
def UQ (P:Program) (op:BinOp) (t:TypeId) (x y:Operand):ClO:=
 match P.underlying t with
 | some .bool=>q2 x y (Q0 op)
 | some (.pointer _)=>q2 x y (Rq op)
 | some (.int _)=>q2 x y (Q5 op)
 | some .string=>q2 x y (Q5 op)
 | some (.float _)=>q2 x y (Q5 op)
 | _=>noO
def Tp (P:Program) (s d:TypeId) (x:Operand):ClO:=
 match P.underlying s,P.underlying d with
 | some (.int _),some (.int k)=>q1 x (EB k)
 | some (.int _),some (.float k)=>q1 x (FX k)
 | some .string,some .string=>q1 x EQ
 | _,_=>noO
def O3 (P:Program) (t:TypeId) (x:Operand) (lo hi mx:Option Operand):ClO:=
 match P.underlying t,mx with
 | some .string,none=>⟨fun _ e t n K=>(eA x).f e fun v=>(tM lo).f e fun l=>(tM hi).f e fun u=>Fk v l u fun r=>K r t n⟩
 | some (.slice el),none=>(match P.info? el with|some i=>⟨fun _ e t n K=>(eA x).f e fun v=>(tM lo).f e fun l=>(tM hi).f e fun u=>FR i.size v l u fun r=>K r t n⟩|none=>noO)
 | some (.slice el),some m=>⟨fun _ e t n K=>(eA x).f e fun v=>(tM lo).f e fun l=>(tM hi).f e fun u=>(eA m).f e fun mv=>(match P.info? el,l,u,mv with|some _,none,some (.lit (.int _ 0)),.lit (.int _ 0)=>Fa v fun r=>K r t n|_,_,_,_=>false)⟩
 | _,_=>noO
def Cp (P:Program) (t:TypeId) (x:Operand) (f:Nat):ClO:=
 match P.underlying t with
 | some (.struct fs)=>(match fs[f]? with
   | some fd=>(match P.info? fd.type with|some i=>(match i.size with|0=>noO|_+1=>q1 x (vH fd.offset))|none=>noO)
   | none=>noO)
 | _=>noO
def Ts (P:Program) (t:TypeId) (off:Nat) (x:Operand):ClO:=
 match P.underlying t,P.info? t with
 | some d,some i=>(match j9 d with|true=>q1 x (J4 off i.size)|false=>q1 x (Li off))
 | _,_=>noO
def QP (P:Program) (t:TypeId) (x:Operand) (f:Nat):ClO:=
 match P.underlying t with
 | some (.struct fs)=>(match fs[f]? with|some fd=>Ts P fd.type fd.offset x|none=>noO)
 | _=>noO
def BN (P:Program) (t:TypeId) (x i:Operand):ClO:=
 match P.underlying t with
 | some (.slice e)=>(match P.info? e with|some ei=>q2 x i (vT ei.size)|none=>noO)
 | some (.array m e)=>(match P.info? e with|some ei=>q2 x i (oC m ei.size)|none=>noO)
 | _=>noO
def PL (P:Program) (t:TypeId) (x i:Operand):ClO:=
 match P.underlying t with
 | some .string=>q2 x i FA
 | _=>noO
def U1 (P:Program) (t:TypeId) (x:Operand):ClO:=
 match P.underlying t with
 | some .string=>q1 x RM
 | some (.slice _)=>q1 x Qi
 | some (.map _ _)=>q1t x Rb
 | _=>noO
def Mj (P:Program) (t t2:TypeId) (x y:Operand):ClO:=
 match P.underlying t,P.underlying t2 with
 | some (.slice e),some d2=>(match P.info? e with
   | some i=>(match P8 i d2 with|true=>e2 x y (Fs i.size i.bytes)|false=>noO)
   | none=>noO)
 | _,_=>noO
def UT (P:Program) (t:TypeId):ClO:=
 match P.info? t with
 | some i=>(match i.zero with|some z=>(match okV z with|true=>⟨fun _ _ t n K=>R6 (ofV z).cells t n K⟩|false=>noO)|none=>noO)
 | none=>noO
def Py (P:Program) (t:TypeId) (x u:Operand):ClO:=
 match P.info? t with
 | some i=>s2 x u (Lo i.size)
 | none=>noO
def Qa (P:Program) (t:TypeId) (x:Operand):ClO:=
 match P.underlying t with
 | some (.interface _)=>noO
 | some _=>q1 x (Kk t)
 | none=>noO
def To (c:jZ) (v:AV) (vs:List AV) (t:HT) (n:Nat) (K:AV→HT→Nat→Bool):Bool:=
 match v with
 | .fn (.func f) fi ca=>c f (fi++vs++ca) t n K
 | _=>false
def RD (P:Program) (c:Call):ClO:=match c.callee with
 | .value f=>⟨fun call e t n K=>(oN c.args.toList).f e fun vs=>(eA f).f e fun v=>To call v vs t n K⟩
 | .builtin .len=>(match c.args.toList,c.argTypes.toList with|[x],[t]=>U1 P t x|_,_=>noO)
 | .builtin .append=>(match c.args.toList,c.argTypes.toList with|[x,y],[t,t2]=>Mj P t t2 x y|_,_=>noO)
 | .builtin .max=>(match c.args.toList with|[x,y]=>q2 x y Uw|_=>noO)
 | .builtin .min=>(match c.args.toList with|[x,y]=>q2 x y TS|_=>noO)
 | _=>noO
def O5 (P:Program) (op:Op):ClO:=match op with
 | .move x=>⟨fun _ e t n K=>(eA x).f e fun v=>K v t n⟩
 | .assign x=>⟨fun _ e t n K=>(eA x).f e fun v=>K v t n⟩
 | .pick c a b=>⟨fun _ e t n K=>(eA c).f e fun cv=>(eA a).f e fun av=>(eA b).f e fun bv=>Tz cv av bv fun r=>K r t n⟩
 | .alloc e=>UT P e
 | .box _ x=>e1 x UA
 | .build t ps=>K0 P t (ps.toList.map (·.1)) (ps.toList.map (·.2))
 | .buildSlice t m ps=>tz P t m (ps.toList.map (·.1)) (ps.toList.map (·.2))
 | .load t x=>TE P t x
 | .store t x u=>Py P t x u
 | .nilCheck x=>q1 x Uc
 | .binOp op t x y _=>UQ P op t x y
 | .unOp op _ x=>q1 x (tUn op)
 | .convert s d x=>Tp P s d x
 | .makeInterface t x=>Qa P t x
 | .makeFunc f fi ca=>⟨fun _ e t n K=>(oN fi.toList).f e fun vs=>(oN ca.toList).f e fun ws=>K (.fn f vs ws) t n⟩
 | .slice t x lo hi mx=>O3 P t x lo hi mx
 | .fieldAddr t x f=>Cp P t x f
 | .field t x f=>QP P t x f
 | .indexAddr t x i=>BN P t x i
 | .index t x i=>PL P t x i
 | .extract x i=>q1 x (Cf i)
 | .call c=>RD P c
 | _=>noO
def L4 (P:Program) (t:TypeId) (g:TypeDesc→Value→ClO):ClO:=
 match P.underlying t with
 | some (.map kt et)=>(match P.underlying kt,P.info? et with
   | some d,some i=>(match i.zero with|some z=>(match okV z with|true=>g d z|false=>noO)|none=>noO)
   | _,_=>noO)
 | _=>noO
def G6 (P:Program) (t:TypeId) (g:TypeDesc→ClO):ClO:=
 match P.underlying t with
 | some (.map kt _)=>(match P.underlying kt with|some d=>g d|none=>noO)
 | _=>noO
def Ma (P:Program) (op:BinOp) (t:TypeId) (x y:Operand):ClO:=
 match P.underlying t,y with
 | some (.slice _),.const (.slice none 0 0)=>q1 x (EP op)
 | some (.map _ _),.const (.map none)=>q1 x (FS op)
 | some (.interface _),.const .nilIface=>q1 x (FU op)
 | some (.func _ _ _),.const .nilFunc=>q1 x (EJ op)
 | _,_=>noO
def Rm (P:Program) (op:Op):ClO:=match op with
 | .makeMap _ none=>⟨fun _ _ t n K=>BZ t n K⟩
 | .lookup t x i ok=>L4 P t fun d z=>q2t x i (EC d ok (ofV z))
 | .mapUpdate t m k v=>G6 P t fun d=>s3 m k v (rk d)
 | .insert t m k v=>G6 P t fun d=>s3 m k v (rk d)
 | .mapEntry t m k=>L4 P t fun d z=>e2 m k (xD d (ofV z))
 | .entryStore t m s v=>s3 m s v tj
 | .range t x=>(match P.underlying t with
   | some .string=>e1 x F3
   | some (.map _ _)=>e1 x Gr
   | _=>noO)
 | .next x b=>(match b with|true=>e1 x K3|false=>e1 x Lk)
 | .entry x=>q1t x Ll
 | .makeSlice t l c=>(match P.underlying t with
   | some (.slice e)=>(match P.info? e with
     | some i=>(match i.zero with|some z=>(match i.size==1&&z.oneCell' with|true=>e2 l c (vk i.bytes (Bm z))|false=>noO)|none=>noO)
     | none=>noO)
   | _=>noO)
 | .convert s d x=>(match P.underlying s,P.underlying d with
   | some (.slice e),some .string=>(match tY P e with|true=>q1t x xL|false=>noO)
   | some .string,some (.slice e)=>(match tY P e with|true=>e1 x yp|false=>noO)
   | _,_=>noO)
 | .binOp op t x y _=>(match P.underlying t with
   | some (.struct fs)=>(match sq P fs.toList 0 with
     | some ds=>(match !P.stoodInHeld t&&!P.eqGuardType P.depth t with|true=>q2 x y (Up op ds)|false=>noO)
     | none=>noO)
   | _=>Ma P op t x y)
 | .call c=>(match c.callee with
   | .builtin .delete=>(match c.args.toList,c.argTypes.toList with
     | [m,k],t::_=>G6 P t fun d=>s2 m k (FD d)
     | _,_=>noO)
   | _=>noO)
 | _=>noO
def OS (P:Program) (op:Op):ClO:=match y1 P op with
 | true=>Rm P op
 | false=>O5 P op
def NV:List UInt8→UInt8→Nat→Int
 | [],_,_=>.negSucc 0
 | b::l,c,i=>@Bool.casesOn (fun _=>Int) (uEq b c) (NV l c (Nat.succ i)) (.ofNat i)
def Np:List UInt8→UInt8→Nat→Nat
 | [],_,n=>n
 | b::l,c,n=>Np l c (@Bool.casesOn (fun _=>Nat) (uEq b c) n (Nat.succ n))
def TY (e:Ext) (vs:List AV) (K:AV→Bool):Bool:=
 match e,vs with
 | .index,[.lit (.string s),.lit (.int .u8 c)]=>fI (NV s.data.toList c.toNat.toUInt8 0) fun r=>K (I r)
 | .count,[.lit (.string s),.lit (.int .u8 c)]=>fN (Np s.data.toList c.toNat.toUInt8 0) fun r=>K (I (.ofNat r))
 | .bits,[.lit (.float .f64 b)]=>K (.lit (.int .u64 (.ofNat b)))
 | .frombits,[.lit (.int .u64 n)]=>fN n.toNat fun m=>K (.lit (.float .f64 m))
 | _,_=>false
def SC (m n:Nat):Nat:=@Bool.casesOn (fun _=>Nat) (Nat.ble m n) n m
def Qp (size:Nat) (v x:AV) (t:HT) (n:Nat) (K:AV→HT→Nat→Bool):Bool:=
 match Bp t size x with
 | none=>false
 | some (m,xs)=>match v with
   | .sl i off len sz=>(match t.get i with
     | some (.cells cs)=>decide (sz=size∧off+len*size≤cs.length∧xs.all AV.one=true)&&fN (SC m len) fun l=>K (I (.ofNat l)) (t.set (.cells (splice cs off (xs.take (l*size)))) i) n
     | _=>false)
   | .full n0 _=>bA (Nat.beq (SC m n0) 0) (K (I 0) t n)
   | .snap n0 _=>bA (Nat.beq (SC m n0) 0) (K (I 0) t n)
   | _=>false
def Jt (size:Nat) (u v:AV) (t:HT) (n:Nat) (K:HT→Nat→Bool):Bool:=
 match v with
 | .sl i off len sz=>(match t.get i with
   | some (.cells cs)=>decide (u.isTup=false∧u.cells.length=size∧sz=size∧off+len*size≤cs.length∧u.cells.all AV.one=true)&&K (t.set (.cells (splice cs off (List.replicate len u.cells).flatten)) i) n
   | _=>false)
 | .full 0 _=>K t n
 | .snap 0 _=>K t n
 | _=>false
def Mb (P:Program) (ts:Array TypeId) (K:Value→TypeInfo→ClO):ClO:=
 match ts.toList with
 | t::_=>(match P.underlying t with
   | some (.slice e)=>(match P.info? e with
     | some i=>(match i.zero with|some z=>(match okV z with|true=>K z i|false=>noO)|none=>noO)
     | none=>noO)
   | _=>noO)
 | _=>noO
abbrev nO:=Nat→Option (List AV)
def QO (P:Program) (t:TypeId) (cs:List AV):ClO:=
 match P.underlying t,P.info? t with
 | some d,some i=>(match j9 d with|true=>⟨fun _ _ t n K=>BH i.size (.cptr cs) t fun r=>K r t n⟩|false=>⟨fun _ _ t n K=>BX (.cptr cs) t fun r=>K r t n⟩)
 | _,_=>noO
def JC (P:Program) (tb:nO) (op:Op):ClO:=match op with
 | .call c=>(match c.callee with
   | .value (.func f)=>(match Il P f with
     | some x=>⟨fun _ e t n K=>(oN c.args.toList).f e fun vs=>TY x vs fun r=>K r t n⟩
     | none=>noO)
   | .builtin .copy=>Mb P c.argTypes fun _ i=>(match c.args.toList with|[x,y]=>e2 x y (Qp i.size)|_=>noO)
   | .builtin .clear=>Mb P c.argTypes fun z i=>(match c.args.toList with|[x]=>⟨fun _ e t n K=>(eA x).f e fun v=>Jt i.size (ofV z) v t n fun t n=>K (.tup []) t n⟩|_=>noO)
   | _=>noO)
 | .indexAddr t (.global g) i=>(match tb g with
   | some cs=>(match P.underlying t with
     | some (.array m e)=>(match P.info? e with|some ei=>q1 i fun iv=>oC m ei.size (.cptr cs) iv|none=>noO)
     | _=>noO)
   | none=>noO)
 | .load t (.global g)=>(match tb g with
   | some cs=>QO P t cs
   | none=>noO)
 | _=>noO
def y0 (P:Program) (tb:nO) (op:Op):ClO:=match isX P op with
 | true=>JC P tb op
 | false=>OS P op
def ER (e:ET) (env:Env):Prop:=∀ k v,(pp k).g e=some v→AL.get env k=some v
theorem ER.put {e:ET}{env:Env}(r:ER e env) (d:Nat) (v:AV):ER ((pp d).s e v) ((d,v)::env):=fun k u h=>by
 simp only[AL.get]
 rcases Qj h with ⟨rfl,rfl⟩|⟨hn,h⟩
 ·rw[if_pos rfl]
 ·rw[if_neg (Ne.symm hn)];exact r k u h
theorem bq {e:ET}{env:Env}(r:ER e env) {x:Operand}{K:AV→Bool}(k:(eA x).f e K=true):∃ v,opv env x=some v∧K v=true:=by
 cases x with
 | tmp s=>
   simp only[eA,oM]at k
   split at k
   ·rename_i v hv;exact⟨v,by rw[opv];exact r s v hv,k⟩
   ·cases k
 | const v=>
   simp only[eA]at k
   cases h:okV v
   ·rw[h]at k;cases k
   ·rw[h]at k;exact⟨_,by simp[opv,h],k⟩
 | global g=>cases k
 | func f=>exact⟨_,rfl,k⟩
theorem jC {e:ET}{env:Env}(r:ER e env):∀ {xs:List Operand}{K:List AV→Bool},(oN xs).f e K=true→∃ vs,i3 env xs=some vs∧K vs=true
 | [],K,k=>⟨[],rfl,k⟩
 | x::xs,K,k=>by
   simp only[oN]at k
   obtain⟨v,h1,k⟩:=bq r k
   obtain⟨vs,h2,k⟩:=jC r k
   exact⟨_,by simp[i3,h1,h2],k⟩
theorem m7 {e:ET}{env:Env}(r:ER e env) {x:Option Operand}{K:Option AV→Bool}(k:(tM x).f e K=true):∃ v,zz env x=some v∧K v=true:=by
 cases x with
 | none=>exact⟨none,rfl,k⟩
 | some x=>
   simp only[tM]at k
   obtain⟨v,h1,k⟩:=bq r k
   exact⟨some v,by simp[zz,h1],k⟩
