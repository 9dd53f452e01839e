import Derived.Test.YtbhphjpgjgigpaaGreatDoorAL13toAL19
import Derived.IntWalk
import Derived.Test.YtbhphjpgjgigpaaGreatDoorAL10mtoAL13v
set_option linter.all false
set_option autoImplicit true
set_option relaxedAutoImplicit true
set_option maxRecDepth 100000
namespace Go.Proofs.YtbhphjpgjgigpaaGreatDoor.AL
noncomputable section
section
def UK (op:BinOp) (x y:AV) (K:AV→Bool):Bool:=
 match x,y with
 | .lit a,.lit b=>(match ck op a b with|some r=>K (.lit r)|none=>false)
 | _,_=>false
def On (op:BinOp) (x y:AV) (K:AV→Bool):Bool:=
 match x,y with
 | .lit (.bool a),.lit (.bool b)=>(match op with|.eql=>K (B (a==b))|.neq=>K (B (!(a==b)))|_=>false)
 | _,_=>false
def QI (op:BinOp) (x y:AV) (K:AV→Bool):Bool:=
 match x,y with
 | .ptr _ _,.lit (.pointer none)=>(match op with|.eql=>K (B false)|.neq=>K (B true)|_=>false)
 | .lit (.pointer none),.lit (.pointer none)=>(match op with|.eql=>K (B true)|.neq=>K (B false)|_=>false)
 | _,_=>false
def bUn (op:UnOp) (x:AV) (K:AV→Bool):Bool:=
 match op,x with
 | .neg,.lit (.int k n)=>K (.lit (.int k (k.wrap (0-n))))
 | .xor,.lit (.int k n)=>K (.lit (.int k (k.wrap ((BitVec.ofInt k.bits (if k.signed then -1 else k.max) ^^^ BitVec.ofInt k.bits n).toNat:Int))))
 | .not,.lit (.bool b)=>K (B !b)
 | .neg,.lit (.float k b)=>K (.lit (.float k (Op.negFloat k b)))
 | _,_=>false
def Ff (x:AV) (K:AV→Bool):Bool:=match x with|.lit (.string s)=>K (S s)|_=>false
def TK (v:AV) (K:AV→Bool):Bool:=match v with|.ptr i o=>K (.ptr i o)|.cptr cs=>K (.cptr cs)|.fn (.func f) fi ca=>K (.fn (.func f) fi ca)|_=>false
def TY (off:Nat) (v:AV) (K:AV→Bool):Bool:=match v with|.ptr i o=>K (.ptr i (o+off))|.cptr cs=>K (.cptr (cs.drop off))|_=>false
def UE (n:Nat) (v:AV) (h:ab) (K:AV→Bool):Bool:=match pN h n v with|some l=>K (.agg l)|none=>false
def UB (v:AV) (h:ab) (K:AV→Bool):Bool:=match pN h 1 v with|some [a]=>K a|_=>false
def JM (off n:Nat) (v:AV) (K:AV→Bool):Bool:=match v with|.agg cs=>K (.agg ((cs.drop off).take n))|_=>false
def K0 (off:Nat) (v:AV) (K:AV→Bool):Bool:=match v with|.agg cs=>(match cs[off]? with|some a=>K a|none=>false)|_=>false
def Tv (size:Nat) (v i:AV) (K:AV→Bool):Bool:=
 match asI i with
 | none=>false
 | some n=>match v with
   | .sl j off len sz=>decide (0≤n∧n<len∧sz=size)&&K (.ptr j (off+n.toNat*size))
   | .snap m cs=>decide (0≤n∧n<m)&&K (.cptr (cs.drop (n.toNat*size)))
   | .full m cs=>decide (0≤n∧n<m)&&K (.cptr (cs.drop (n.toNat*size)))
   | _=>false
def nS (len size:Nat) (v i:AV) (K:AV→Bool):Bool:=
 match asI i with
 | none=>false
 | some n=>match v with
   | .ptr j off=>decide (0≤n∧n<len)&&K (.ptr j (off+n.toNat*size))
   | .cptr cs=>decide (0≤n∧n<len)&&K (.cptr (cs.drop (n.toNat*size)))
   | _=>false
def Uw (v:AV) (lo hi:Option AV) (K:AV→Bool):Bool:=
 match v with
 | .lit (.string s)=>(match jq lo 0,jq hi s.size with
   | some l,some h=>decide (0≤l∧l≤h∧h≤s.size)&&K (S (s.extract l.toNat h.toNat))
   | _,_=>false)
 | _=>false
def E9 (size:Nat) (v:AV) (lo hi:Option AV) (K:AV→Bool):Bool:=
 match v with
 | .sl i off len sz=>(match jq lo 0,jq hi len with
   | some l,some h=>decide (0≤l∧l≤h∧h≤len∧sz=size)&&K (.sl i (off+l.toNat*size) (h.toNat-l.toNat) size)
   | _,_=>false)
 | .snap n cs=>(match jq lo 0,jq hi n with
   | some l,some h=>decide (0≤l∧l≤h∧h≤n)&&K (.snap (h.toNat-l.toNat) ((cs.drop (l.toNat*size)).take ((h.toNat-l.toNat)*size)))
   | _,_=>false)
 | .full n cs=>(match jq lo 0,jq hi n with
   | some l,some h=>decide (0≤l∧l≤h∧h≤n)&&K (.snap (h.toNat-l.toNat) ((cs.drop (l.toNat*size)).take ((h.toNat-l.toNat)*size)))
   | _,_=>false)
 | _=>false
def Es (v:AV) (K:AV→Bool):Bool:=match v with|.sl _ _ _ _=>K (.full 0 [])|.snap _ _=>K (.full 0 [])|.full _ _=>K (.full 0 [])|_=>false
def Br (i:Nat) (v:AV) (K:AV→Bool):Bool:=match v with|.tup vs=>(match vs[i]? with|some a=>K a|none=>false)|_=>false
def KM (t:TypeId) (v:AV) (K:AV→Bool):Bool:=K (.iface t v)
def JR (zs:List AV) (ps:List (Nat×Nat×AV)) (K:AV→Bool):Bool:=match Ah zs ps with|some cs=>K (.agg cs)|none=>false
def tE (n size:Nat) (vs:List AV) (K:AV→Bool):Bool:=decide (vs.length=n∧(vs.all fun v=>!v.isTup&&v.cells.length==size)=true)&&K (.full n (vs.flatMap (·.cells)))
def Uv (d:TypeDesc) (ok:Bool) (z x key:AV) (h:ab) (K:AV→Bool):Bool:=
 match key with
 | .lit k=>match x with
   | .lit (.map none)=>if kOk d k=true then K (if ok then .tup [z,B false] else z) else false
   | .map i=>match h[i]? with
     | some (.amap es _)=>if (kOk d k&&es.all fun e=>kOk d e.1)=true then (match nk k es 0 with
       | some (_,_,v)=>K (if ok then .tup [v,B true] else v)
       | none=>K (if ok then .tup [z,B false] else z)) else false
     | _=>false
   | _=>false
 | _=>false
def Td (bytes:Nat) (z l c:AV) (h:ab) (K:AV→ab→Bool):Bool:=
 match l,c with
 | .lit (.int _ l),.lit (.int _ c)=>decide (0≤l∧l≤c∧(bytes:Int)*c≤1099511627776∧c≤1099511627776)&&K (.sl h.length 0 l.toNat 1) (h++[.cells (List.replicate c.toNat z)])
 | _,_=>false
def EP (op:BinOp) (x:AV) (K:AV→Bool):Bool:=
 match op,x with
 | .eql,.map _=>K (B false)
 | .neq,.map _=>K (B true)
 | .eql,.lit (.map none)=>K (B true)
 | .neq,.lit (.map none)=>K (B false)
 | _,_=>false
def EW (op:BinOp) (x:AV) (K:AV→Bool):Bool:=
 match op,x with
 | .eql,.iface _ _=>K (B false)
 | .neq,.iface _ _=>K (B true)
 | .eql,.lit .nilIface=>K (B true)
 | .neq,.lit .nilIface=>K (B false)
 | _,_=>false
def FI (op:BinOp) (x:AV) (K:AV→Bool):Bool:=
 match op,x with
 | .eql,.fn _ _ _=>K (B false)
 | .neq,.fn _ _ _=>K (B true)
 | .eql,.lit .nilFunc=>K (B true)
 | .neq,.lit .nilFunc=>K (B false)
 | _,_=>false
def Cm (op:BinOp) (b:Bool) (K:AV→Bool):Bool:=match op with|.eql=>K (B b)|.neq=>K (B !b)|_=>false
def FW (op:BinOp) (x:AV) (K:AV→Bool):Bool:=
 match x with
 | .sl _ _ _ _=>Cm op false K
 | .full n _=>if n=0 then Cm op true K&&Cm op false K else Cm op false K
 | .snap n _=>if n=0 then Cm op true K&&Cm op false K else Cm op false K
 | _=>false
def Tf (op:BinOp) (ds:List TypeDesc) (x y:AV) (K:AV→Bool):Bool:=
 match x,y with
 | .agg az,.agg bs=>(match tS ds az bs with|some b=>Cm op b K|none=>false)
 | _,_=>false
def Pz (v:AV) (K:AV→Bool):Bool:=match v with|.sl _ _ len _=>K (I len)|.snap n _=>K (I n)|.full n _=>K (I n)|_=>false
def TD (x y:AV) (K:AV→Bool):Bool:=match x,y with|.lit (.int k a),.lit (.int _ b)=>K (.lit (.int k (if b > a then b else a)))|_,_=>false
def Ts (x y:AV) (K:AV→Bool):Bool:=match x,y with|.lit (.int k a),.lit (.int _ b)=>K (.lit (.int k (if b<a then b else a)))|_,_=>false
theorem od {K:AV→Bool}(op:BinOp) (b:Bool) (k:Cm op b K=true):po op b (fun r=>K r=true):=by
 unfold Cm at k
 unfold po
 (repeat' split at k)<;>first|(cases k;done)|exact k|(simp only[Bool.and_eq_true,decide_eq_true_eq]at k;exact k)|(rw[if_pos ‹_›];exact k)|(rw[if_neg ‹_›];exact k)|(simp only[*,↓reduceIte,Bool.false_eq_true];done)|(simp_all;done)
theorem OG {K:AV→Bool}(op:BinOp) (x y:AV) (k:On op x y K=true):rI op x y (fun r=>K r=true):=by
 unfold On at k
 unfold rI
 (repeat' split at k)<;>first|(cases k;done)|exact k|(simp only[Bool.and_eq_true,decide_eq_true_eq]at k;exact k)|(rw[if_pos ‹_›];exact k)|(rw[if_neg ‹_›];exact k)|(simp only[*,↓reduceIte,Bool.false_eq_true];done)|(simp_all;done)
theorem Pb {K:AV→Bool}(op:BinOp) (x y:AV) (k:QI op x y K=true):rQ op x y (fun r=>K r=true):=by
 unfold QI at k
 unfold rQ
 (repeat' split at k)<;>first|(cases k;done)|exact k|(simp only[Bool.and_eq_true,decide_eq_true_eq]at k;exact k)|(rw[if_pos ‹_›];exact k)|(rw[if_neg ‹_›];exact k)|(simp only[*,↓reduceIte,Bool.false_eq_true];done)|(simp_all;done)
theorem TB {K:AV→Bool}(op:UnOp) (x:AV) (k:bUn op x K=true):pUn op x (fun r=>K r=true):=by
 unfold bUn at k
 unfold pUn
 (repeat' split at k)<;>first|(cases k;done)|exact k|(simp only[Bool.and_eq_true,decide_eq_true_eq]at k;exact k)|(rw[if_pos ‹_›];exact k)|(rw[if_neg ‹_›];exact k)|(simp only[*,↓reduceIte,Bool.false_eq_true];done)|(simp_all;done)
theorem Kf {K:AV→Bool}(x:AV) (k:Ff x K=true):j3 x (fun r=>K r=true):=by
 unfold Ff at k
 unfold j3
 (repeat' split at k)<;>first|(cases k;done)|exact k|(simp only[Bool.and_eq_true,decide_eq_true_eq]at k;exact k)|(rw[if_pos ‹_›];exact k)|(rw[if_neg ‹_›];exact k)|(simp only[*,↓reduceIte,Bool.false_eq_true];done)|(simp_all;done)
theorem Rq {K:AV→Bool}(v:AV) (k:TK v K=true):CA v (fun r=>K r=true):=by
 unfold TK at k
 unfold CA
 (repeat' split at k)<;>first|(cases k;done)|exact k|(simp only[Bool.and_eq_true,decide_eq_true_eq]at k;exact k)|(rw[if_pos ‹_›];exact k)|(rw[if_neg ‹_›];exact k)|(simp only[*,↓reduceIte,Bool.false_eq_true];done)|(simp_all;done)
theorem Nq {K:AV→Bool}(off n:Nat) (v:AV) (k:JM off n v K=true):nq off n v (fun r=>K r=true):=by
 unfold JM at k
 unfold nq
 (repeat' split at k)<;>first|(cases k;done)|exact k|(simp only[Bool.and_eq_true,decide_eq_true_eq]at k;exact k)|(rw[if_pos ‹_›];exact k)|(rw[if_neg ‹_›];exact k)|(simp only[*,↓reduceIte,Bool.false_eq_true];done)|(simp_all;done)
theorem MX {K:AV→Bool}(off:Nat) (v:AV) (k:K0 off v K=true):m6 off v (fun r=>K r=true):=by
 unfold K0 at k
 unfold m6
 (repeat' split at k)<;>first|(cases k;done)|exact k|(simp only[Bool.and_eq_true,decide_eq_true_eq]at k;exact k)|(rw[if_pos ‹_›];exact k)|(rw[if_neg ‹_›];exact k)|(simp only[*,↓reduceIte,Bool.false_eq_true];done)|(simp_all;done)
theorem rF {K:AV→Bool}(len size:Nat) (v i:AV) (k:nS len size v i K=true):cP len size v i (fun r=>K r=true):=by
 unfold nS at k
 unfold cP
 (repeat' split at k)<;>first|(cases k;done)|exact k|(simp only[Bool.and_eq_true,decide_eq_true_eq]at k;exact k)|(rw[if_pos ‹_›];exact k)|(rw[if_neg ‹_›];exact k)|(simp only[*,↓reduceIte,Bool.false_eq_true];done)|(simp_all;done)
theorem J9 {K:AV→Bool}(size:Nat) (v:AV) (lo hi:Option AV) (k:E9 size v lo hi K=true):gx size v lo hi (fun r=>K r=true):=by
 unfold E9 at k
 unfold gx
 (repeat' split at k)<;>first|(cases k;done)|exact k|(simp only[Bool.and_eq_true,decide_eq_true_eq]at k;exact k)|(rw[if_pos ‹_›];exact k)|(rw[if_neg ‹_›];exact k)|(simp only[*,↓reduceIte,Bool.false_eq_true];done)|(simp_all;done)
theorem Kt {K:AV→Bool}(v:AV) (k:Es v K=true):jO v (fun r=>K r=true):=by
 unfold Es at k
 unfold jO
 (repeat' split at k)<;>first|(cases k;done)|exact k|(simp only[Bool.and_eq_true,decide_eq_true_eq]at k;exact k)|(rw[if_pos ‹_›];exact k)|(rw[if_neg ‹_›];exact k)|(simp only[*,↓reduceIte,Bool.false_eq_true];done)|(simp_all;done)
theorem HC {K:AV→Bool}(i:Nat) (v:AV) (k:Br i v K=true):gg i v (fun r=>K r=true):=by
 unfold Br at k
 unfold gg
 (repeat' split at k)<;>first|(cases k;done)|exact k|(simp only[Bool.and_eq_true,decide_eq_true_eq]at k;exact k)|(rw[if_pos ‹_›];exact k)|(rw[if_neg ‹_›];exact k)|(simp only[*,↓reduceIte,Bool.false_eq_true];done)|(simp_all;done)
theorem NQ {K:AV→Bool}(t:TypeId) (v:AV) (k:KM t v K=true):xe t v (fun r=>K r=true):=by
 unfold KM at k
 unfold xe
 (repeat' split at k)<;>first|(cases k;done)|exact k|(simp only[Bool.and_eq_true,decide_eq_true_eq]at k;exact k)|(rw[if_pos ‹_›];exact k)|(rw[if_neg ‹_›];exact k)|(simp only[*,↓reduceIte,Bool.false_eq_true];done)|(simp_all;done)
theorem MG {K:AV→Bool}(zs:List AV) (ps:List (Nat×Nat×AV)) (k:JR zs ps K=true):ma zs ps (fun r=>K r=true):=by
 unfold JR at k
 unfold ma
 (repeat' split at k)<;>first|(cases k;done)|exact k|(simp only[Bool.and_eq_true,decide_eq_true_eq]at k;exact k)|(rw[if_pos ‹_›];exact k)|(rw[if_neg ‹_›];exact k)|(simp only[*,↓reduceIte,Bool.false_eq_true];done)|(simp_all;done)
theorem Ab {K:AV→Bool}(n size:Nat) (vs:List AV) (k:tE n size vs K=true):fP n size vs (fun r=>K r=true):=by
 unfold tE at k
 unfold fP
 (repeat' split at k)<;>first|(cases k;done)|exact k|(simp only[Bool.and_eq_true,decide_eq_true_eq]at k;exact k)|(rw[if_pos ‹_›];exact k)|(rw[if_neg ‹_›];exact k)|(simp only[*,↓reduceIte,Bool.false_eq_true];done)|(simp_all;done)
theorem KU {K:AV→Bool}(op:BinOp) (x:AV) (k:EP op x K=true):jY op x (fun r=>K r=true):=by
 unfold EP at k
 unfold jY
 (repeat' split at k)<;>first|(cases k;done)|exact k|(simp only[Bool.and_eq_true,decide_eq_true_eq]at k;exact k)|(rw[if_pos ‹_›];exact k)|(rw[if_neg ‹_›];exact k)|(simp only[*,↓reduceIte,Bool.false_eq_true];done)|(simp_all;done)
theorem K9 {K:AV→Bool}(op:BinOp) (x:AV) (k:EW op x K=true):jW op x (fun r=>K r=true):=by
 unfold EW at k
 unfold jW
 (repeat' split at k)<;>first|(cases k;done)|exact k|(simp only[Bool.and_eq_true,decide_eq_true_eq]at k;exact k)|(rw[if_pos ‹_›];exact k)|(rw[if_neg ‹_›];exact k)|(simp only[*,↓reduceIte,Bool.false_eq_true];done)|(simp_all;done)
theorem Kp {K:AV→Bool}(op:BinOp) (x:AV) (k:FI op x K=true):ka op x (fun r=>K r=true):=by
 unfold FI at k
 unfold ka
 (repeat' split at k)<;>first|(cases k;done)|exact k|(simp only[Bool.and_eq_true,decide_eq_true_eq]at k;exact k)|(rw[if_pos ‹_›];exact k)|(rw[if_neg ‹_›];exact k)|(simp only[*,↓reduceIte,Bool.false_eq_true];done)|(simp_all;done)
theorem I9 {K:AV→Bool}(op:BinOp) (x:AV) (k:FW op x K=true):lp op x (fun r=>K r=true):=by
 unfold FW at k
 unfold lp
 split at k
 ·exact od _ _ k
 ·split at k
  ·rename_i h0;simp only[if_pos h0];simp only[Bool.and_eq_true]at k;exact⟨od _ _ k.1,od _ _ k.2⟩
  ·rename_i h0;simp only[if_neg h0];exact od _ _ k
 ·split at k
  ·rename_i h0;simp only[if_pos h0];simp only[Bool.and_eq_true]at k;exact⟨od _ _ k.1,od _ _ k.2⟩
  ·rename_i h0;simp only[if_neg h0];exact od _ _ k
 ·cases k
theorem SR {K:AV→Bool}(op:BinOp) (ds:List TypeDesc) (x y:AV) (k:Tf op ds x y K=true):Ao op ds x y (fun r=>K r=true):=by
 unfold Tf at k
 unfold Ao
 split at k
 ·split at k
  ·rename_i hm;simp only[hm];exact od _ _ k
  ·cases k
 ·cases k
theorem PJ {K:AV→Bool}(v:AV) (k:Pz v K=true):uC v (fun r=>K r=true):=by
 unfold Pz at k
 unfold uC
 (repeat' split at k)<;>first|(cases k;done)|exact k|(simp only[Bool.and_eq_true,decide_eq_true_eq]at k;exact k)|(rw[if_pos ‹_›];exact k)|(rw[if_neg ‹_›];exact k)|(simp only[*,↓reduceIte,Bool.false_eq_true];done)|(simp_all;done)
theorem SJ {K:AV→Bool}(x y:AV) (k:TD x y K=true):y9 x y (fun r=>K r=true):=by
 unfold TD at k
 unfold y9
 (repeat' split at k)<;>first|(cases k;done)|exact k|(simp only[Bool.and_eq_true,decide_eq_true_eq]at k;exact k)|(rw[if_pos ‹_›];exact k)|(rw[if_neg ‹_›];exact k)|(simp only[*,↓reduceIte,Bool.false_eq_true];done)|(simp_all;done)
theorem Rx {K:AV→Bool}(x y:AV) (k:Ts x y K=true):zn x y (fun r=>K r=true):=by
 unfold Ts at k
 unfold zn
 (repeat' split at k)<;>first|(cases k;done)|exact k|(simp only[Bool.and_eq_true,decide_eq_true_eq]at k;exact k)|(rw[if_pos ‹_›];exact k)|(rw[if_neg ‹_›];exact k)|(simp only[*,↓reduceIte,Bool.false_eq_true];done)|(simp_all;done)
end
section
def bI (c t e:Bool):Bool:=@Bool.casesOn (fun _=>Bool) c e t
theorem IL (c t e:Bool):bI c t e=true↔(c=true∧t=true)∨(c=false∧e=true):=by cases c<;>simp[bI]
def bA (c t:Bool):Bool:=@Bool.casesOn (fun _=>Bool) c false t
theorem c8 (c t:Bool):bA c t=true↔c=true∧t=true:=by cases c<;>simp[bA]
def fN (m:Nat) (K:Nat→Bool):Bool:=@Nat.casesOn (fun _=>Bool) m (K 0) (fun m=>K (Nat.succ m))
theorem jI (m:Nat) (K:Nat→Bool):fN m K=K m:=by cases m<;>rfl
def fI (n:Int) (K:Int→Bool):Bool:=@Int.casesOn (fun _=>Bool) n (fun m=>fN m fun m=>K (.ofNat m)) (fun m=>fN m fun m=>K (.negSucc m))
theorem Ld (n:Int) (K:Int→Bool):fI n K=K n:=by cases n<;>simp[fI,jI]
def fB (b:Bool) (K:Bool→Bool):Bool:=@Bool.casesOn (fun _=>Bool) b (K false) (K true)
theorem LU (b:Bool) (K:Bool→Bool):fB b K=K b:=by cases b<;>rfl
theorem nbF {a b:Nat}(h:¬ a=b):Nat.beq a b=false:=by
 cases e:Nat.beq a b
 ·rfl
 ·exact (h (Nat.eq_of_beq_eq_true e)).elim
inductive Tr (α:Type) where
 | leaf
 | node (l:Tr α) (v:Option α) (r:Tr α)
namespace Tr
variable {α:Type}
def Uc:Tr α→Nat→Option α
 | .leaf,_=>none
 | .node l v r,i=>if i=0 then v else if i%2=1 then Uc l (i / 2) else Uc r (i / 2-1)
def QS (x:α):Nat→Nat→Tr α
 | 0,_=>.leaf
 | f+1,i=>if i=0 then .node .leaf (some x) .leaf else if i%2=1 then .node (QS x f (i / 2)) none .leaf else .node .leaf none (QS x f (i / 2-1))
def Ui (t:Tr α) (x:α) (i:Nat):Tr α:=match t with
 | .leaf=>QS x (i+1) i
 | .node l v r=>if i=0 then .node l (some x) r else if i%2=1 then .node (Ui l x (i / 2)) v r else .node l v (Ui r x (i / 2-1))
def get (t:Tr α):Nat→Option α:=
 @Tr.rec α (fun _=>Nat→Option α) (fun _=>none) (fun _ v _ gl gr i=>@Bool.rec (fun _=>Option α) (@Bool.rec (fun _=>Option α) (gr (Nat.sub (Nat.div i 2) 1)) (gl (Nat.div i 2)) (Nat.beq (Nat.mod i 2) 1)) v (Nat.beq i 0)) t
def HZ (x:α):Nat→Nat→Tr α:=
 fun f=>@Nat.rec (fun _=>Nat→Tr α) (fun _=>.leaf) (fun _ ih i=>@Bool.rec (fun _=>Tr α) (@Bool.rec (fun _=>Tr α) (.node .leaf none (ih (Nat.sub (Nat.div i 2) 1))) (.node (ih (Nat.div i 2)) none .leaf) (Nat.beq (Nat.mod i 2) 1)) (.node .leaf (some x) .leaf) (Nat.beq i 0)) f
def set (t:Tr α) (x:α):Nat→Tr α:=
 @Tr.rec α (fun _=>Nat→Tr α) (fun i=>HZ x (Nat.succ i) i) (fun l v r sl sr i=>@Bool.rec (fun _=>Tr α) (@Bool.rec (fun _=>Tr α) (.node l v (sr (Nat.sub (Nat.div i 2) 1))) (.node (sl (Nat.div i 2)) v r) (Nat.beq (Nat.mod i 2) 1)) (.node l (some x) r) (Nat.beq i 0)) t
theorem BW (i:Nat):(Tr.leaf:Tr α).get i=none:=rfl
theorem m3 (l:Tr α) (v:Option α) (r:Tr α) (i:Nat):(Tr.node l v r).get i=if i=0 then v else if i%2=1 then l.get (i / 2) else r.get (i / 2-1):=by
 show @Bool.rec (fun _=>Option α) (@Bool.rec (fun _=>Option α) (r.get (i / 2-1)) (l.get (i / 2)) (Nat.beq (i%2) 1)) v (Nat.beq i 0)=_
 by_cases h0:i=0
 ·subst h0;rfl
 ·have:Nat.beq i 0=false:=nbF h0
  rw[this,if_neg h0]
  by_cases h1:i%2=1
  ·have:Nat.beq (i%2) 1=true:=Nat.beq_eq.mpr h1
   rw[this,if_pos h1]
  ·have:Nat.beq (i%2) 1=false:=nbF h1
   rw[this,if_neg h1]
theorem MD (x:α) (f i:Nat):HZ x (f+1) i=if i=0 then .node .leaf (some x) .leaf else if i%2=1 then .node (HZ x f (i / 2)) none .leaf else .node .leaf none (HZ x f (i / 2-1)):=by
 show @Bool.rec (fun _=>Tr α) (@Bool.rec (fun _=>Tr α) (.node .leaf none (HZ x f (i / 2-1))) (.node (HZ x f (i / 2)) none .leaf) (Nat.beq (i%2) 1)) (.node .leaf (some x) .leaf) (Nat.beq i 0)=_
 by_cases h0:i=0
 ·subst h0;rfl
 ·have:Nat.beq i 0=false:=nbF h0
  rw[this,if_neg h0]
  by_cases h1:i%2=1
  ·have:Nat.beq (i%2) 1=true:=Nat.beq_eq.mpr h1
   rw[this,if_pos h1]
  ·have:Nat.beq (i%2) 1=false:=nbF h1
   rw[this,if_neg h1]
theorem Ou (x:α) (i:Nat):(Tr.leaf:Tr α).set x i=HZ x (i+1) i:=rfl
theorem P0 (l:Tr α) (v:Option α) (r:Tr α) (x:α) (i:Nat):(Tr.node l v r).set x i=if i=0 then .node l (some x) r else if i%2=1 then .node (l.set x (i / 2)) v r else .node l v (r.set x (i / 2-1)):=by
 show @Bool.rec (fun _=>Tr α) (@Bool.rec (fun _=>Tr α) (.node l v (r.set x (i / 2-1))) (.node (l.set x (i / 2)) v r) (Nat.beq (i%2) 1)) (.node l (some x) r) (Nat.beq i 0)=_
 by_cases h0:i=0
 ·subst h0;rfl
 ·have:Nat.beq i 0=false:=nbF h0
  rw[this,if_neg h0]
  by_cases h1:i%2=1
  ·have:Nat.beq (i%2) 1=true:=Nat.beq_eq.mpr h1
   rw[this,if_pos h1]
  ·have:Nat.beq (i%2) 1=false:=nbF h1
   rw[this,if_neg h1]
theorem A7 (x:α):∀ (f i j:Nat),i<f→(HZ x f i).get j=if j=i then some x else none
 | 0,i,j,h=>by omega
 | f+1,i,j,h=>by
   rw[MD]
   by_cases h0:i=0
   ·rw[if_pos h0,m3]
    subst h0
    split
    ·rfl
    ·split<;>rfl
   ·rw[if_neg h0]
    by_cases h1:i%2=1
    ·rw[if_pos h1,m3]
     by_cases hj:j=0
     ·rw[if_pos hj,if_neg (by omega)]
     ·rw[if_neg hj]
      by_cases hj1:j%2=1
      ·rw[if_pos hj1,A7 x f (i / 2) (j / 2) (by omega)]
       by_cases e:j / 2=i / 2
       ·rw[if_pos e,if_pos (by omega)]
       ·rw[if_neg e,if_neg (fun h=>e (by rw[h]))]
      ·rw[if_neg hj1,BW,if_neg (fun h=>by subst h;omega)]
    ·rw[if_neg h1,m3]
     by_cases hj:j=0
     ·rw[if_pos hj,if_neg (by omega)]
     ·rw[if_neg hj]
      by_cases hj1:j%2=1
      ·rw[if_pos hj1,BW,if_neg (fun h=>by subst h;omega)]
      ·rw[if_neg hj1,A7 x f (i / 2-1) (j / 2-1) (by omega)]
       by_cases e:j / 2-1=i / 2-1
       ·rw[if_pos e,if_pos (by omega)]
       ·rw[if_neg e,if_neg (fun h=>e (by rw[h]))]
theorem get_set (x:α):∀ (t:Tr α) (i j:Nat),(t.set x i).get j=if j=i then some x else t.get j
 | .leaf,i,j=>by rw[Ou,A7 x _ _ _ (Nat.lt_succ_self _),BW]
 | .node l v r,i,j=>by
   rw[P0,m3]
   by_cases h0:i=0
   ·subst h0
    rw[if_pos rfl,m3]
    by_cases hj:j=0
    ·rw[if_pos hj,if_pos hj]
    ·rw[if_neg hj,if_neg hj,if_neg hj]
   ·rw[if_neg h0]
    by_cases h1:i%2=1
    ·rw[if_pos h1,m3]
     by_cases hj:j=0
     ·subst hj;rw[if_pos rfl,if_neg (Ne.symm h0),if_pos rfl]
     ·rw[if_neg hj,if_neg hj]
      by_cases hj1:j%2=1
      ·rw[if_pos hj1,if_pos hj1,get_set x l]
       by_cases e:j / 2=i / 2
       ·rw[if_pos e,if_pos (by omega)]
       ·rw[if_neg e,if_neg (fun h=>e (by rw[h]))]
      ·rw[if_neg hj1,if_neg hj1,if_neg (fun h=>by subst h;omega)]
    ·rw[if_neg h1,m3]
     by_cases hj:j=0
     ·subst hj;rw[if_pos rfl,if_neg (Ne.symm h0),if_pos rfl]
     ·rw[if_neg hj,if_neg hj]
      by_cases hj1:j%2=1
      ·rw[if_pos hj1,if_pos hj1,if_neg (fun h=>by subst h;omega)]
      ·rw[if_neg hj1,if_neg hj1,get_set x r]
       by_cases e:j / 2-1=i / 2-1
       ·rw[if_pos e,if_pos (by omega)]
       ·rw[if_neg e,if_neg (fun h=>e (by rw[h]))]
end Tr
abbrev HT:=Tr AObj
structure HR (t:HT) (n:Nat) (h:ab):Prop where
 len:h.length=n
 at_:∀ i x,t.get i=some x→h[i]?=some x
theorem HR.set {t:HT}{n:Nat}{h:ab}(r:HR t n h) {i:Nat}{o x:AObj}(hi:t.get i=some x):HR (t.set o i) n (h.set i o) where
 len:=by simp[r.len]
 at_:=fun j y hy=>by
  have hl:i<h.length:=(List.getElem?_eq_some_iff.1 (r.at_ i x hi)).1
  rw[Tr.get_set]at hy
  rw[List.getElem?_set]
  by_cases e:j=i
  ·subst e;rw[if_pos rfl]at hy;rw[if_pos rfl,if_pos hl];exact hy
  ·rw[if_neg e]at hy;rw[if_neg (Ne.symm e)];exact r.at_ j y hy
theorem HR.push {t:HT}{n:Nat}{h:ab}(r:HR t n h) (o:AObj):HR (t.set o n) (n+1) (h++[o]) where
 len:=by simp[r.len]
 at_:=fun j y hy=>by
  have hl:=r.len
  rw[Tr.get_set]at hy
  by_cases e:j=n
  ·subst e;rw[if_pos rfl]at hy;rw[List.getElem?_append_right (by omega)];simp[hl];cases hy;rfl
  ·rw[if_neg e]at hy
   have:=r.at_ j y hy
   have hj:j<h.length:=(List.getElem?_eq_some_iff.1 this).1
   rw[List.getElem?_append_left hj];exact this
theorem HR.more {t:HT}{n:Nat}{h:ab}(r:HR t n h) (l:ab):HR t (n+l.length) (h++l) where
 len:=by simp[r.len]
 at_:=fun j y hy=>by
  have:=r.at_ j y hy
  have hj:j<h.length:=(List.getElem?_eq_some_iff.1 this).1
  rw[List.getElem?_append_left hj];exact this
theorem HR.none {n:Nat}{h:ab}(e:h.length=n):HR .leaf n h:=⟨e,fun i x hx=>by cases hx⟩
def KH (K:AV→HT→Nat→Bool) (r:AV) (h:ab):Prop:=∃ t n,HR t n h∧K r t n=true
def KS (K:HT→Nat→Bool) (h:ab):Prop:=∃ t n,HR t n h∧K t n=true
section
variable {t:HT}{n:Nat}{h:ab}
def L5 (t:HT) (m:Nat) (v:AV):Option (List AV):=match v with
 | .ptr i o=>match t.get i with
   | some (.cells cs)=>if o+m≤cs.length then some ((cs.drop o).take m) else none
   | _=>none
 | .cptr cs=>if m≤cs.length then some (cs.take m) else none
 | _=>none
theorem I3 (r:HR t n h) {m:Nat}{v:AV}{l:List AV}(e:L5 t m v=some l):pN h m v=some l:=by
 unfold L5 at e
 unfold pN
 split at e
 ·split at e
  ·rename_i hc;simp only[r.at_ _ _ hc];exact e
  ·cases e
 ·exact e
 ·cases e
def Bb (m:Nat) (v:AV) (t:HT) (K:AV→Bool):Bool:=match L5 t m v with|some l=>K (.agg l)|none=>false
def A5 (v:AV) (t:HT) (K:AV→Bool):Bool:=match L5 t 1 v with|some [a]=>K a|_=>false
theorem xx (r:HR t n h) {m:Nat}{v:AV}{K:AV→Bool}(k:Bb m v t K=true):kR m v h (fun r=>K r=true):=by
 unfold Bb at k
 unfold kR
 split at k
 ·rename_i hl;simp only[I3 r hl];exact k
 ·cases k
theorem xM (r:HR t n h) {v:AV}{K:AV→Bool}(k:A5 v t K=true):kT v h (fun r=>K r=true):=by
 unfold A5 at k
 unfold kT
 split at k
 ·rename_i hl;simp only[I3 r hl];exact k
 ·cases k
def R4 (cs:List AV) (t:HT) (n:Nat) (K:AV→HT→Nat→Bool):Bool:=fN n fun n=>K (.ptr n 0) (t.set (.cells cs) n) (n+1)
theorem Lc (r:HR t n h) {cs:List AV}{K:AV→HT→Nat→Bool}(k:R4 cs t n K=true):OB cs h (KH K):=by
 unfold R4 at k;rw[jI]at k
 unfold OB
 rw[r.len]
 exact⟨_,_,r.push _,k⟩
def Tk (v:AV) (t:HT) (n:Nat) (K:AV→HT→Nat→Bool):Bool:=bI v.isTup false (R4 v.cells t n K)
theorem SP (r:HR t n h) {v:AV}{K:AV→HT→Nat→Bool}(k:Tk v t n K=true):Uk v h (KH K):=by
 unfold Tk at k
 rcases (IL _ _ _).1 k with ⟨_,k⟩|⟨hv,k⟩
 ·cases k
 ·exact⟨hv,Lc r k⟩
def Jo (m:Nat) (v u:AV) (t:HT) (n:Nat) (K:HT→Nat→Bool):Bool:=
 match v with
 | .ptr i o=>(match t.get i with
   | some (.cells cs)=>decide (u.isTup=false∧u.cells.length=m∧u.cells.all AV.one=true∧o+m≤cs.length)&&K (t.set (.cells (splice cs o u.cells)) i) n
   | _=>false)
 | _=>false
theorem MM (r:HR t n h) {m:Nat}{v u:AV}{K:HT→Nat→Bool}(k:Jo m v u t n K=true):qS m v u h (KS K):=by
 unfold Jo at k
 unfold qS
 split at k
 ·rename_i i o
  skip
  split at k
  ·rename_i cs hc
   simp only[r.at_ _ _ hc]
   simp only[Bool.and_eq_true,decide_eq_true_eq]at k
   exact⟨k.1,_,_,r.set hc,k.2⟩
  ·cases k
 ·cases k
def AJ (t:HT) (size:Nat) (v:AV):Option (Nat×List AV):=match v with
 | .snap n cs=>if cs.length=n*size then some (n,cs) else none
 | .full n cs=>if cs.length=n*size then some (n,cs) else none
 | .sl i off len sz=>match t.get i with
   | some (.cells cs)=>if sz=size∧off+len*size≤cs.length then some (len,(cs.drop off).take (len*size)) else none
   | _=>none
 | .lit (.string s)=>if size=1 then some (s.size,s.data.toList.map fun b=>.lit (.int .u8 b.toNat)) else none
 | _=>none
theorem xz (r:HR t n h) {m:Nat}{v:AV}{x:Nat×List AV}(e:AJ t m v=some x):de h m v=some x:=by
 unfold AJ at e
 unfold de
 split at e
 ·exact e
 ·exact e
 ·split at e
  ·rename_i hc;simp only[r.at_ _ _ hc];exact e
  ·cases e
 ·exact e
 ·cases e
def FG (size bytes:Nat) (v x:AV) (t:HT) (n:Nat) (K:AV→HT→Nat→Bool):Bool:=
 match AJ t size x with
 | none=>false
 | some (m,xs)=>match v with
   | .full n0 cs=>decide (cs.length=n0*size∧(n0+m)*bytes≤1099511627776)&&(bI (Nat.beq m 0) (K (.full n0 cs) t n) (fN n fun n=>fN (n0+m) fun l=>K (.sl n 0 l size) (t.set (.cells (cs++xs)) n) (n+1)))
   | .sl i off len sz=>(match t.get i with
     | some (.cells cs)=>decide (sz=size∧off+len*size=cs.length∧xs.all AV.one=true∧(len+m)*bytes≤1099511627776)&&fN n fun n=>fN (len+m) fun l=>K (.sl n 0 l size) ((t.set .dead i).set (.cells (cs.drop off++xs)) n) (n+1)
     | _=>false)
   | _=>false
theorem JC (r:HR t n h) {size bytes:Nat}{v x:AV}{K:AV→HT→Nat→Bool}(k:FG size bytes v x t n K=true):j0 size bytes v x h (KH K):=by
 unfold FG at k
 unfold j0
 split at k
 ·cases k
 ·rename_i m xs hx
  simp only[xz r hx]
  split at k
  ·simp only[Bool.and_eq_true,decide_eq_true_eq,IL,jI]at k
   refine⟨k.1,?_⟩
   rcases k.2 with ⟨h0,k⟩|⟨h0,k⟩
   ·rw[if_pos (Nat.eq_of_beq_eq_true h0)];exact⟨t,n,r,k⟩
   ·rw[if_neg (fun e=>by rw[Nat.beq_eq.mpr e]at h0;cases h0),r.len];exact⟨_,_,r.push _,k⟩
  ·rename_i i off len sz
   skip
   split at k
   ·rename_i cs hc
    simp only[r.at_ _ _ hc]
    simp only[Bool.and_eq_true,decide_eq_true_eq,jI]at k
    refine⟨k.1,?_⟩
    rw[r.len]
    exact⟨_,_,(r.set hc).push _,k.2⟩
   ·cases k
  ·cases k
def xt (x:AV) (t:HT) (K:AV→Bool):Bool:=
 bA (uu x) (match AJ t 1 x with
  | some (_,xs)=>(match nQ xs with|some l=>K (S ⟨l.toArray⟩)|none=>false)
  | none=>false)
theorem EA (r:HR t n h) {x:AV}{K:AV→Bool}(k:xt x t K=true):eJ x h (fun r=>K r=true):=by
 unfold xt at k
 unfold eJ
 rw[c8]at k
 rw[if_pos k.1]
 have k:=k.2
 split at k
 ·rename_i hx
  simp only[xz r hx]
  split at k
  ·simp only[*]
  ·cases k
 ·cases k
def xd (x:AV) (t:HT) (n:Nat) (K:AV→HT→Nat→Bool):Bool:=
 match x with
 | .lit (.string s)=>fN n fun n=>fN s.size fun l=>K (.sl n 0 l 1) (t.set (.cells (s.data.toList.map fun b=>.lit (.int .u8 b.toNat))) n) (n+1)
 | _=>false
theorem Gf (r:HR t n h) {x:AV}{K:AV→HT→Nat→Bool}(k:xd x t n K=true):ij x h (KH K):=by
 unfold xd at k
 unfold ij
 split at k
 ·simp only[jI]at k
  rw[r.len]
  exact⟨_,_,r.push _,k⟩
 ·cases k
def vg (bytes:Nat) (z l c:AV) (t:HT) (n:Nat) (K:AV→HT→Nat→Bool):Bool:=
 match l,c with
 | .lit (.int _ l),.lit (.int _ c)=>decide (0≤l∧l≤c∧(bytes:Int)*c≤1099511627776∧c≤1099511627776)&&fN n fun n=>fN l.toNat fun l=>K (.sl n 0 l 1) (t.set (.cells (List.replicate c.toNat z)) n) (n+1)
 | _,_=>false
theorem Cx (r:HR t n h) {bytes:Nat}{z l c:AV}{K:AV→HT→Nat→Bool}(k:vg bytes z l c t n K=true):gd bytes z l c h (KH K):=by
 unfold vg at k
 unfold gd
 split at k
 ·simp only[jI,Bool.and_eq_true,decide_eq_true_eq]at k
  rw[r.len]
  exact⟨k.1,_,_,r.push _,k.2⟩
 ·cases k
def Py (v:AV) (t:HT) (K:AV→Bool):Bool:=match v with|.map i=>(match t.get i with|some (.amap es _)=>fN es.length fun l=>K (I l)|_=>false)|_=>false
theorem Qj (r:HR t n h) {v:AV}{K:AV→Bool}(k:Py v t K=true):uD v h (fun r=>K r=true):=by
 unfold Py at k
 unfold uD
 split at k
 ·split at k
  ·rename_i hc
   simp only[jI]at k;simp only[r.at_ _ _ hc];exact k
  ·cases k
 ·cases k
def uEq (a b:UInt8):Bool:=Nat.beq a.toNat b.toNat
theorem Eu (a b:UInt8):uEq a b=(a==b):=by
 rw[Bool.eq_iff_iff,uEq,Nat.beq_eq,beq_iff_eq,UInt8.toNat_inj]
def lEq:List UInt8→List UInt8→Bool
 | [],[]=>true
 | a::l,b::m=>bA (uEq a b) (lEq l m)
 | _,_=>false
theorem QP:∀ a b:List UInt8,lEq a b=true↔a=b
 | [],[]=>by simp[lEq]
 | [],b::m=>by simp[lEq]
 | a::l,[]=>by simp[lEq]
 | a::l,b::m=>by simp only[lEq,c8,Eu,beq_iff_eq,QP l m,List.cons.injEq]
def sEq (a b:ByteArray):Bool:=lEq a.data.toList b.data.toList
theorem EF (a b:ByteArray):sEq a b=true↔a=b:=by
 unfold sEq
 rw[QP]
 constructor
 ·intro h
  rcases a with ⟨⟨a⟩⟩;rcases b with ⟨⟨b⟩⟩
  simp at h;subst h;rfl
 ·rintro rfl;rfl
theorem Tt (a b:ByteArray):sEq a b=(a==b):=by
 rw[Bool.eq_iff_iff,EF]
 show a=b↔(a.data==b.data)=true
 rw[beq_iff_eq]
 exact⟨fun h=>by rw[h],fun h=>by cases a;cases b;simp at h;rw[h]⟩
def iEq (a b:Int):Bool:=@Int.casesOn (fun _=>Bool) a (fun m=>@Int.casesOn (fun _=>Bool) b (fun k=>Nat.beq m k) (fun _=>false)) (fun m=>@Int.casesOn (fun _=>Bool) b (fun _=>false) (fun k=>Nat.beq m k))
theorem Lk (a b:Int):iEq a b=true↔a=b:=by
 cases a<;>cases b<;>simp[iEq]
 exact⟨fun h=>by rw[h],fun h=>Int.ofNat.inj h⟩
theorem OQ (a b:Int):iEq a b=(a==b):=by
 rw[Bool.eq_iff_iff,Lk,beq_iff_eq]
def Tp:Value→Value→Bool
 | .string a,.string b=>sEq a b
 | .int _ a,.int _ b=>iEq a b
 | _,_=>false
theorem Sh (a b:Value):Tp a b=keq a b:=by
 unfold Tp keq
 split<;>simp_all [Tt,OQ]
def Aq (k:Value):fj→Nat→Option (Nat×Nat×AV)
 | [],_=>none
 | (k',n,v)::r,i=>match Tp k k' with
   | true=>some (i,n,v)
   | false=>Aq k r (i+1)
theorem sV (k:Value):∀ (es:fj) (i:Nat),Aq k es i=nk k es i
 | [],_=>rfl
 | (k',n,v)::r,i=>by
   simp only[Aq,nk]
   rw[Sh]
   cases h:keq k k'
   ·simp[sV k r]
   ·simp
def Tx (k:Value) (v:AV) (clock:Nat) (es:fj):AObj:=
 match Aq k es 0 with
 | some (i,n,_)=>.amap (es.set i (k,n,v)) clock
 | none=>.amap (es++[(k,clock,v)]) (clock+1)
theorem RN (k:Value) (v:AV) (clock:Nat) (es:fj):Tx k v clock es=No k v clock es:=by
 unfold Tx No;rw[sV]
 split<;>simp_all
def JA (d:TypeDesc):fj→Bool
 | []=>true
 | e::es=>bA (kOk d e.1) (JA d es)
theorem wr (d:TypeDesc):∀ es:fj,JA d es=es.all fun e=>kOk d e.1
 | []=>rfl
 | e::es=>by
   simp only[JA,List.all_cons,← wr d es]
   cases kOk d e.1<;>rfl
def FX (d:TypeDesc) (ok:Bool) (z x key:AV) (t:HT) (K:AV→Bool):Bool:=
 match key with
 | .lit k=>match x with
   | .lit (.map none)=>bA (kOk d k) (K (if ok then .tup [z,B false] else z))
   | .map i=>match t.get i with
     | some (.amap es _)=>bA (kOk d k) (bA (JA d es) (match Aq k es 0 with
       | some (_,_,v)=>K (if ok then .tup [v,B true] else v)
       | none=>K (if ok then .tup [z,B false] else z)))
     | _=>false
   | _=>false
 | _=>false
theorem Ke (r:HR t n h) {d:TypeDesc}{ok:Bool}{z x key:AV}{K:AV→Bool}(k:FX d ok z x key t K=true):ib d ok z x key h (fun r=>K r=true):=by
 unfold FX at k
 unfold ib
 split at k
 ·split at k
  ·rw[c8]at k;simp only[if_pos k.1];exact k.2
  ·split at k
   ·rename_i hc
    simp only[r.at_ _ _ hc]
    rw[c8,c8,wr,sV]at k
    rw[if_pos (by simp[k.1,k.2.1])]
    have k:=k.2.2
    split at k<;>simp only[*]
   ·cases k
  ·cases k
 ·cases k
def qQ (d:TypeDesc) (x key v:AV) (t:HT) (n:Nat) (K:HT→Nat→Bool):Bool:=
 match key,x with
 | .lit k,.map i=>(match t.get i with
   | some (.amap es clock)=>bA (kOk d k) (bA (JA d es) (K (t.set (Tx k v clock es) i) n))
   | _=>false)
 | _,_=>false
theorem uO (r:HR t n h) {d:TypeDesc}{x key v:AV}{K:HT→Nat→Bool}(k:qQ d x key v t n K=true):fZ d x key v h (KS K):=by
 unfold qQ at k
 unfold fZ
 split at k
 ·skip
  split at k
  ·rename_i hc
   simp only[r.at_ _ _ hc]
   rw[c8,c8,wr,RN]at k
   rw[if_pos (by simp[k.1,k.2.1])]
   exact⟨_,_,r.set hc,k.2.2⟩
  ·cases k
 ·cases k
def xn (d:TypeDesc) (z x key:AV) (t:HT) (n:Nat) (K:AV→HT→Nat→Bool):Bool:=
 match key,x with
 | .lit k,.map i=>(match t.get i with
   | some (.amap es clock)=>bA (kOk d k) (bA (JA d es) (match Aq k es 0 with
     | some (_,m,v)=>K (.tup [v,I m]) t n
     | none=>K (.tup [z,I clock]) (t.set (.amap (es++[(k,clock,z)]) (clock+1)) i) n))
   | _=>false)
 | _,_=>false
theorem FF (r:HR t n h) {d:TypeDesc}{z x key:AV}{K:AV→HT→Nat→Bool}(k:xn d z x key t n K=true):ii d z x key h (KH K):=by
 unfold xn at k
 unfold ii
 split at k
 ·skip
  split at k
  ·rename_i hc
   simp only[r.at_ _ _ hc]
   rw[c8,c8,wr,sV]at k
   rw[if_pos (by simp[k.1,k.2.1])]
   have k:=k.2.2
   split at k
   ·simp only[*];exact⟨_,_,r,k⟩
   ·simp only[*];exact⟨_,_,r.set hc,k⟩
  ·cases k
 ·cases k
def tI (x st v:AV) (t:HT) (n:Nat) (K:HT→Nat→Bool):Bool:=
 match st,x with
 | .lit (.int .i64 m),.map i=>(match t.get i with
   | some (.amap es clock)=>(match qR m es 0 with
     | some (j,k,b)=>K (t.set (.amap (es.set j (k,b,v)) clock) i) n
     | none=>false)
   | _=>false)
 | _,_=>false
theorem Bt (r:HR t n h) {x st v:AV}{K:HT→Nat→Bool}(k:tI x st v t n K=true):eQ x st v h (KS K):=by
 unfold tI at k
 unfold eQ
 split at k
 ·skip
  split at k
  ·rename_i hc
   simp only[r.at_ _ _ hc]
   split at k
   ·simp only[*];exact⟨_,_,r.set hc,k⟩
   ·cases k
  ·cases k
 ·cases k
def Fo (d:TypeDesc) (x key:AV) (t:HT) (n:Nat) (K:HT→Nat→Bool):Bool:=
 match key with
 | .lit k=>match x with
   | .lit (.map none)=>bA (kOk d k) (K t n)
   | .map i=>(match t.get i with
     | some (.amap es clock)=>bA (kOk d k) (bA (JA d es) (match Aq k es 0 with
       | some (j,_,_)=>K (t.set (.amap (es.eraseIdx j) clock) i) n
       | none=>K t n))
     | _=>false)
   | _=>false
 | _=>false
theorem JT (r:HR t n h) {d:TypeDesc}{x key:AV}{K:HT→Nat→Bool}(k:Fo d x key t n K=true):nX d x key h (KS K):=by
 unfold Fo at k
 unfold nX
 split at k
 ·split at k
  ·rw[c8]at k;simp only[if_pos k.1];exact⟨_,_,r,k.2⟩
  ·skip
   split at k
   ·rename_i hc
    simp only[r.at_ _ _ hc]
    rw[c8,c8,wr,sV]at k
    rw[if_pos (by simp[k.1,k.2.1])]
    have k:=k.2.2
    split at k
    ·simp only[*];exact⟨_,_,r.set hc,k⟩
    ·simp only[*];exact⟨_,_,r,k⟩
   ·cases k
  ·cases k
 ·cases k
def Bj (t:HT) (n:Nat) (K:AV→HT→Nat→Bool):Bool:=fN n fun n=>K (.map n) (t.set (.amap [] 0) n) (n+1)
theorem Io (r:HR t n h) {K:AV→HT→Nat→Bool}(k:Bj t n K=true):pJ h (KH K):=by
 unfold Bj at k;rw[jI]at k
 unfold pJ
 rw[r.len]
 exact⟨_,_,r.push _,k⟩
def F7 (x:AV) (t:HT) (n:Nat) (K:AV→HT→Nat→Bool):Bool:=
 match x with
 | .lit (.string s)=>fN n fun n=>K (.ptr n 0) (t.set (.siter s 0) n) (n+1)
 | _=>false
theorem Ju (r:HR t n h) {x:AV}{K:AV→HT→Nat→Bool}(k:F7 x t n K=true):nV x h (KH K):=by
 unfold F7 at k
 unfold nV
 split at k
 ·rw[jI]at k;rw[r.len];exact⟨_,_,r.push _,k⟩
 ·cases k
def Ki (x:AV) (t:HT) (n:Nat) (K:AV→HT→Nat→Bool):Bool:=
 match x with
 | .ptr i 0=>(match t.get i with
   | some (.siter s pos)=>bI (Nat.blt pos s.size) (K (.tup [B true,I pos,.lit (.int .i32 (Utf8.decode s pos).1)]) (t.set (.siter s (pos+(Utf8.decode s pos).2)) i) n) (K (.tup [B false]) t n)
   | _=>false)
 | _=>false
theorem NF (r:HR t n h) {x:AV}{K:AV→HT→Nat→Bool}(k:Ki x t n K=true):qx x h (KH K):=by
 unfold Ki at k
 unfold qx
 split at k
 ·skip
  split at k
  ·rename_i hc
   simp only[r.at_ _ _ hc]
   rw[IL]at k
   rcases k with ⟨hp,k⟩|⟨hp,k⟩
   ·rw[if_pos (by rw[Nat.blt_eq]at hp;exact hp)];exact⟨_,_,r.set hc,k⟩
   ·rw[if_neg (fun e=>by rw[← Nat.blt_eq,hp]at e;cases e)];exact⟨_,_,r,k⟩
  ·cases k
 ·cases k
def EV (x:AV) (t:HT) (n:Nat) (K:AV→HT→Nat→Bool):Bool:=
 match x with
 | .lit (.map none)=>fN n fun n=>K (.ptr n 0) (t.set (.miter none 0 [] 0) n) (n+1)
 | .map i=>(match t.get i with
   | some (.amap es clock)=>fN n fun n=>K (.ptr n 0) (t.set (.miter (some i) clock [] clock) n) (n+1)
   | _=>false)
 | _=>false
theorem JX (r:HR t n h) {x:AV}{K:AV→HT→Nat→Bool}(k:EV x t n K=true):mN x h (KH K):=by
 unfold EV at k
 unfold mN
 split at k
 ·rw[jI]at k;rw[r.len];exact⟨_,_,r.push _,k⟩
 ·skip
  split at k
  ·rename_i hc
   simp only[r.at_ _ _ hc]
   rw[jI]at k;rw[r.len];exact⟨_,_,r.push _,k⟩
  ·cases k
 ·cases k
def JP (x:AV) (t:HT) (n:Nat) (K:AV→HT→Nat→Bool):Bool:=
 match x with
 | .ptr i 0=>(match t.get i with
   | some (.miter none _ _ _)=>K (.tup [B false]) t n
   | some (.miter (some j) since seen last)=>(match t.get j with
     | some (.amap es clock)=>
       decide ((es.all fun e=>e.1.oneCell')=true∧(!seen.isEmpty&&!es.isEmpty&&es.all fun e=>decide (e.2.1≥last))=false)&&
       ((!(es.all fun e=>seen.contains e.2.1||decide (since≤e.2.1))||K (.tup [B false]) t n)&&
       es.all fun e=>seen.contains e.2.1||K (.tup [B true,.lit e.1,e.2.2]) (t.set (.miter (some j) since (seen++[e.2.1]) clock) i) n)
     | _=>false)
   | _=>false)
 | _=>false
theorem N3 (r:HR t n h) {x:AV}{K:AV→HT→Nat→Bool}(k:JP x t n K=true):qZ x h (KH K):=by
 unfold JP at k
 unfold qZ
 split at k
 ·skip
  split at k
  ·rename_i hes;simp only[r.at_ _ _ hes];exact⟨_,_,r,k⟩
  ·rename_i hes
   split at k
   ·rename_i hm
    simp only[r.at_ _ _ hes,r.at_ _ _ hm]
    simp only[Bool.and_eq_true,decide_eq_true_eq,Bool.or_eq_true,Bool.not_eq_true',List.all_eq_true,List.all_eq_false]at k
    obtain⟨k0,k1,k2⟩:=k
    refine⟨⟨List.all_eq_true.2 k0.1,k0.2⟩,fun ha=>?_,fun e he hs=>?_⟩
    ·rcases k1 with ⟨x,hx,hn⟩|k1
     ·exfalso
      rcases ha x hx with h1|h1
      ·exact hn (by simp[h1])
      ·exact hn (by simp[h1])
     ·exact⟨_,_,r,k1⟩
    ·rcases k2 e he with h1|h1
     ·exact (hs (by simpa using h1)).elim
     ·exact⟨_,_,r.set hes,h1⟩
   ·cases k
  ·cases k
 ·cases k
def KZ (x:AV) (t:HT) (K:AV→Bool):Bool:=
 match x with
 | .ptr i 0=>(match t.get i with
   | some (.miter (some j) _ seen last)=>(match t.get j,seen.getLast? with
     | some (.amap es clock),some n=>(match lM n es with
       | some (k,v)=>bA (k.oneCell'&&clock==last) (K (.tup [.lit k,v]))
       | none=>false)
     | _,_=>false)
   | _=>false)
 | _=>false
theorem Nd (r:HR t n h) {x:AV}{K:AV→Bool}(k:KZ x t K=true):me x h (fun r=>K r=true):=by
 unfold KZ at k
 unfold me
 split at k
 ·split at k
  ·rename_i hc
   simp only[r.at_ _ _ hc]
   split at k
   ·rename_i h1 h2
    simp only[r.at_ _ _ h1,h2]
    split at k
    ·rw[c8]at k;simp only[*,if_true]
    ·cases k
   ·cases k
  ·cases k
 ·cases k
end
end
section
def kNo (k:IntKind):Nat:=match k with|.i8=>0|.i16=>1|.i32=>2|.i64=>3|.u8=>4|.u16=>5|.u32=>6|.u64=>7
def kEq (j k:IntKind):Bool:=Nat.beq (kNo j) (kNo k)
theorem Lg (j k:IntKind):kEq j k=true↔j=k:=by cases j<;>cases k<;>decide
def TP (n:Int):Bool:=@Int.casesOn (fun _=>Bool) n (fun m=>Nat.ble m 9223372036854775807) (fun m=>Nat.ble m 9223372036854775807)
theorem M9 {n:Int}(h:TP n=true):IntKind.i64.wrap n=n:=by
 have hb:-9223372036854775808≤n∧n≤9223372036854775807:=by
  cases n with
  | ofNat m=>have:m≤9223372036854775807:=Nat.le_of_ble_eq_true h;constructor<;>simp<;>omega
  | negSucc m=>have:m≤9223372036854775807:=Nat.le_of_ble_eq_true h;constructor<;>omega
 exact IntWalk.i64_in _ hb
def wI (k:IntKind) (n:Int) (K:Int→Bool):Bool:=bI (bA (Nat.beq (kNo k) 3) (TP n)) (fI n K) (fI (k.wrap n) K)
theorem SX (k:IntKind) (n:Int) (K:Int→Bool):wI k n K=K (k.wrap n):=by
 unfold wI
 cases h:bA (Nat.beq (kNo k) 3) (TP n)
 ·simp[bI,Ld]
 ·rw[c8]at h
  have hk:k=.i64:=by
   have h1:=Nat.eq_of_beq_eq_true h.1
   cases k<;>simp_all [kNo]
  subst hk
  simp[bI,Ld,M9 h.2]
def iLt (a b:Int):Bool:=@Int.casesOn (fun _=>Bool) a (fun m=>@Int.casesOn (fun _=>Bool) b (fun k=>Nat.blt m k) (fun _=>false)) (fun m=>@Int.casesOn (fun _=>Bool) b (fun _=>true) (fun k=>Nat.blt k m))
theorem tO (a b:Nat):Nat.blt a b=true↔a<b:=by simp
theorem Lx (a b:Int):iLt a b=true↔a<b:=by
 cases a<;>cases b
 ·exact (tO _ _).trans ⟨fun h=>by simpa using h,fun h=>by simpa using h⟩
 ·exact⟨fun h=>(by cases h),fun h=>by simp at h;omega⟩
 ·exact⟨fun h=>by simp;omega,fun h=>rfl⟩
 ·exact (tO _ _).trans ⟨fun h=>by omega,fun h=>by omega⟩
def fS:List UInt8→(List UInt8→Bool)→Bool
 | [],K=>K []
 | a::l,K=>fS l fun l=>K (a::l)
theorem Oq:∀ (l:List UInt8) (K:List UInt8→Bool),fS l K=K l
 | [],K=>rfl
 | a::l,K=>by simp only[fS,Oq l]
def uLt (a b:UInt8):Bool:=Nat.blt a.toNat b.toNat
def lLt:List UInt8→List UInt8→Bool
 | _,[]=>false
 | [],_::_=>true
 | a::x,b::y=>bI (uLt a b) true (bA (uEq a b) (lLt x y))
theorem Q5:∀ a b:List UInt8,lLt a b=Op.bytesLess a b
 | [],[]=>rfl
 | a::x,[]=>rfl
 | [],b::y=>rfl
 | a::x,b::y=>by
   simp only[lLt,Op.bytesLess,Q5 x y,Eu]
   have:uLt a b=decide (a<b):=by
    rw[Bool.eq_iff_iff,uLt,tO,decide_eq_true_eq,UInt8.lt_iff_toNat_lt]
   rw[this]
   cases decide (a<b)<;>cases (a==b)<;>rfl
def oV (o:Option Value) (K:AV→Bool):Bool:=match o with
 | some (.int k r)=>fI r fun r=>K (.lit (.int k r))
 | some (.bool b)=>fB b fun b=>K (.lit (.bool b))
 | some (.float k r)=>fN r fun r=>K (.lit (.float k r))
 | some r=>K (.lit r)
 | none=>false
theorem Ra (o:Option Value) (K:AV→Bool) (h:oV o K=true):∃ r,o=some r∧K (.lit r)=true:=by
 unfold oV at h
 split at h
 ·rw[Ld]at h;exact⟨_,rfl,h⟩
 ·rw[LU]at h;exact⟨_,rfl,h⟩
 ·rw[jI]at h;exact⟨_,rfl,h⟩
 ·exact⟨_,rfl,h⟩
 ·cases h
def TZ (op:BinOp) (k k':IntKind) (a b:Int) (K:AV→Bool):Bool:=
 match op with
 | .add=>bA (kEq k k') (wI k (Int.add a b) fun r=>K (.lit (.int k r)))
 | .sub=>bA (kEq k k') (wI k (Int.sub a b) fun r=>K (.lit (.int k r)))
 | .mul=>bA (kEq k k') (wI k (Int.mul a b) fun r=>K (.lit (.int k r)))
 | .eql=>bA (kEq k k') (fB (iEq a b) fun r=>K (B r))
 | .neq=>bA (kEq k k') (fB (iEq a b) fun r=>K (B !r))
 | .lss=>bA (kEq k k') (fB (iLt a b) fun r=>K (B r))
 | .leq=>bA (kEq k k') (fB (iLt b a) fun r=>K (B !r))
 | .gtr=>bA (kEq k k') (fB (iLt b a) fun r=>K (B r))
 | .geq=>bA (kEq k k') (fB (iLt a b) fun r=>K (B !r))
 | op=>oV (ck op (.int k a) (.int k' b)) K
def T3 (op:BinOp) (x y:ByteArray) (K:AV→Bool):Bool:=
 match op with
 | .add=>bA (Nat.ble (Nat.add x.data.toList.length y.data.toList.length) 1099511627776) (fS (x.data.toList++y.data.toList) fun l=>K (S ⟨⟨l⟩⟩))
 | .eql=>fB (sEq x y) fun r=>K (B r)
 | .neq=>fB (sEq x y) fun r=>K (B !r)
 | .lss=>fB (lLt x.data.toList y.data.toList) fun r=>K (B r)
 | .leq=>fB (bI (lLt x.data.toList y.data.toList) true (sEq x y)) fun r=>K (B r)
 | .gtr=>fB (bI (lLt x.data.toList y.data.toList) true (sEq x y)) fun r=>K (B !r)
 | .geq=>fB (lLt x.data.toList y.data.toList) fun r=>K (B !r)
 | _=>false
def QQ (op:BinOp) (x y:AV) (K:AV→Bool):Bool:=
 match x,y with
 | .lit (.int k a),.lit (.int k' b)=>TZ op k k' a b K
 | .lit (.string a),.lit (.string b)=>T3 op a b K
 | .lit a,.lit b=>oV (ck op a b) K
 | _,_=>false
theorem SB {op:BinOp}{k k':IntKind}{a b:Int}{K:AV→Bool}(h:TZ op k k' a b K=true):∃ r,ck op (.int k a) (.int k' b)=some r∧K (.lit r)=true:=by
 unfold TZ at h
 have h1:decide (b<a)=!decide (a≤b):=by by_cases hh:a≤b<;>simp[hh]<;>omega
 have h2:decide (a<b)=!decide (b≤a):=by by_cases hh:b≤a<;>simp[hh]<;>omega
 have e1:iLt a b=decide (a<b):=by rw[Bool.eq_iff_iff,Lx,decide_eq_true_eq]
 have e2:iLt b a=decide (b<a):=by rw[Bool.eq_iff_iff,Lx,decide_eq_true_eq]
 split at h
 case h_10=>exact Ra _ _ h
 all_goals
  rw[c8,Lg]at h
  obtain⟨rfl,h⟩:=h
  first|rw[SX]at h|rw[LU]at h
  refine⟨_,by simp only[ck,fU,if_true];rfl,?_⟩
  first
   | exact h
   | (rw[OQ]at h;exact h)
   | (rw[e1]at h;exact h)
   | (rw[e2]at h;exact h)
   | (rw[e1,h2,Bool.not_not]at h;exact h)
   | (rw[e2,h1,Bool.not_not]at h;exact h)
theorem RT {op:BinOp}{x y:ByteArray}{K:AV→Bool}(h:T3 op x y K=true):∃ r,ck op (.string x) (.string y)=some r∧K (.lit r)=true:=by
 have he:(x.toList==y.toList)=sEq x y:=by
  rw[Bool.eq_iff_iff,EF,beq_iff_eq,ByteArray.toList_eq,ByteArray.toList_eq]
  exact⟨fun h=>by rcases x with ⟨⟨x⟩⟩;rcases y with ⟨⟨y⟩⟩;simp at h;rw[h],fun h=>by rw[h]⟩
 have hl:Op.bytesLess x.toList y.toList=lLt x.data.toList y.data.toList:=by rw[ByteArray.toList_eq,ByteArray.toList_eq,Q5]
 have hor:∀ a b:Bool,bI a true b=(a||b):=fun a b=>by cases a<;>rfl
 have hbl:ck op (.string x) (.string y)=ta op x y:=by cases op<;>rfl
 rw[hbl]
 unfold T3 at h
 unfold ta
 simp only[he,hl]
 split at h
 ·rw[c8,Oq]at h
  have hs:=Nat.le_of_ble_eq_true h.1
  have hsz:¬ ((x.size+y.size:Nat):Int) > IntKind.i64.max:=by
   have h1:x.data.toList.length=x.size:=rfl
   have h2:y.data.toList.length=y.size:=rfl
   have h3:Nat.add x.data.toList.length y.data.toList.length=x.size+y.size:=rfl
   rw[h3]at hs
   have:IntKind.i64.max=9223372036854775807:=by decide
   rw[this];omega
  refine⟨_,by rw[if_neg hsz],?_⟩
  have:(x++y:ByteArray)=⟨⟨x.data.toList++y.data.toList⟩⟩:=by
   have:(x++y).data=x.data++y.data:=by simp
   rcases h:x++y with ⟨⟨l⟩⟩
   rw[h]at this
   congr 1
   apply Array.toList_inj.1
   have h2:=congrArg Array.toList this
   simpa using h2
  rw[this]
  exact h.2
 all_goals first
  | cases h;done
  | (rw[LU]at h;exact⟨_,rfl,h⟩)
  | (rw[LU,hor]at h;exact⟨_,rfl,h⟩)
theorem FO {op:BinOp}{x y:AV}{K:AV→Bool}(h:QQ op x y K=true):yZ op x y (fun r=>K r=true):=by
 unfold QQ at h
 unfold yZ
 split at h
 ·obtain⟨r,e,k⟩:=SB h;simp only[e];exact k
 ·obtain⟨r,e,k⟩:=RT h;simp only[e];exact k
 ·obtain⟨r,e,k⟩:=Ra _ _ h;simp only[e];exact k
 ·cases h
def Fl (kd:FloatKind) (x:AV) (K:AV→Bool):Bool:=match x with|.lit (.int _ n)=>fN (kd.nearest n) fun r=>K (.lit (.float kd r))|_=>false
theorem Jy {kd:FloatKind}{x:AV}{K:AV→Bool}(h:Fl kd x K=true):j1 kd x (fun r=>K r=true):=by
 unfold Fl at h
 unfold j1
 split at h
 ·rw[jI]at h;exact h
 ·cases h
def FC (kd:IntKind) (x:AV) (K:AV→Bool):Bool:=match x with|.lit (.int _ n)=>wI kd n fun r=>K (.lit (.int kd r))|_=>false
theorem KL {kd:IntKind}{x:AV}{K:AV→Bool}(h:FC kd x K=true):j5 kd x (fun r=>K r=true):=by
 unfold FC at h
 unfold j5
 split at h
 ·rw[SX]at h;exact h
 ·cases h
def tUn (op:UnOp) (x:AV) (K:AV→Bool):Bool:=bUn op x fun v=>match v with|.lit r=>oV (some r) K|v=>K v
theorem Tj {op:UnOp}{x:AV}{K:AV→Bool}(h:tUn op x K=true):pUn op x (fun r=>K r=true):=by
 have hk:∀ v:AV,(match v with|.lit r=>oV (some r) K|v=>K v)=true→K v=true:=fun v k=>by
  split at k
  ·obtain⟨r',e,k⟩:=Ra _ _ k;cases e;exact k
  ·exact k
 have k:=TB _ _ h
 unfold pUn at k ⊢
 split at k<;>first|exact k.elim|exact hk _ k
def O5:List UInt8→Nat→Option UInt8
 | [],_=>none
 | b::l,i=>@Nat.casesOn (fun _=>Option UInt8) i (some b) (fun i=>O5 l i)
theorem LM:∀ (l:List UInt8) (i:Nat),O5 l i=l[i]?
 | [],i=>by simp[O5]
 | b::l,0=>rfl
 | b::l,i+1=>by show O5 l i=_;rw[LM l i];simp
def Ej (v i:AV) (K:AV→Bool):Bool:=match v,i with
 | .lit (.string s),.lit (.int _ (.ofNat n))=>(match O5 s.data.toList n with|some b=>fN b.toNat fun c=>K (.lit (.int .u8 (.ofNat c)))|none=>false)
 | _,_=>false
theorem Jg {v i:AV}{K:AV→Bool}(h:Ej v i K=true):ja v i (fun r=>K r=true):=by
 unfold Ej at h
 unfold ja
 split at h
 ·rename_i s k n
  rw[LM]at h
  split at h
  ·rename_i b hb
   rw[jI]at h
   have hl:n<s.size:=(List.getElem?_eq_some_iff.1 hb).1
   refine⟨⟨by simp,by simpa using hl⟩,?_⟩
   have:bAt s (Int.ofNat n)=Int.ofNat b.toNat:=by
    unfold bAt
    have:s.data[n]?=some b:=by rw[← Array.getElem?_toList];exact hb
    simp[this]
   rw[this];exact h
  ·cases h
 ·cases h
def RH (o:Option AV) (d:Nat):Option Nat:=match o with|none=>some d|some (.lit (.int _ (.ofNat n)))=>some n|_=>none
theorem LS {o:Option AV}{d m:Nat}(h:RH o d=some m):jq o d=some (m:Int):=by
 unfold RH at h
 split at h
 ·cases h;rfl
 ·cases h;rfl
 ·cases h
def Fp (v:AV) (lo hi:Option AV) (K:AV→Bool):Bool:=
 match v with
 | .lit (.string s)=>(match RH lo 0,RH hi s.data.toList.length with
   | some l,some h=>bA (Nat.ble l h) (bA (Nat.ble h s.data.toList.length) (fS ((s.data.toList.drop l).take (Nat.sub h l)) fun r=>K (S ⟨⟨r⟩⟩)))
   | _,_=>false)
 | _=>false
theorem JV (s:ByteArray) (l h:Nat):s.extract l h=⟨⟨(s.data.toList.drop l).take (h-l)⟩⟩:=by
 have h1:(s.extract l h).data=s.data.extract l h:=by simp
 rcases he:s.extract l h with ⟨d⟩
 rw[he]at h1
 congr 1
 apply Array.toList_inj.1
 have h2:=congrArg Array.toList h1
 simpa [Array.toList_extract,List.extract_eq_take_drop] using h2
theorem Ko {v:AV}{lo hi:Option AV}{K:AV→Bool}(k:Fp v lo hi K=true):gF v lo hi (fun r=>K r=true):=by
 unfold Fp at k
 unfold gF
 split at k
 ·rename_i s
  split at k
  ·rename_i l h h1 h2
   rw[c8,c8,Oq]at k
   have a1:=Nat.le_of_ble_eq_true k.1
   have a2:=Nat.le_of_ble_eq_true k.2.1
   have h2':jq hi s.size=some (h:Int):=LS h2
   have h1':jq lo 0=some (l:Int):=LS h1
   simp only[h1',h2']
   have hz:s.data.toList.length=s.size:=rfl
   rw[hz]at a2
   refine⟨⟨by omega,by omega,by omega⟩,?_⟩
   simp only[Int.toNat_natCast]
   rw[JV]
   exact k.2.2
  ·cases k
 ·cases k
def Pa (v:AV) (K:AV→Bool):Bool:=match v with|.lit (.string s)=>fN s.data.toList.length fun n=>K (I (.ofNat n))|_=>false
theorem Ox {v:AV}{K:AV→Bool}(h:Pa v K=true):uW v (fun r=>K r=true):=by
 unfold Pa at h
 unfold uW
 split at h
 ·rw[jI]at h;exact h
 ·cases h
def vF (off:Nat) (v:AV) (K:AV→Bool):Bool:=match v with|.ptr i o=>fN (Nat.add o off) fun o=>K (.ptr i o)|.cptr cs=>K (.cptr (cs.drop off))|_=>false
theorem CK {off:Nat}{v:AV}{K:AV→Bool}(h:vF off v K=true):em off v (fun r=>K r=true):=by
 unfold vF at h
 unfold em
 split at h
 ·rw[jI]at h;exact h
 ·exact h
 ·cases h
def ve (size:Nat) (v i:AV) (K:AV→Bool):Bool:=
 match i with
 | .lit (.int _ (.ofNat n))=>match v with
   | .sl j off len sz=>bA (Nat.blt n len) (bA (Nat.beq sz size) (fN (Nat.add off (Nat.mul n size)) fun o=>K (.ptr j o)))
   | .snap m cs=>bA (Nat.blt n m) (K (.cptr (cs.drop (Nat.mul n size))))
   | .full m cs=>bA (Nat.blt n m) (K (.cptr (cs.drop (Nat.mul n size))))
   | _=>false
 | _=>false
theorem CS {size:Nat}{v i:AV}{K:AV→Bool}(h:ve size v i K=true):dA size v i (fun r=>K r=true):=by
 unfold ve at h
 unfold dA
 split at h
 ·rename_i k n
  simp only[asI]
  split at h
  ·rw[c8,c8,jI,tO]at h
   exact⟨⟨by simp,by simpa using h.1,Nat.eq_of_beq_eq_true h.2.1⟩,h.2.2⟩
  ·rw[c8,tO]at h
   exact⟨⟨by simp,by simpa using h.1⟩,h.2⟩
  ·rw[c8,tO]at h
   exact⟨⟨by simp,by simpa using h.1⟩,h.2⟩
  ·cases h
 ·cases h
end
section
structure V16 where
 (a0 a1 a2 a3 a4 a5 a6 a7 a8 a9 a10 a11 a12 a13 a14 a15:Option AV)
structure E16 where
 (b0 b1 b2 b3 b4 b5 b6 b7 b8 b9 b10 b11 b12 b13 b14 b15:V16)
structure DA where
 g:V16→Option AV
 s:V16→AV→V16
structure Ut where
 g:E16→Option AV
 s:E16→AV→E16
def v0:V16:=⟨none,none,none,none,none,none,none,none,none,none,none,none,none,none,none,none⟩
def ee0:E16:=⟨v0,v0,v0,v0,v0,v0,v0,v0,v0,v0,v0,v0,v0,v0,v0,v0⟩
def Dm (i:Nat):DA:=match i with
 | 0=>⟨fun v=>v.a0,fun v x=>match v with|⟨a0,a1,a2,a3,a4,a5,a6,a7,a8,a9,a10,a11,a12,a13,a14,a15⟩=>⟨some x,a1,a2,a3,a4,a5,a6,a7,a8,a9,a10,a11,a12,a13,a14,a15⟩⟩
 | 1=>⟨fun v=>v.a1,fun v x=>match v with|⟨a0,a1,a2,a3,a4,a5,a6,a7,a8,a9,a10,a11,a12,a13,a14,a15⟩=>⟨a0,some x,a2,a3,a4,a5,a6,a7,a8,a9,a10,a11,a12,a13,a14,a15⟩⟩
 | 2=>⟨fun v=>v.a2,fun v x=>match v with|⟨a0,a1,a2,a3,a4,a5,a6,a7,a8,a9,a10,a11,a12,a13,a14,a15⟩=>⟨a0,a1,some x,a3,a4,a5,a6,a7,a8,a9,a10,a11,a12,a13,a14,a15⟩⟩
 | 3=>⟨fun v=>v.a3,fun v x=>match v with|⟨a0,a1,a2,a3,a4,a5,a6,a7,a8,a9,a10,a11,a12,a13,a14,a15⟩=>⟨a0,a1,a2,some x,a4,a5,a6,a7,a8,a9,a10,a11,a12,a13,a14,a15⟩⟩
 | 4=>⟨fun v=>v.a4,fun v x=>match v with|⟨a0,a1,a2,a3,a4,a5,a6,a7,a8,a9,a10,a11,a12,a13,a14,a15⟩=>⟨a0,a1,a2,a3,some x,a5,a6,a7,a8,a9,a10,a11,a12,a13,a14,a15⟩⟩
 | 5=>⟨fun v=>v.a5,fun v x=>match v with|⟨a0,a1,a2,a3,a4,a5,a6,a7,a8,a9,a10,a11,a12,a13,a14,a15⟩=>⟨a0,a1,a2,a3,a4,some x,a6,a7,a8,a9,a10,a11,a12,a13,a14,a15⟩⟩
 | 6=>⟨fun v=>v.a6,fun v x=>match v with|⟨a0,a1,a2,a3,a4,a5,a6,a7,a8,a9,a10,a11,a12,a13,a14,a15⟩=>⟨a0,a1,a2,a3,a4,a5,some x,a7,a8,a9,a10,a11,a12,a13,a14,a15⟩⟩
 | 7=>⟨fun v=>v.a7,fun v x=>match v with|⟨a0,a1,a2,a3,a4,a5,a6,a7,a8,a9,a10,a11,a12,a13,a14,a15⟩=>⟨a0,a1,a2,a3,a4,a5,a6,some x,a8,a9,a10,a11,a12,a13,a14,a15⟩⟩
 | 8=>⟨fun v=>v.a8,fun v x=>match v with|⟨a0,a1,a2,a3,a4,a5,a6,a7,a8,a9,a10,a11,a12,a13,a14,a15⟩=>⟨a0,a1,a2,a3,a4,a5,a6,a7,some x,a9,a10,a11,a12,a13,a14,a15⟩⟩
 | 9=>⟨fun v=>v.a9,fun v x=>match v with|⟨a0,a1,a2,a3,a4,a5,a6,a7,a8,a9,a10,a11,a12,a13,a14,a15⟩=>⟨a0,a1,a2,a3,a4,a5,a6,a7,a8,some x,a10,a11,a12,a13,a14,a15⟩⟩
 | 10=>⟨fun v=>v.a10,fun v x=>match v with|⟨a0,a1,a2,a3,a4,a5,a6,a7,a8,a9,a10,a11,a12,a13,a14,a15⟩=>⟨a0,a1,a2,a3,a4,a5,a6,a7,a8,a9,some x,a11,a12,a13,a14,a15⟩⟩
 | 11=>⟨fun v=>v.a11,fun v x=>match v with|⟨a0,a1,a2,a3,a4,a5,a6,a7,a8,a9,a10,a11,a12,a13,a14,a15⟩=>⟨a0,a1,a2,a3,a4,a5,a6,a7,a8,a9,a10,some x,a12,a13,a14,a15⟩⟩
 | 12=>⟨fun v=>v.a12,fun v x=>match v with|⟨a0,a1,a2,a3,a4,a5,a6,a7,a8,a9,a10,a11,a12,a13,a14,a15⟩=>⟨a0,a1,a2,a3,a4,a5,a6,a7,a8,a9,a10,a11,some x,a13,a14,a15⟩⟩
 | 13=>⟨fun v=>v.a13,fun v x=>match v with|⟨a0,a1,a2,a3,a4,a5,a6,a7,a8,a9,a10,a11,a12,a13,a14,a15⟩=>⟨a0,a1,a2,a3,a4,a5,a6,a7,a8,a9,a10,a11,a12,some x,a14,a15⟩⟩
 | 14=>⟨fun v=>v.a14,fun v x=>match v with|⟨a0,a1,a2,a3,a4,a5,a6,a7,a8,a9,a10,a11,a12,a13,a14,a15⟩=>⟨a0,a1,a2,a3,a4,a5,a6,a7,a8,a9,a10,a11,a12,a13,some x,a15⟩⟩
 | 15=>⟨fun v=>v.a15,fun v x=>match v with|⟨a0,a1,a2,a3,a4,a5,a6,a7,a8,a9,a10,a11,a12,a13,a14,a15⟩=>⟨a0,a1,a2,a3,a4,a5,a6,a7,a8,a9,a10,a11,a12,a13,a14,some x⟩⟩
 | _=>⟨fun _=>none,fun v _=>v⟩
def C7 (j:Nat) (l:DA):Ut:=match j with
 | 0=>⟨fun e=>l.g e.b0,fun e x=>match e with|⟨b0,b1,b2,b3,b4,b5,b6,b7,b8,b9,b10,b11,b12,b13,b14,b15⟩=>⟨l.s b0 x,b1,b2,b3,b4,b5,b6,b7,b8,b9,b10,b11,b12,b13,b14,b15⟩⟩
 | 1=>⟨fun e=>l.g e.b1,fun e x=>match e with|⟨b0,b1,b2,b3,b4,b5,b6,b7,b8,b9,b10,b11,b12,b13,b14,b15⟩=>⟨b0,l.s b1 x,b2,b3,b4,b5,b6,b7,b8,b9,b10,b11,b12,b13,b14,b15⟩⟩
 | 2=>⟨fun e=>l.g e.b2,fun e x=>match e with|⟨b0,b1,b2,b3,b4,b5,b6,b7,b8,b9,b10,b11,b12,b13,b14,b15⟩=>⟨b0,b1,l.s b2 x,b3,b4,b5,b6,b7,b8,b9,b10,b11,b12,b13,b14,b15⟩⟩
 | 3=>⟨fun e=>l.g e.b3,fun e x=>match e with|⟨b0,b1,b2,b3,b4,b5,b6,b7,b8,b9,b10,b11,b12,b13,b14,b15⟩=>⟨b0,b1,b2,l.s b3 x,b4,b5,b6,b7,b8,b9,b10,b11,b12,b13,b14,b15⟩⟩
 | 4=>⟨fun e=>l.g e.b4,fun e x=>match e with|⟨b0,b1,b2,b3,b4,b5,b6,b7,b8,b9,b10,b11,b12,b13,b14,b15⟩=>⟨b0,b1,b2,b3,l.s b4 x,b5,b6,b7,b8,b9,b10,b11,b12,b13,b14,b15⟩⟩
 | 5=>⟨fun e=>l.g e.b5,fun e x=>match e with|⟨b0,b1,b2,b3,b4,b5,b6,b7,b8,b9,b10,b11,b12,b13,b14,b15⟩=>⟨b0,b1,b2,b3,b4,l.s b5 x,b6,b7,b8,b9,b10,b11,b12,b13,b14,b15⟩⟩
 | 6=>⟨fun e=>l.g e.b6,fun e x=>match e with|⟨b0,b1,b2,b3,b4,b5,b6,b7,b8,b9,b10,b11,b12,b13,b14,b15⟩=>⟨b0,b1,b2,b3,b4,b5,l.s b6 x,b7,b8,b9,b10,b11,b12,b13,b14,b15⟩⟩
 | 7=>⟨fun e=>l.g e.b7,fun e x=>match e with|⟨b0,b1,b2,b3,b4,b5,b6,b7,b8,b9,b10,b11,b12,b13,b14,b15⟩=>⟨b0,b1,b2,b3,b4,b5,b6,l.s b7 x,b8,b9,b10,b11,b12,b13,b14,b15⟩⟩
 | 8=>⟨fun e=>l.g e.b8,fun e x=>match e with|⟨b0,b1,b2,b3,b4,b5,b6,b7,b8,b9,b10,b11,b12,b13,b14,b15⟩=>⟨b0,b1,b2,b3,b4,b5,b6,b7,l.s b8 x,b9,b10,b11,b12,b13,b14,b15⟩⟩
 | 9=>⟨fun e=>l.g e.b9,fun e x=>match e with|⟨b0,b1,b2,b3,b4,b5,b6,b7,b8,b9,b10,b11,b12,b13,b14,b15⟩=>⟨b0,b1,b2,b3,b4,b5,b6,b7,b8,l.s b9 x,b10,b11,b12,b13,b14,b15⟩⟩
 | 10=>⟨fun e=>l.g e.b10,fun e x=>match e with|⟨b0,b1,b2,b3,b4,b5,b6,b7,b8,b9,b10,b11,b12,b13,b14,b15⟩=>⟨b0,b1,b2,b3,b4,b5,b6,b7,b8,b9,l.s b10 x,b11,b12,b13,b14,b15⟩⟩
 | 11=>⟨fun e=>l.g e.b11,fun e x=>match e with|⟨b0,b1,b2,b3,b4,b5,b6,b7,b8,b9,b10,b11,b12,b13,b14,b15⟩=>⟨b0,b1,b2,b3,b4,b5,b6,b7,b8,b9,b10,l.s b11 x,b12,b13,b14,b15⟩⟩
 | 12=>⟨fun e=>l.g e.b12,fun e x=>match e with|⟨b0,b1,b2,b3,b4,b5,b6,b7,b8,b9,b10,b11,b12,b13,b14,b15⟩=>⟨b0,b1,b2,b3,b4,b5,b6,b7,b8,b9,b10,b11,l.s b12 x,b13,b14,b15⟩⟩
 | 13=>⟨fun e=>l.g e.b13,fun e x=>match e with|⟨b0,b1,b2,b3,b4,b5,b6,b7,b8,b9,b10,b11,b12,b13,b14,b15⟩=>⟨b0,b1,b2,b3,b4,b5,b6,b7,b8,b9,b10,b11,b12,l.s b13 x,b14,b15⟩⟩
 | 14=>⟨fun e=>l.g e.b14,fun e x=>match e with|⟨b0,b1,b2,b3,b4,b5,b6,b7,b8,b9,b10,b11,b12,b13,b14,b15⟩=>⟨b0,b1,b2,b3,b4,b5,b6,b7,b8,b9,b10,b11,b12,b13,l.s b14 x,b15⟩⟩
 | 15=>⟨fun e=>l.g e.b15,fun e x=>match e with|⟨b0,b1,b2,b3,b4,b5,b6,b7,b8,b9,b10,b11,b12,b13,b14,b15⟩=>⟨b0,b1,b2,b3,b4,b5,b6,b7,b8,b9,b10,b11,b12,b13,b14,l.s b15 x⟩⟩
 | _=>⟨fun _=>none,fun e _=>e⟩
def oY (s:Nat):Ut:=C7 (Nat.div s 16) (Dm (Nat.mod s 16))
theorem Fx {i:Nat}(h:i<16):i=0∨i=1∨i=2∨i=3∨i=4∨i=5∨i=6∨i=7∨i=8∨i=9∨i=10∨i=11∨i=12∨i=13∨i=14∨i=15:=by omega
theorem JH {i:Nat}(h:i<16) (v:V16) (x:AV):(Dm i).g ((Dm i).s v x)=some x:=by
 rcases Fx h with rfl|rfl|rfl|rfl|rfl|rfl|rfl|rfl|rfl|rfl|rfl|rfl|rfl|rfl|rfl|rfl<;>rfl
theorem GN {i j:Nat}(h:i<16) (hj:j<16) (e:i≠j) (v:V16) (x:AV):(Dm i).g ((Dm j).s v x)=(Dm i).g v:=by
 rcases Fx h with rfl|rfl|rfl|rfl|rfl|rfl|rfl|rfl|rfl|rfl|rfl|rfl|rfl|rfl|rfl|rfl<;>rcases Fx hj with rfl|rfl|rfl|rfl|rfl|rfl|rfl|rfl|rfl|rfl|rfl|rfl|rfl|rfl|rfl|rfl<;>first|exact absurd rfl e|rfl
def Of (j:Nat) (e:E16):V16:=match j with
 | 0=>e.b0
 | 1=>e.b1
 | 2=>e.b2
 | 3=>e.b3
 | 4=>e.b4
 | 5=>e.b5
 | 6=>e.b6
 | 7=>e.b7
 | 8=>e.b8
 | 9=>e.b9
 | 10=>e.b10
 | 11=>e.b11
 | 12=>e.b12
 | 13=>e.b13
 | 14=>e.b14
 | 15=>e.b15
 | _=>v0
theorem Ml {j:Nat}(h:j<16) (l:DA) (e:E16):(C7 j l).g e=l.g (Of j e):=by
 rcases Fx h with rfl|rfl|rfl|rfl|rfl|rfl|rfl|rfl|rfl|rfl|rfl|rfl|rfl|rfl|rfl|rfl<;>rfl
theorem Oi {j:Nat}(h:j<16) (m:DA) (e:E16) (x:AV):Of j ((C7 j m).s e x)=m.s (Of j e) x:=by
 rcases Fx h with rfl|rfl|rfl|rfl|rfl|rfl|rfl|rfl|rfl|rfl|rfl|rfl|rfl|rfl|rfl|rfl<;>rfl
theorem La {j k:Nat}(h:j<16) (hk:k<16) (ne:j≠k) (m:DA) (e:E16) (x:AV):Of j ((C7 k m).s e x)=Of j e:=by
 rcases Fx h with rfl|rfl|rfl|rfl|rfl|rfl|rfl|rfl|rfl|rfl|rfl|rfl|rfl|rfl|rfl|rfl<;>rcases Fx hk with rfl|rfl|rfl|rfl|rfl|rfl|rfl|rfl|rfl|rfl|rfl|rfl|rfl|rfl|rfl|rfl<;>first|exact absurd rfl ne|rfl
theorem x5 {j:Nat}(h:¬ j<16) (l:DA):C7 j l=⟨fun _=>none,fun e _=>e⟩:=by
 unfold C7
 split<;>first|(exfalso;omega)|rfl
theorem OM {k d:Nat}{e:E16}{x v:AV}(h:(oY k).g ((oY d).s e x)=some v):(k=d∧v=x)∨(k≠d∧(oY k).g e=some v):=by
 unfold oY at *
 have hk:Nat.mod k 16<16:=Nat.mod_lt _ (by omega)
 have hd:Nat.mod d 16<16:=Nat.mod_lt _ (by omega)
 by_cases hK:Nat.div k 16<16
 ·by_cases hD:Nat.div d 16<16
  ·rw[Ml hK]at h ⊢
   by_cases e1:Nat.div k 16=Nat.div d 16
   ·rw[e1]at h ⊢
    rw[Oi hD]at h
    by_cases e2:Nat.mod k 16=Nat.mod d 16
    ·rw[e2,JH hd]at h
     cases h
     refine .inl ⟨?_,rfl⟩
     have a1:k / 16=d / 16:=e1
     have a2:k%16=d%16:=e2
     omega
    ·rw[GN hk hd e2]at h
     exact .inr ⟨fun e=>e2 (by rw[e]),h⟩
   ·rw[La hK hD e1]at h
    exact .inr ⟨fun e=>e1 (by rw[e]),h⟩
  ·rw[x5 hD]at h
   exact .inr ⟨fun e=>hD (by rw[← e];exact hK),h⟩
 ·rw[x5 hK]at h
  cases h
theorem R9 (k:Nat):(oY k).g ee0=none:=by
 unfold oY
 have hk:Nat.mod k 16<16:=Nat.mod_lt _ (by omega)
 by_cases hK:Nat.div k 16<16
 ·rw[Ml hK]
  have:Of (Nat.div k 16) ee0=v0:=by rcases Fx hK with h|h|h|h|h|h|h|h|h|h|h|h|h|h|h|h<;>rw[h]<;>rfl
  rw[this]
  rcases Fx hk with h|h|h|h|h|h|h|h|h|h|h|h|h|h|h|h<;>rw[h]<;>rfl
 ·rw[x5 hK]
end
section
abbrev ET:=E16
abbrev jT:=FuncId→List AV→HT→Nat→(AV→HT→Nat→Bool)→Bool
structure ClX where
 f:ET→(AV→Bool)→Bool
structure ClL where
 f:ET→(List AV→Bool)→Bool
structure ClP where
 f:ET→(Option AV→Bool)→Bool
structure ClO where
 f:jT→ET→HT→Nat→(AV→HT→Nat→Bool)→Bool
def oM (o:Option AV) (K:AV→Bool):Bool:=match o with|some v=>K v|none=>false
def eo (x:Operand):ClX:=match x with
 | .tmp s=>⟨fun e K=>oM ((oY s).g e) K⟩
 | .const v=>match okV v with
   | true=>⟨fun _ K=>K (ofV v)⟩
   | false=>⟨fun _ _=>false⟩
 | .global _=>⟨fun _ _=>false⟩
 | .func f=>⟨fun _ K=>K (.fn (.func f) [] [])⟩
def pi (l:List Operand):ClL:=match l with
 | []=>⟨fun _ K=>K []⟩
 | x::xs=>⟨fun e K=>(eo x).f e fun v=>(pi xs).f e fun vs=>K (v::vs)⟩
def tG (x:Option Operand):ClP:=match x with
 | none=>⟨fun _ K=>K none⟩
 | some x=>⟨fun e K=>(eo x).f e fun v=>K (some v)⟩
def noO:ClO:=⟨fun _ _ _ _ _=>false⟩
def q1 (x:Operand) (g:AV→(AV→Bool)→Bool):ClO:=⟨fun _ e t n K=>(eo x).f e fun v=>g v fun r=>K r t n⟩
def q1t (x:Operand) (g:AV→HT→(AV→Bool)→Bool):ClO:=⟨fun _ e t n K=>(eo x).f e fun v=>g v t fun r=>K r t n⟩
def q2 (x y:Operand) (g:AV→AV→(AV→Bool)→Bool):ClO:=⟨fun _ e t n K=>(eo x).f e fun v=>(eo y).f e fun u=>g v u fun r=>K r t n⟩
def q2t (x y:Operand) (g:AV→AV→HT→(AV→Bool)→Bool):ClO:=⟨fun _ e t n K=>(eo x).f e fun v=>(eo y).f e fun u=>g v u t fun r=>K r t n⟩
def e1 (x:Operand) (g:AV→HT→Nat→(AV→HT→Nat→Bool)→Bool):ClO:=⟨fun _ e t n K=>(eo x).f e fun v=>g v t n K⟩
def e2 (x y:Operand) (g:AV→AV→HT→Nat→(AV→HT→Nat→Bool)→Bool):ClO:=⟨fun _ e t n K=>(eo x).f e fun v=>(eo y).f e fun u=>g v u t n K⟩
def s2 (x y:Operand) (g:AV→AV→HT→Nat→(HT→Nat→Bool)→Bool):ClO:=⟨fun _ e t n K=>(eo x).f e fun v=>(eo y).f e fun u=>g v u t n fun t n=>K (.tup []) t n⟩
def s3 (x y z:Operand) (g:AV→AV→AV→HT→Nat→(HT→Nat→Bool)→Bool):ClO:=⟨fun _ e t n K=>(eo x).f e fun v=>(eo y).f e fun u=>(eo z).f e fun w=>g v u w t n fun t n=>K (.tup []) t n⟩
def SY (c a b:AV) (K:AV→Bool):Bool:=match c with|.lit (.bool true)=>K a|.lit (.bool false)=>K b|_=>false
def Kk (P:Program) (t:TypeId) (is:List Nat) (xs:List Operand):ClO:=
 match P.underlying t,P.info? t with
 | some (.struct fs),some i=>(match i.zero,gV P fs.toList with
   | some z,some l=>(match okV z with
     | true=>⟨fun _ e t n K=>(pi xs).f e fun vs=>match vc (fun j=>l[j]?) (is.zip vs) with|some qs=>JR (ofV z).cells qs fun r=>K r t n|none=>false⟩
     | false=>noO)
   | _,_=>noO)
 | _,_=>noO
def tr (P:Program) (t:TypeId) (m:Nat) (is:List Nat) (xs:List Operand):ClO:=
 match P.underlying t with
 | some (.slice e)=>(match P.info? e with
   | some i=>(match i.zero with
     | some _=>(match is==List.range m&&decide (m*i.size≤16777216) with
       | true=>⟨fun _ e t n K=>(pi xs).f e fun vs=>tE m i.size vs fun r=>K r t n⟩
       | false=>noO)
     | none=>noO)
   | none=>noO)
 | _=>noO
def S5 (P:Program) (t:TypeId) (x:Operand):ClO:=
 match P.underlying t,P.info? t with
 | some d,some i=>(match kx d with|true=>q1t x (Bb i.size)|false=>q1t x A5)
 | _,_=>noO
def Us (P:Program) (op:BinOp) (t:TypeId) (x y:Operand):ClO:=
 match P.underlying t with
 | some .bool=>q2 x y (On op)
 | some (.pointer _)=>q2 x y (QI op)
 | some (.int _)=>q2 x y (QQ op)
 | some .string=>q2 x y (QQ op)
 | some (.float _)=>q2 x y (QQ op)
 | _=>noO
def S0 (P:Program) (s d:TypeId) (x:Operand):ClO:=
 match P.underlying s,P.underlying d with
 | some (.int _),some (.int k)=>q1 x (FC k)
 | some (.int _),some (.float k)=>q1 x (Fl k)
 | some .string,some .string=>q1 x Ff
 | _,_=>noO
def QJ (P:Program) (t:TypeId) (x:Operand) (lo hi mx:Option Operand):ClO:=
 match P.underlying t,mx with
 | some .string,none=>⟨fun _ e t n K=>(eo x).f e fun v=>(tG lo).f e fun l=>(tG hi).f e fun u=>Fp v l u fun r=>K r t n⟩
 | some (.slice el),none=>(match P.info? el with|some i=>⟨fun _ e t n K=>(eo x).f e fun v=>(tG lo).f e fun l=>(tG hi).f e fun u=>E9 i.size v l u fun r=>K r t n⟩|none=>noO)
 | some (.slice el),some m=>⟨fun _ e t n K=>(eo x).f e fun v=>(tG lo).f e fun l=>(tG hi).f e fun u=>(eo m).f e fun mv=>(match P.info? el,l,u,mv with|some _,none,some (.lit (.int _ 0)),.lit (.int _ 0)=>Es v fun r=>K r t n|_,_,_,_=>false)⟩
 | _,_=>noO
def z8 (P:Program) (t:TypeId) (x:Operand) (f:Nat):ClO:=
 match P.underlying t with
 | some (.struct fs)=>(match fs[f]? with
   | some fd=>(match P.info? fd.type with|some i=>(match i.size with|0=>noO|_+1=>q1 x (vF fd.offset))|none=>noO)
   | none=>noO)
 | _=>noO
def SW (P:Program) (t:TypeId) (off:Nat) (x:Operand):ClO:=
 match P.underlying t,P.info? t with
 | some d,some i=>(match kx d with|true=>q1 x (JM off i.size)|false=>q1 x (K0 off))
 | _,_=>noO
def P6 (P:Program) (t:TypeId) (x:Operand) (f:Nat):ClO:=
 match P.underlying t with
 | some (.struct fs)=>(match fs[f]? with|some fd=>SW P fd.type fd.offset x|none=>noO)
 | _=>noO
def B9 (P:Program) (t:TypeId) (x i:Operand):ClO:=
 match P.underlying t with
 | some (.slice e)=>(match P.info? e with|some ei=>q2 x i (ve ei.size)|none=>noO)
 | some (.array m e)=>(match P.info? e with|some ei=>q2 x i (nS m ei.size)|none=>noO)
 | _=>noO
def Pk (P:Program) (t:TypeId) (x i:Operand):ClO:=
 match P.underlying t with
 | some .string=>q2 x i Ej
 | _=>noO
def Ur (P:Program) (t:TypeId) (x:Operand):ClO:=
 match P.underlying t with
 | some .string=>q1 x Pa
 | some (.slice _)=>q1 x Pz
 | some (.map _ _)=>q1t x Py
 | _=>noO
def Lw (P:Program) (t t2:TypeId) (x y:Operand):ClO:=
 match P.underlying t,P.underlying t2 with
 | some (.slice e),some d2=>(match P.info? e with
   | some i=>(match Qb i d2 with|true=>e2 x y (FG i.size i.bytes)|false=>noO)
   | none=>noO)
 | _,_=>noO
def Ub (P:Program) (t:TypeId):ClO:=
 match P.info? t with
 | some i=>(match i.zero with|some z=>(match okV z with|true=>⟨fun _ _ t n K=>R4 (ofV z).cells t n K⟩|false=>noO)|none=>noO)
 | none=>noO
def O0 (P:Program) (t:TypeId) (x u:Operand):ClO:=
 match P.info? t with
 | some i=>s2 x u (Jo i.size)
 | none=>noO
def PI (P:Program) (t:TypeId) (x:Operand):ClO:=
 match P.underlying t with
 | some (.interface _)=>noO
 | some _=>q1 x (KM t)
 | none=>noO
def S6 (c:jT) (v:AV) (vs:List AV) (t:HT) (n:Nat) (K:AV→HT→Nat→Bool):Bool:=
 match v with
 | .fn (.func f) fi ca=>c f (fi++vs++ca) t n K
 | _=>false
def OV (P:Program) (c:Call):ClO:=match c.callee with
 | .value f=>⟨fun call e t n K=>(pi c.args.toList).f e fun vs=>(eo f).f e fun v=>S6 call v vs t n K⟩
 | .builtin .len=>(match c.args.toList,c.argTypes.toList with|[x],[t]=>Ur P t x|_,_=>noO)
 | .builtin .append=>(match c.args.toList,c.argTypes.toList with|[x,y],[t,t2]=>Lw P t t2 x y|_,_=>noO)
 | .builtin .max=>(match c.args.toList with|[x,y]=>q2 x y TD|_=>noO)
 | .builtin .min=>(match c.args.toList with|[x,y]=>q2 x y Ts|_=>noO)
 | _=>noO
def QE (P:Program) (op:Op):ClO:=match op with
 | .move x=>⟨fun _ e t n K=>(eo x).f e fun v=>K v t n⟩
 | .assign x=>⟨fun _ e t n K=>(eo x).f e fun v=>K v t n⟩
 | .pick c a b=>⟨fun _ e t n K=>(eo c).f e fun cv=>(eo a).f e fun av=>(eo b).f e fun bv=>SY cv av bv fun r=>K r t n⟩
 | .alloc e=>Ub P e
 | .box _ x=>e1 x Tk
 | .build t ps=>Kk P t (ps.toList.map (·.1)) (ps.toList.map (·.2))
 | .buildSlice t m ps=>tr P t m (ps.toList.map (·.1)) (ps.toList.map (·.2))
 | .load t x=>S5 P t x
 | .store t x u=>O0 P t x u
 | .nilCheck x=>q1 x TK
 | .binOp op t x y _=>Us P op t x y
 | .unOp op _ x=>q1 x (tUn op)
 | .convert s d x=>S0 P s d x
 | .makeInterface t x=>PI P t x
 | .makeFunc f fi ca=>⟨fun _ e t n K=>(pi fi.toList).f e fun vs=>(pi ca.toList).f e fun ws=>K (.fn f vs ws) t n⟩
 | .slice t x lo hi mx=>QJ P t x lo hi mx
 | .fieldAddr t x f=>z8 P t x f
 | .field t x f=>P6 P t x f
 | .indexAddr t x i=>B9 P t x i
 | .index t x i=>Pk P t x i
 | .extract x i=>q1 x (Br i)
 | .call c=>OV P c
 | _=>noO
def Lq (P:Program) (t:TypeId) (g:TypeDesc→Value→ClO):ClO:=
 match P.underlying t with
 | some (.map kt et)=>(match P.underlying kt,P.info? et with
   | some d,some i=>(match i.zero with|some z=>(match okV z with|true=>g d z|false=>noO)|none=>noO)
   | _,_=>noO)
 | _=>noO
def IE (P:Program) (t:TypeId) (g:TypeDesc→ClO):ClO:=
 match P.underlying t with
 | some (.map kt _)=>(match P.underlying kt with|some d=>g d|none=>noO)
 | _=>noO
def L4 (P:Program) (op:BinOp) (t:TypeId) (x y:Operand):ClO:=
 match P.underlying t,y with
 | some (.slice _),.const (.slice none 0 0)=>q1 x (FW op)
 | some (.map _ _),.const (.map none)=>q1 x (EP op)
 | some (.interface _),.const .nilIface=>q1 x (EW op)
 | some (.func _ _ _),.const .nilFunc=>q1 x (FI op)
 | _,_=>noO
def QW (P:Program) (op:Op):ClO:=match op with
 | .makeMap _ none=>⟨fun _ _ t n K=>Bj t n K⟩
 | .lookup t x i ok=>Lq P t fun d z=>q2t x i (FX d ok (ofV z))
 | .mapUpdate t m k v=>IE P t fun d=>s3 m k v (qQ d)
 | .insert t m k v=>IE P t fun d=>s3 m k v (qQ d)
 | .mapEntry t m k=>Lq P t fun d z=>e2 m k (xn d (ofV z))
 | .entryStore t m s v=>s3 m s v tI
 | .range t x=>(match P.underlying t with
   | some .string=>e1 x F7
   | some (.map _ _)=>e1 x EV
   | _=>noO)
 | .next x b=>(match b with|true=>e1 x Ki|false=>e1 x JP)
 | .entry x=>q1t x KZ
 | .makeSlice t l c=>(match P.underlying t with
   | some (.slice e)=>(match P.info? e with
     | some i=>(match i.zero with|some z=>(match i.size==1&&z.oneCell' with|true=>e2 l c (vg i.bytes (zU z))|false=>noO)|none=>noO)
     | none=>noO)
   | _=>noO)
 | .convert s d x=>(match P.underlying s,P.underlying d with
   | some (.slice e),some .string=>(match tW P e with|true=>q1t x xt|false=>noO)
   | some .string,some (.slice e)=>(match tW P e with|true=>e1 x xd|false=>noO)
   | _,_=>noO)
 | .binOp op t x y _=>(match P.underlying t with
   | some (.struct fs)=>(match su P fs.toList 0 with
     | some ds=>(match !P.stoodInHeld t&&!P.eqGuardType P.depth t with|true=>q2 x y (Tf op ds)|false=>noO)
     | none=>noO)
   | _=>L4 P op t x y)
 | .call c=>(match c.callee with
   | .builtin .delete=>(match c.args.toList,c.argTypes.toList with
     | [m,k],t::_=>IE P t fun d=>s2 m k (Fo d)
     | _,_=>noO)
   | _=>noO)
 | _=>noO
def OS (P:Program) (op:Op):ClO:=match yK P op with
 | true=>QW P op
 | false=>QE P op
def NM:List UInt8→UInt8→Nat→Int
 | [],_,_=>.negSucc 0
 | b::l,c,i=>@Bool.casesOn (fun _=>Int) (uEq b c) (NM l c (Nat.succ i)) (.ofNat i)
def Ms:List UInt8→UInt8→Nat→Nat
 | [],_,n=>n
 | b::l,c,n=>Ms l c (@Bool.casesOn (fun _=>Nat) (uEq b c) n (Nat.succ n))
def TM (e:Ext) (vs:List AV) (K:AV→Bool):Bool:=
 match e,vs with
 | .index,[.lit (.string s),.lit (.int .u8 c)]=>fI (NM s.data.toList c.toNat.toUInt8 0) fun r=>K (I r)
 | .count,[.lit (.string s),.lit (.int .u8 c)]=>fN (Ms s.data.toList c.toNat.toUInt8 0) fun r=>K (I (.ofNat r))
 | .bits,[.lit (.float .f64 b)]=>K (.lit (.int .u64 (.ofNat b)))
 | .frombits,[.lit (.int .u64 n)]=>fN n.toNat fun m=>K (.lit (.float .f64 m))
 | _,_=>false
def Sf (m n:Nat):Nat:=@Bool.casesOn (fun _=>Nat) (Nat.ble m n) n m
def ON (size:Nat) (v x:AV) (t:HT) (n:Nat) (K:AV→HT→Nat→Bool):Bool:=
 match AJ t size x with
 | none=>false
 | some (m,xs)=>match v with
   | .sl i off len sz=>(match t.get i with
     | some (.cells cs)=>decide (sz=size∧off+len*size≤cs.length∧xs.all AV.one=true)&&fN (Sf m len) fun l=>K (I (.ofNat l)) (t.set (.cells (splice cs off (xs.take (l*size)))) i) n
     | _=>false)
   | .full n0 _=>bA (Nat.beq (Sf m n0) 0) (K (I 0) t n)
   | .snap n0 _=>bA (Nat.beq (Sf m n0) 0) (K (I 0) t n)
   | _=>false
def Kr (size:Nat) (u v:AV) (t:HT) (n:Nat) (K:HT→Nat→Bool):Bool:=
 match v with
 | .sl i off len sz=>(match t.get i with
   | some (.cells cs)=>decide (u.isTup=false∧u.cells.length=size∧sz=size∧off+len*size≤cs.length∧u.cells.all AV.one=true)&&K (t.set (.cells (splice cs off (List.replicate len u.cells).flatten)) i) n
   | _=>false)
 | .full 0 _=>K t n
 | .snap 0 _=>K t n
 | _=>false
def L6 (P:Program) (ts:Array TypeId) (K:Value→TypeInfo→ClO):ClO:=
 match ts.toList with
 | t::_=>(match P.underlying t with
   | some (.slice e)=>(match P.info? e with
     | some i=>(match i.zero with|some z=>(match okV z with|true=>K z i|false=>noO)|none=>noO)
     | none=>noO)
   | _=>noO)
 | _=>noO
abbrev nF:=Nat→Option (List AV)
def OP (P:Program) (t:TypeId) (cs:List AV):ClO:=
 match P.underlying t,P.info? t with
 | some d,some i=>(match kx d with|true=>⟨fun _ _ t n K=>Bb i.size (.cptr cs) t fun r=>K r t n⟩|false=>⟨fun _ _ t n K=>A5 (.cptr cs) t fun r=>K r t n⟩)
 | _,_=>noO
def JZ (P:Program) (tb:nF) (op:Op):ClO:=match op with
 | .call c=>(match c.callee with
   | .value (.func f)=>(match Gy P f with
     | some x=>⟨fun _ e t n K=>(pi c.args.toList).f e fun vs=>TM x vs fun r=>K r t n⟩
     | none=>noO)
   | .builtin .copy=>L6 P c.argTypes fun _ i=>(match c.args.toList with|[x,y]=>e2 x y (ON i.size)|_=>noO)
   | .builtin .clear=>L6 P c.argTypes fun z i=>(match c.args.toList with|[x]=>⟨fun _ e t n K=>(eo x).f e fun v=>Kr i.size (ofV z) v t n fun t n=>K (.tup []) t n⟩|_=>noO)
   | _=>noO)
 | .indexAddr t (.global g) i=>(match tb g with
   | some cs=>(match P.underlying t with
     | some (.array m e)=>(match P.info? e with|some ei=>q1 i fun iv=>nS m ei.size (.cptr cs) iv|none=>noO)
     | _=>noO)
   | none=>noO)
 | .load t (.global g)=>(match tb g with
   | some cs=>OP P t cs
   | none=>noO)
 | _=>noO
def yA (P:Program) (tb:nF) (op:Op):ClO:=match isX P op with
 | true=>JZ P tb op
 | false=>OS P op
def ER (e:ET) (env:Env):Prop:=∀ k v,(oY k).g e=some v→AL.get env k=some v
theorem ER.put {e:ET}{env:Env}(r:ER e env) (d:Nat) (v:AV):ER ((oY d).s e v) ((d,v)::env):=fun k u h=>by
 simp only[AL.get]
 rcases OM h with ⟨rfl,rfl⟩|⟨hn,h⟩
 ·rw[if_pos rfl]
 ·rw[if_neg (Ne.symm hn)];exact r k u h
theorem bm {e:ET}{env:Env}(r:ER e env) {x:Operand}{K:AV→Bool}(k:(eo x).f e K=true):∃ v,opv env x=some v∧K v=true:=by
 cases x with
 | tmp s=>
   simp only[eo,oM]at k
   split at k
   ·rename_i v hv;exact⟨v,by rw[opv];exact r s v hv,k⟩
   ·cases k
 | const v=>
   simp only[eo]at k
   cases h:okV v
   ·rw[h]at k;cases k
   ·rw[h]at k;exact⟨_,by simp[opv,h],k⟩
 | global g=>cases k
 | func f=>exact⟨_,rfl,k⟩
theorem jB {e:ET}{env:Env}(r:ER e env):∀ {xs:List Operand}{K:List AV→Bool},(pi xs).f e K=true→∃ vs,i3 env xs=some vs∧K vs=true
 | [],K,k=>⟨[],rfl,k⟩
 | x::xs,K,k=>by
   simp only[pi]at k
   obtain⟨v,h1,k⟩:=bm r k
   obtain⟨vs,h2,k⟩:=jB r k
   exact⟨_,by simp[i3,h1,h2],k⟩
theorem mS {e:ET}{env:Env}(r:ER e env) {x:Option Operand}{K:Option AV→Bool}(k:(tG x).f e K=true):∃ v,zv env x=some v∧K v=true:=by
 cases x with
 | none=>exact⟨none,rfl,k⟩
 | some x=>
   simp only[tG]at k
   obtain⟨v,h1,k⟩:=bm r k
   exact⟨some v,by simp[zv,h1],k⟩
