import Derived.Test.YtgkmmcdhhkllnaaGreatDoorAL13toAL19
import Derived.IntWalk
import Derived.Test.YtgkmmcdhhkllnaaGreatDoorAL9ctoAL13v
import Derived.ScopeJumps
set_option linter.all false
set_option autoImplicit true
set_option relaxedAutoImplicit true
set_option maxRecDepth 100000
namespace Go.Proofs.YtgkmmcdhhkllnaaGreatDoor.AL
noncomputable section
section
def adL (op:BinOp) (x y:AV) (K:AV→Bool):Bool:=
 match x,y with
 | .lit a,.lit b=>(match cD op a b with|some r=>K (.lit r)|none=>false)
 | _,_=>false
def XX (op:BinOp) (x y:AV) (K:AV→Bool):Bool:=
 match x,y with
 | .lit (.bool a),.lit (.bool b)=>(match op with|.eql=>K (B (a==b))|.neq=>K (B (!(a==b)))|_=>false)
 | _,_=>false
def Z5 (op:BinOp) (x y:AV) (K:AV→Bool):Bool:=
 match x,y with
 | .ptr _ _,.lit (.pointer none)=>(match op with|.eql=>K (B false)|.neq=>K (B true)|_=>false)
 | .lit (.pointer none),.lit (.pointer none)=>(match op with|.eql=>K (B true)|.neq=>K (B false)|_=>false)
 | _,_=>false
def bUn (op:UnOp) (x:AV) (K:AV→Bool):Bool:=
 match op,x with
 | .neg,.lit (.int k n)=>K (.lit (.int k (k.wrap (0-n))))
 | .xor,.lit (.int k n)=>K (.lit (.int k (k.wrap ((BitVec.ofInt k.bits (if k.signed then -1 else k.max) ^^^ BitVec.ofInt k.bits n).toNat:Int))))
 | .not,.lit (.bool b)=>K (B !b)
 | .neg,.lit (.float k b)=>K (.lit (.float k (Op.negFloat k b)))
 | _,_=>false
def MB (x:AV) (K:AV→Bool):Bool:=match x with|.lit (.string s)=>K (S s)|_=>false
def aca (v:AV) (K:AV→Bool):Bool:=match v with|.ptr i o=>K (.ptr i o)|.cptr cs=>K (.cptr cs)|.fn (.func f) fi ca=>K (.fn (.func f) fi ca)|_=>false
def ach (off:Nat) (v:AV) (K:AV→Bool):Bool:=match v with|.ptr i o=>K (.ptr i (o+off))|.cptr cs=>K (.cptr (cs.drop off))|_=>false
def adJ (n:Nat) (v:AV) (h:ae) (K:AV→Bool):Bool:=match sF h n v with|some l=>K (.agg l)|none=>false
def adu (v:AV) (h:ae) (K:AV→Bool):Bool:=match sF h 1 v with|some [a]=>K a|_=>false
def SF (off n:Nat) (v:AV) (K:AV→Bool):Bool:=match v with|.agg cs=>K (.agg ((cs.drop off).take n))|_=>false
def Tj (off:Nat) (v:AV) (K:AV→Bool):Bool:=match v with|.agg cs=>(match cs[off]? with|some a=>K a|none=>false)|_=>false
def acw (size:Nat) (v i:AV) (K:AV→Bool):Bool:=
 match asI i with
 | none=>false
 | some n=>match v with
   | .sl j off len sz=>decide (0≤n∧n<len∧sz=size)&&K (.ptr j (off+n.toNat*size))
   | .snap m cs=>decide (0≤n∧n<m)&&K (.cptr (cs.drop (n.toNat*size)))
   | .full m cs=>decide (0≤n∧n<m)&&K (.cptr (cs.drop (n.toNat*size)))
   | _=>false
def rx (len size:Nat) (v i:AV) (K:AV→Bool):Bool:=
 match asI i with
 | none=>false
 | some n=>match v with
   | .ptr j off=>decide (0≤n∧n<len)&&K (.ptr j (off+n.toNat*size))
   | .cptr cs=>decide (0≤n∧n<len)&&K (.cptr (cs.drop (n.toNat*size)))
   | _=>false
def adt (v:AV) (lo hi:Option AV) (K:AV→Bool):Bool:=
 match v with
 | .lit (.string s)=>(match ln lo 0,ln hi s.size with
   | some l,some h=>decide (0≤l∧l≤h∧h≤s.size)&&K (S (s.extract l.toNat h.toNat))
   | _,_=>false)
 | _=>false
def MJ (size:Nat) (v:AV) (lo hi:Option AV) (K:AV→Bool):Bool:=
 match v with
 | .sl i off len sz=>(match ln lo 0,ln hi len with
   | some l,some h=>decide (0≤l∧l≤h∧h≤len∧sz=size)&&K (.sl i (off+l.toNat*size) (h.toNat-l.toNat) size)
   | _,_=>false)
 | .snap n cs=>(match ln lo 0,ln hi n with
   | some l,some h=>decide (0≤l∧l≤h∧h≤n)&&K (.snap (h.toNat-l.toNat) ((cs.drop (l.toNat*size)).take ((h.toNat-l.toNat)*size)))
   | _,_=>false)
 | .full n cs=>(match ln lo 0,ln hi n with
   | some l,some h=>decide (0≤l∧l≤h∧h≤n)&&K (.snap (h.toNat-l.toNat) ((cs.drop (l.toNat*size)).take ((h.toNat-l.toNat)*size)))
   | _,_=>false)
 | _=>false
def M2 (v:AV) (K:AV→Bool):Bool:=match v with|.sl _ _ _ _=>K (.full 0 [])|.snap _ _=>K (.full 0 [])|.full _ _=>K (.full 0 [])|_=>false
def Ir (i:Nat) (v:AV) (K:AV→Bool):Bool:=match v with|.tup vs=>(match vs[i]? with|some a=>K a|none=>false)|_=>false
def RX (t:TypeId) (v:AV) (K:AV→Bool):Bool:=K (.iface t v)
def Rx (zs:List AV) (ps:List (Nat×Nat×AV)) (K:AV→Bool):Bool:=match EN zs ps with|some cs=>K (.agg cs)|none=>false
def xe (n size:Nat) (vs:List AV) (K:AV→Bool):Bool:=decide (vs.length=n∧(vs.all fun v=>!v.isTup&&v.cells.length==size)=true)&&K (.full n (vs.flatMap (·.cells)))
def ads (d:TypeDesc) (ok:Bool) (z x key:AV) (h:ae) (K:AV→Bool):Bool:=
 match key with
 | .lit k=>match x with
   | .lit (.map none)=>if kOk d k=true then K (if ok then .tup [z,B false] else z) else false
   | .map i=>match h[i]? with
     | some (.amap es _)=>if (kOk d k&&es.all fun e=>kOk d e.1)=true then (match lQ k es 0 with
       | some (_,_,v)=>K (if ok then .tup [v,B true] else v)
       | none=>K (if ok then .tup [z,B false] else z)) else false
     | _=>false
   | _=>false
 | _=>false
def aco (bytes:Nat) (z l c:AV) (h:ae) (K:AV→ae→Bool):Bool:=
 match l,c with
 | .lit (.int _ l),.lit (.int _ c)=>decide (0≤l∧l≤c∧(bytes:Int)*c≤1099511627776∧c≤1099511627776)&&K (.sl h.length 0 l.toNat 1) (h++[.cells (List.replicate c.toNat z)])
 | _,_=>false
def ND (op:BinOp) (x:AV) (K:AV→Bool):Bool:=
 match op,x with
 | .eql,.map _=>K (B false)
 | .neq,.map _=>K (B true)
 | .eql,.lit (.map none)=>K (B true)
 | .neq,.lit (.map none)=>K (B false)
 | _,_=>false
def NI (op:BinOp) (x:AV) (K:AV→Bool):Bool:=
 match op,x with
 | .eql,.iface _ _=>K (B false)
 | .neq,.iface _ _=>K (B true)
 | .eql,.lit .nilIface=>K (B true)
 | .neq,.lit .nilIface=>K (B false)
 | _,_=>false
def NL (op:BinOp) (x:AV) (K:AV→Bool):Bool:=
 match op,x with
 | .eql,.fn _ _ _=>K (B false)
 | .neq,.fn _ _ _=>K (B true)
 | .eql,.lit .nilFunc=>K (B true)
 | .neq,.lit .nilFunc=>K (B false)
 | _,_=>false
def JB (op:BinOp) (b:Bool) (K:AV→Bool):Bool:=match op with|.eql=>K (B b)|.neq=>K (B !b)|_=>false
def Nr (op:BinOp) (x:AV) (K:AV→Bool):Bool:=
 match x with
 | .sl _ _ _ _=>JB op false K
 | .full n _=>if n=0 then JB op true K&&JB op false K else JB op false K
 | .snap n _=>if n=0 then JB op true K&&JB op false K else JB op false K
 | _=>false
def act (op:BinOp) (ds:List TypeDesc) (x y:AV) (K:AV→Bool):Bool:=
 match x,y with
 | .agg az,.agg bs=>(match mR ds az bs with|some b=>JB op b K|none=>false)
 | _,_=>false
def YI (v:AV) (K:AV→Bool):Bool:=match v with|.sl _ _ len _=>K (I len)|.snap n _=>K (I n)|.full n _=>K (I n)|_=>false
def acC (x y:AV) (K:AV→Bool):Bool:=match x,y with|.lit (.int k a),.lit (.int _ b)=>K (.lit (.int k (if b > a then b else a)))|_,_=>false
def ack (x y:AV) (K:AV→Bool):Bool:=match x,y with|.lit (.int k a),.lit (.int _ b)=>K (.lit (.int k (if b<a then b else a)))|_,_=>false
theorem rV {K:AV→Bool}(op:BinOp) (b:Bool) (k:JB op b K=true):po op b (fun r=>K r=true):=by
 unfold JB at k
 unfold po
 (repeat' split at k)<;>first|(cases k;done)|exact k|(simp only[Bool.and_eq_true,decide_eq_true_eq]at k;exact k)|(rw[if_pos ‹_›];exact k)|(rw[if_neg ‹_›];exact k)|(simp only[*,↓reduceIte,Bool.false_eq_true];done)|(simp_all;done)
theorem Yn {K:AV→Bool}(op:BinOp) (x y:AV) (k:XX op x y K=true):xK op x y (fun r=>K r=true):=by
 unfold XX at k
 unfold xK
 (repeat' split at k)<;>first|(cases k;done)|exact k|(simp only[Bool.and_eq_true,decide_eq_true_eq]at k;exact k)|(rw[if_pos ‹_›];exact k)|(rw[if_neg ‹_›];exact k)|(simp only[*,↓reduceIte,Bool.false_eq_true];done)|(simp_all;done)
theorem Xa {K:AV→Bool}(op:BinOp) (x y:AV) (k:Z5 op x y K=true):xX op x y (fun r=>K r=true):=by
 unfold Z5 at k
 unfold xX
 (repeat' split at k)<;>first|(cases k;done)|exact k|(simp only[Bool.and_eq_true,decide_eq_true_eq]at k;exact k)|(rw[if_pos ‹_›];exact k)|(rw[if_neg ‹_›];exact k)|(simp only[*,↓reduceIte,Bool.false_eq_true];done)|(simp_all;done)
theorem acK {K:AV→Bool}(op:UnOp) (x:AV) (k:bUn op x K=true):pUn op x (fun r=>K r=true):=by
 unfold bUn at k
 unfold pUn
 (repeat' split at k)<;>first|(cases k;done)|exact k|(simp only[Bool.and_eq_true,decide_eq_true_eq]at k;exact k)|(rw[if_pos ‹_›];exact k)|(rw[if_neg ‹_›];exact k)|(simp only[*,↓reduceIte,Bool.false_eq_true];done)|(simp_all;done)
theorem SX {K:AV→Bool}(x:AV) (k:MB x K=true):mz x (fun r=>K r=true):=by
 unfold MB at k
 unfold mz
 (repeat' split at k)<;>first|(cases k;done)|exact k|(simp only[Bool.and_eq_true,decide_eq_true_eq]at k;exact k)|(rw[if_pos ‹_›];exact k)|(rw[if_neg ‹_›];exact k)|(simp only[*,↓reduceIte,Bool.false_eq_true];done)|(simp_all;done)
theorem aaQ {K:AV→Bool}(v:AV) (k:aca v K=true):Jn v (fun r=>K r=true):=by
 unfold aca at k
 unfold Jn
 (repeat' split at k)<;>first|(cases k;done)|exact k|(simp only[Bool.and_eq_true,decide_eq_true_eq]at k;exact k)|(rw[if_pos ‹_›];exact k)|(rw[if_neg ‹_›];exact k)|(simp only[*,↓reduceIte,Bool.false_eq_true];done)|(simp_all;done)
theorem Vl {K:AV→Bool}(off n:Nat) (v:AV) (k:SF off n v K=true):qM off n v (fun r=>K r=true):=by
 unfold SF at k
 unfold qM
 (repeat' split at k)<;>first|(cases k;done)|exact k|(simp only[Bool.and_eq_true,decide_eq_true_eq]at k;exact k)|(rw[if_pos ‹_›];exact k)|(rw[if_neg ‹_›];exact k)|(simp only[*,↓reduceIte,Bool.false_eq_true];done)|(simp_all;done)
theorem V7 {K:AV→Bool}(off:Nat) (v:AV) (k:Tj off v K=true):qE off v (fun r=>K r=true):=by
 unfold Tj at k
 unfold qE
 (repeat' split at k)<;>first|(cases k;done)|exact k|(simp only[Bool.and_eq_true,decide_eq_true_eq]at k;exact k)|(rw[if_pos ‹_›];exact k)|(rw[if_neg ‹_›];exact k)|(simp only[*,↓reduceIte,Bool.false_eq_true];done)|(simp_all;done)
theorem wB {K:AV→Bool}(len size:Nat) (v i:AV) (k:rx len size v i K=true):cU len size v i (fun r=>K r=true):=by
 unfold rx at k
 unfold cU
 (repeat' split at k)<;>first|(cases k;done)|exact k|(simp only[Bool.and_eq_true,decide_eq_true_eq]at k;exact k)|(rw[if_pos ‹_›];exact k)|(rw[if_neg ‹_›];exact k)|(simp only[*,↓reduceIte,Bool.false_eq_true];done)|(simp_all;done)
theorem Rv {K:AV→Bool}(size:Nat) (v:AV) (lo hi:Option AV) (k:MJ size v lo hi K=true):iK size v lo hi (fun r=>K r=true):=by
 unfold MJ at k
 unfold iK
 (repeat' split at k)<;>first|(cases k;done)|exact k|(simp only[Bool.and_eq_true,decide_eq_true_eq]at k;exact k)|(rw[if_pos ‹_›];exact k)|(rw[if_neg ‹_›];exact k)|(simp only[*,↓reduceIte,Bool.false_eq_true];done)|(simp_all;done)
theorem S4 {K:AV→Bool}(v:AV) (k:M2 v K=true):m5 v (fun r=>K r=true):=by
 unfold M2 at k
 unfold m5
 (repeat' split at k)<;>first|(cases k;done)|exact k|(simp only[Bool.and_eq_true,decide_eq_true_eq]at k;exact k)|(rw[if_pos ‹_›];exact k)|(rw[if_neg ‹_›];exact k)|(simp only[*,↓reduceIte,Bool.false_eq_true];done)|(simp_all;done)
theorem Qo {K:AV→Bool}(i:Nat) (v:AV) (k:Ir i v K=true):iU i v (fun r=>K r=true):=by
 unfold Ir at k
 unfold iU
 (repeat' split at k)<;>first|(cases k;done)|exact k|(simp only[Bool.and_eq_true,decide_eq_true_eq]at k;exact k)|(rw[if_pos ‹_›];exact k)|(rw[if_neg ‹_›];exact k)|(simp only[*,↓reduceIte,Bool.false_eq_true];done)|(simp_all;done)
theorem WL {K:AV→Bool}(t:TypeId) (v:AV) (k:RX t v K=true):DB t v (fun r=>K r=true):=by
 unfold RX at k
 unfold DB
 (repeat' split at k)<;>first|(cases k;done)|exact k|(simp only[Bool.and_eq_true,decide_eq_true_eq]at k;exact k)|(rw[if_pos ‹_›];exact k)|(rw[if_neg ‹_›];exact k)|(simp only[*,↓reduceIte,Bool.false_eq_true];done)|(simp_all;done)
theorem V8 {K:AV→Bool}(zs:List AV) (ps:List (Nat×Nat×AV)) (k:Rx zs ps K=true):pm zs ps (fun r=>K r=true):=by
 unfold Rx at k
 unfold pm
 (repeat' split at k)<;>first|(cases k;done)|exact k|(simp only[Bool.and_eq_true,decide_eq_true_eq]at k;exact k)|(rw[if_pos ‹_›];exact k)|(rw[if_neg ‹_›];exact k)|(simp only[*,↓reduceIte,Bool.false_eq_true];done)|(simp_all;done)
theorem Hm {K:AV→Bool}(n size:Nat) (vs:List AV) (k:xe n size vs K=true):ii n size vs (fun r=>K r=true):=by
 unfold xe at k
 unfold ii
 (repeat' split at k)<;>first|(cases k;done)|exact k|(simp only[Bool.and_eq_true,decide_eq_true_eq]at k;exact k)|(rw[if_pos ‹_›];exact k)|(rw[if_neg ‹_›];exact k)|(simp only[*,↓reduceIte,Bool.false_eq_true];done)|(simp_all;done)
theorem Sg {K:AV→Bool}(op:BinOp) (x:AV) (k:ND op x K=true):mG op x (fun r=>K r=true):=by
 unfold ND at k
 unfold mG
 (repeat' split at k)<;>first|(cases k;done)|exact k|(simp only[Bool.and_eq_true,decide_eq_true_eq]at k;exact k)|(rw[if_pos ‹_›];exact k)|(rw[if_neg ‹_›];exact k)|(simp only[*,↓reduceIte,Bool.false_eq_true];done)|(simp_all;done)
theorem R6 {K:AV→Bool}(op:BinOp) (x:AV) (k:NI op x K=true):mM op x (fun r=>K r=true):=by
 unfold NI at k
 unfold mM
 (repeat' split at k)<;>first|(cases k;done)|exact k|(simp only[Bool.and_eq_true,decide_eq_true_eq]at k;exact k)|(rw[if_pos ‹_›];exact k)|(rw[if_neg ‹_›];exact k)|(simp only[*,↓reduceIte,Bool.false_eq_true];done)|(simp_all;done)
theorem SU {K:AV→Bool}(op:BinOp) (x:AV) (k:NL op x K=true):m7 op x (fun r=>K r=true):=by
 unfold NL at k
 unfold m7
 (repeat' split at k)<;>first|(cases k;done)|exact k|(simp only[Bool.and_eq_true,decide_eq_true_eq]at k;exact k)|(rw[if_pos ‹_›];exact k)|(rw[if_neg ‹_›];exact k)|(simp only[*,↓reduceIte,Bool.false_eq_true];done)|(simp_all;done)
theorem Rz {K:AV→Bool}(op:BinOp) (x:AV) (k:Nr op x K=true):oy op x (fun r=>K r=true):=by
 unfold Nr at k
 unfold oy
 split at k
 ·exact rV _ _ k
 ·split at k
  ·rename_i h0;simp only[if_pos h0];simp only[Bool.and_eq_true]at k;exact⟨rV _ _ k.1,rV _ _ k.2⟩
  ·rename_i h0;simp only[if_neg h0];exact rV _ _ k
 ·split at k
  ·rename_i h0;simp only[if_pos h0];simp only[Bool.and_eq_true]at k;exact⟨rV _ _ k.1,rV _ _ k.2⟩
  ·rename_i h0;simp only[if_neg h0];exact rV _ _ k
 ·cases k
theorem aay {K:AV→Bool}(op:BinOp) (ds:List TypeDesc) (x y:AV) (k:act op ds x y K=true):Ft op ds x y (fun r=>K r=true):=by
 unfold act at k
 unfold Ft
 split at k
 ·split at k
  ·rename_i hm;simp only[hm];exact rV _ _ k
  ·cases k
 ·cases k
theorem Xg {K:AV→Bool}(v:AV) (k:YI v K=true):zN v (fun r=>K r=true):=by
 unfold YI at k
 unfold zN
 (repeat' split at k)<;>first|(cases k;done)|exact k|(simp only[Bool.and_eq_true,decide_eq_true_eq]at k;exact k)|(rw[if_pos ‹_›];exact k)|(rw[if_neg ‹_›];exact k)|(simp only[*,↓reduceIte,Bool.false_eq_true];done)|(simp_all;done)
theorem aac {K:AV→Bool}(x y:AV) (k:acC x y K=true):FJ x y (fun r=>K r=true):=by
 unfold acC at k
 unfold FJ
 (repeat' split at k)<;>first|(cases k;done)|exact k|(simp only[Bool.and_eq_true,decide_eq_true_eq]at k;exact k)|(rw[if_pos ‹_›];exact k)|(rw[if_neg ‹_›];exact k)|(simp only[*,↓reduceIte,Bool.false_eq_true];done)|(simp_all;done)
theorem abD {K:AV→Bool}(x y:AV) (k:ack x y K=true):FK x y (fun r=>K r=true):=by
 unfold ack at k
 unfold FK
 (repeat' split at k)<;>first|(cases k;done)|exact k|(simp only[Bool.and_eq_true,decide_eq_true_eq]at k;exact k)|(rw[if_pos ‹_›];exact k)|(rw[if_neg ‹_›];exact k)|(simp only[*,↓reduceIte,Bool.false_eq_true];done)|(simp_all;done)
end
section
def bI (c t e:Bool):Bool:=@Bool.casesOn (fun _=>Bool) c e t
theorem J4 (c t e:Bool):bI c t e=true↔(c=true∧t=true)∨(c=false∧e=true):=by cases c<;>simp[bI]
def bA (c t:Bool):Bool:=@Bool.casesOn (fun _=>Bool) c false t
theorem cH (c t:Bool):bA c t=true↔c=true∧t=true:=by cases c<;>simp[bA]
def fN (m:Nat) (K:Nat→Bool):Bool:=@Nat.casesOn (fun _=>Bool) m (K 0) (fun m=>K (Nat.succ m))
theorem jO (m:Nat) (K:Nat→Bool):fN m K=K m:=by cases m<;>rfl
def fI (n:Int) (K:Int→Bool):Bool:=@Int.casesOn (fun _=>Bool) n (fun m=>fN m fun m=>K (.ofNat m)) (fun m=>fN m fun m=>K (.negSucc m))
theorem Pj (n:Int) (K:Int→Bool):fI n K=K n:=by cases n<;>simp[fI,jO]
def fB (b:Bool) (K:Bool→Bool):Bool:=@Bool.casesOn (fun _=>Bool) b (K false) (K true)
theorem TI (b:Bool) (K:Bool→Bool):fB b K=K b:=by cases b<;>rfl
theorem nbF {a b:Nat}(h:¬ a=b):Nat.beq a b=false:=by
 cases e:Nat.beq a b
 ·rfl
 ·exact (h (Nat.eq_of_beq_eq_true e)).elim
inductive Tr (α:Type) where
 | leaf
 | node (l:Tr α) (v:Option α) (r:Tr α)
namespace Tr
variable {α:Type}
def acY:Tr α→Nat→Option α
 | .leaf,_=>none
 | .node l v r,i=>if i=0 then v else if i%2=1 then acY l (i / 2) else acY r (i / 2-1)
def Xx (x:α):Nat→Nat→Tr α
 | 0,_=>.leaf
 | f+1,i=>if i=0 then .node .leaf (some x) .leaf else if i%2=1 then .node (Xx x f (i / 2)) none .leaf else .node .leaf none (Xx x f (i / 2-1))
def adc (t:Tr α) (x:α) (i:Nat):Tr α:=match t with
 | .leaf=>Xx x (i+1) i
 | .node l v r=>if i=0 then .node l (some x) r else if i%2=1 then .node (adc l x (i / 2)) v r else .node l v (adc r x (i / 2-1))
def get (t:Tr α):Nat→Option α:=
 @Tr.rec α (fun _=>Nat→Option α) (fun _=>none) (fun _ v _ gl gr i=>@Bool.rec (fun _=>Option α) (@Bool.rec (fun _=>Option α) (gr (Nat.sub (Nat.div i 2) 1)) (gl (Nat.div i 2)) (Nat.beq (Nat.mod i 2) 1)) v (Nat.beq i 0)) t
def Pn (x:α):Nat→Nat→Tr α:=
 fun f=>@Nat.rec (fun _=>Nat→Tr α) (fun _=>.leaf) (fun _ ih i=>@Bool.rec (fun _=>Tr α) (@Bool.rec (fun _=>Tr α) (.node .leaf none (ih (Nat.sub (Nat.div i 2) 1))) (.node (ih (Nat.div i 2)) none .leaf) (Nat.beq (Nat.mod i 2) 1)) (.node .leaf (some x) .leaf) (Nat.beq i 0)) f
def set (t:Tr α) (x:α):Nat→Tr α:=
 @Tr.rec α (fun _=>Nat→Tr α) (fun i=>Pn x (Nat.succ i) i) (fun l v r sl sr i=>@Bool.rec (fun _=>Tr α) (@Bool.rec (fun _=>Tr α) (.node l v (sr (Nat.sub (Nat.div i 2) 1))) (.node (sl (Nat.div i 2)) v r) (Nat.beq (Nat.mod i 2) 1)) (.node l (some x) r) (Nat.beq i 0)) t
theorem HW (i:Nat):(Tr.leaf:Tr α).get i=none:=rfl
theorem qR (l:Tr α) (v:Option α) (r:Tr α) (i:Nat):(Tr.node l v r).get i=if i=0 then v else if i%2=1 then l.get (i / 2) else r.get (i / 2-1):=by
 show @Bool.rec (fun _=>Option α) (@Bool.rec (fun _=>Option α) (r.get (i / 2-1)) (l.get (i / 2)) (Nat.beq (i%2) 1)) v (Nat.beq i 0)=_
 by_cases h0:i=0
 ·subst h0;rfl
 ·have:Nat.beq i 0=false:=nbF h0
  rw[this,if_neg h0]
  by_cases h1:i%2=1
  ·have:Nat.beq (i%2) 1=true:=Nat.beq_eq.mpr h1
   rw[this,if_pos h1]
  ·have:Nat.beq (i%2) 1=false:=nbF h1
   rw[this,if_neg h1]
theorem UR (x:α) (f i:Nat):Pn x (f+1) i=if i=0 then .node .leaf (some x) .leaf else if i%2=1 then .node (Pn x f (i / 2)) none .leaf else .node .leaf none (Pn x f (i / 2-1)):=by
 show @Bool.rec (fun _=>Tr α) (@Bool.rec (fun _=>Tr α) (.node .leaf none (Pn x f (i / 2-1))) (.node (Pn x f (i / 2)) none .leaf) (Nat.beq (i%2) 1)) (.node .leaf (some x) .leaf) (Nat.beq i 0)=_
 by_cases h0:i=0
 ·subst h0;rfl
 ·have:Nat.beq i 0=false:=nbF h0
  rw[this,if_neg h0]
  by_cases h1:i%2=1
  ·have:Nat.beq (i%2) 1=true:=Nat.beq_eq.mpr h1
   rw[this,if_pos h1]
  ·have:Nat.beq (i%2) 1=false:=nbF h1
   rw[this,if_neg h1]
theorem ZY (x:α) (i:Nat):(Tr.leaf:Tr α).set x i=Pn x (i+1) i:=rfl
theorem ZA (l:Tr α) (v:Option α) (r:Tr α) (x:α) (i:Nat):(Tr.node l v r).set x i=if i=0 then .node l (some x) r else if i%2=1 then .node (l.set x (i / 2)) v r else .node l v (r.set x (i / 2-1)):=by
 show @Bool.rec (fun _=>Tr α) (@Bool.rec (fun _=>Tr α) (.node l v (r.set x (i / 2-1))) (.node (l.set x (i / 2)) v r) (Nat.beq (i%2) 1)) (.node l (some x) r) (Nat.beq i 0)=_
 by_cases h0:i=0
 ·subst h0;rfl
 ·have:Nat.beq i 0=false:=nbF h0
  rw[this,if_neg h0]
  by_cases h1:i%2=1
  ·have:Nat.beq (i%2) 1=true:=Nat.beq_eq.mpr h1
   rw[this,if_pos h1]
  ·have:Nat.beq (i%2) 1=false:=nbF h1
   rw[this,if_neg h1]
theorem Gg (x:α):∀ (f i j:Nat),i<f→(Pn x f i).get j=if j=i then some x else none
 | 0,i,j,h=>by omega
 | f+1,i,j,h=>by
   rw[UR]
   by_cases h0:i=0
   ·rw[if_pos h0,qR]
    subst h0
    split
    ·rfl
    ·split<;>rfl
   ·rw[if_neg h0]
    by_cases h1:i%2=1
    ·rw[if_pos h1,qR]
     by_cases hj:j=0
     ·rw[if_pos hj,if_neg (by omega)]
     ·rw[if_neg hj]
      by_cases hj1:j%2=1
      ·rw[if_pos hj1,Gg x f (i / 2) (j / 2) (by omega)]
       by_cases e:j / 2=i / 2
       ·rw[if_pos e,if_pos (by omega)]
       ·rw[if_neg e,if_neg (fun h=>e (by rw[h]))]
      ·rw[if_neg hj1,HW,if_neg (fun h=>by subst h;omega)]
    ·rw[if_neg h1,qR]
     by_cases hj:j=0
     ·rw[if_pos hj,if_neg (by omega)]
     ·rw[if_neg hj]
      by_cases hj1:j%2=1
      ·rw[if_pos hj1,HW,if_neg (fun h=>by subst h;omega)]
      ·rw[if_neg hj1,Gg x f (i / 2-1) (j / 2-1) (by omega)]
       by_cases e:j / 2-1=i / 2-1
       ·rw[if_pos e,if_pos (by omega)]
       ·rw[if_neg e,if_neg (fun h=>e (by rw[h]))]
theorem get_set (x:α):∀ (t:Tr α) (i j:Nat),(t.set x i).get j=if j=i then some x else t.get j
 | .leaf,i,j=>by rw[ZY,Gg x _ _ _ (Nat.lt_succ_self _),HW]
 | .node l v r,i,j=>by
   rw[ZA,qR]
   by_cases h0:i=0
   ·subst h0
    rw[if_pos rfl,qR]
    by_cases hj:j=0
    ·rw[if_pos hj,if_pos hj]
    ·rw[if_neg hj,if_neg hj,if_neg hj]
   ·rw[if_neg h0]
    by_cases h1:i%2=1
    ·rw[if_pos h1,qR]
     by_cases hj:j=0
     ·subst hj;rw[if_pos rfl,if_neg (Ne.symm h0),if_pos rfl]
     ·rw[if_neg hj,if_neg hj]
      by_cases hj1:j%2=1
      ·rw[if_pos hj1,if_pos hj1,get_set x l]
       by_cases e:j / 2=i / 2
       ·rw[if_pos e,if_pos (by omega)]
       ·rw[if_neg e,if_neg (fun h=>e (by rw[h]))]
      ·rw[if_neg hj1,if_neg hj1,if_neg (fun h=>by subst h;omega)]
    ·rw[if_neg h1,qR]
     by_cases hj:j=0
     ·subst hj;rw[if_pos rfl,if_neg (Ne.symm h0),if_pos rfl]
     ·rw[if_neg hj,if_neg hj]
      by_cases hj1:j%2=1
      ·rw[if_pos hj1,if_pos hj1,if_neg (fun h=>by subst h;omega)]
      ·rw[if_neg hj1,if_neg hj1,get_set x r]
       by_cases e:j / 2-1=i / 2-1
       ·rw[if_pos e,if_pos (by omega)]
       ·rw[if_neg e,if_neg (fun h=>e (by rw[h]))]
end Tr
abbrev HT:=Tr AObj
structure HR (t:HT) (n:Nat) (h:ae):Prop where
 len:h.length=n
 at_:∀ i x,t.get i=some x→h[i]?=some x
theorem HR.set {t:HT}{n:Nat}{h:ae}(r:HR t n h) {i:Nat}{o x:AObj}(hi:t.get i=some x):HR (t.set o i) n (h.set i o) where
 len:=by simp[r.len]
 at_:=fun j y hy=>by
  have hl:i<h.length:=(List.getElem?_eq_some_iff.1 (r.at_ i x hi)).1
  rw[Tr.get_set]at hy
  rw[List.getElem?_set]
  by_cases e:j=i
  ·subst e;rw[if_pos rfl]at hy;rw[if_pos rfl,if_pos hl];exact hy
  ·rw[if_neg e]at hy;rw[if_neg (Ne.symm e)];exact r.at_ j y hy
theorem HR.push {t:HT}{n:Nat}{h:ae}(r:HR t n h) (o:AObj):HR (t.set o n) (n+1) (h++[o]) where
 len:=by simp[r.len]
 at_:=fun j y hy=>by
  have hl:=r.len
  rw[Tr.get_set]at hy
  by_cases e:j=n
  ·subst e;rw[if_pos rfl]at hy;rw[List.getElem?_append_right (by omega)];simp[hl];cases hy;rfl
  ·rw[if_neg e]at hy
   have:=r.at_ j y hy
   have hj:j<h.length:=(List.getElem?_eq_some_iff.1 this).1
   rw[List.getElem?_append_left hj];exact this
theorem HR.more {t:HT}{n:Nat}{h:ae}(r:HR t n h) (l:ae):HR t (n+l.length) (h++l) where
 len:=by simp[r.len]
 at_:=fun j y hy=>by
  have:=r.at_ j y hy
  have hj:j<h.length:=(List.getElem?_eq_some_iff.1 this).1
  rw[List.getElem?_append_left hj];exact this
theorem HR.none {n:Nat}{h:ae}(e:h.length=n):HR .leaf n h:=⟨e,fun i x hx=>by cases hx⟩
def KH (K:AV→HT→Nat→Bool) (r:AV) (h:ae):Prop:=∃ t n,HR t n h∧K r t n=true
def KS (K:HT→Nat→Bool) (h:ae):Prop:=∃ t n,HR t n h∧K t n=true
section
variable {t:HT}{n:Nat}{h:ae}
def TC (t:HT) (m:Nat) (v:AV):Option (List AV):=match v with
 | .ptr i o=>match t.get i with
   | some (.cells cs)=>if o+m≤cs.length then some ((cs.drop o).take m) else none
   | _=>none
 | .cptr cs=>if m≤cs.length then some (cs.take m) else none
 | _=>none
theorem OO (r:HR t n h) {m:Nat}{v:AV}{l:List AV}(e:TC t m v=some l):sF h m v=some l:=by
 unfold TC at e
 unfold sF
 split at e
 ·split at e
  ·rename_i hc;simp only[r.at_ _ _ hc];exact e
  ·cases e
 ·exact e
 ·cases e
def IA (m:Nat) (v:AV) (t:HT) (K:AV→Bool):Bool:=match TC t m v with|some l=>K (.agg l)|none=>false
def Gn (v:AV) (t:HT) (K:AV→Bool):Bool:=match TC t 1 v with|some [a]=>K a|_=>false
theorem C7 (r:HR t n h) {m:Nat}{v:AV}{K:AV→Bool}(k:IA m v t K=true):nK m v h (fun r=>K r=true):=by
 unfold IA at k
 unfold nK
 split at k
 ·rename_i hl;simp only[OO r hl];exact k
 ·cases k
theorem DP (r:HR t n h) {v:AV}{K:AV→Bool}(k:Gn v t K=true):mU v h (fun r=>K r=true):=by
 unfold Gn at k
 unfold mU
 split at k
 ·rename_i hl;simp only[OO r hl];exact k
 ·cases k
def aag (cs:List AV) (t:HT) (n:Nat) (K:AV→HT→Nat→Bool):Bool:=fN n fun n=>K (.ptr n 0) (t.set (.cells cs) n) (n+1)
theorem T7 (r:HR t n h) {cs:List AV}{K:AV→HT→Nat→Bool}(k:aag cs t n K=true):Yz cs h (KH K):=by
 unfold aag at k;rw[jO]at k
 unfold Yz
 rw[r.len]
 exact⟨_,_,r.push _,k⟩
def acx (v:AV) (t:HT) (n:Nat) (K:AV→HT→Nat→Bool):Bool:=bI v.isTup false (aag v.cells t n K)
theorem aaO (r:HR t n h) {v:AV}{K:AV→HT→Nat→Bool}(k:acx v t n K=true):ac6 v h (KH K):=by
 unfold acx at k
 rcases (J4 _ _ _).1 k with ⟨_,k⟩|⟨hv,k⟩
 ·cases k
 ·exact⟨hv,T7 r k⟩
def SI (m:Nat) (v u:AV) (t:HT) (n:Nat) (K:HT→Nat→Bool):Bool:=
 match v with
 | .ptr i o=>(match t.get i with
   | some (.cells cs)=>decide (u.isTup=false∧u.cells.length=m∧u.cells.all AV.one=true∧o+m≤cs.length)&&K (t.set (.cells (splice cs o u.cells)) i) n
   | _=>false)
 | _=>false
theorem Vu (r:HR t n h) {m:Nat}{v u:AV}{K:HT→Nat→Bool}(k:SI m v u t n K=true):vE m v u h (KS K):=by
 unfold SI at k
 unfold vE
 split at k
 ·rename_i i o
  skip
  split at k
  ·rename_i cs hc
   simp only[r.at_ _ _ hc]
   simp only[Bool.and_eq_true,decide_eq_true_eq]at k
   exact⟨k.1,_,_,r.set hc,k.2⟩
  ·cases k
 ·cases k
def Gx (t:HT) (size:Nat) (v:AV):Option (Nat×List AV):=match v with
 | .snap n cs=>if cs.length=n*size then some (n,cs) else none
 | .full n cs=>if cs.length=n*size then some (n,cs) else none
 | .sl i off len sz=>match t.get i with
   | some (.cells cs)=>if sz=size∧off+len*size≤cs.length then some (len,(cs.drop off).take (len*size)) else none
   | _=>none
 | .lit (.string s)=>if size=1 then some (s.size,s.data.toList.map fun b=>.lit (.int .u8 b.toNat)) else none
 | _=>none
theorem Da (r:HR t n h) {m:Nat}{v:AV}{x:Nat×List AV}(e:Gx t m v=some x):cu h m v=some x:=by
 unfold Gx at e
 unfold cu
 split at e
 ·exact e
 ·exact e
 ·split at e
  ·rename_i hc;simp only[r.at_ _ _ hc];exact e
  ·cases e
 ·exact e
 ·cases e
def L8 (size bytes:Nat) (v x:AV) (t:HT) (n:Nat) (K:AV→HT→Nat→Bool):Bool:=
 match Gx t size x with
 | none=>false
 | some (m,xs)=>match v with
   | .full n0 cs=>decide (cs.length=n0*size∧(n0+m)*bytes≤1099511627776)&&(bI (Nat.beq m 0) (K (.full n0 cs) t n) (fN n fun n=>fN (n0+m) fun l=>K (.sl n 0 l size) (t.set (.cells (cs++xs)) n) (n+1)))
   | .sl i off len sz=>(match t.get i with
     | some (.cells cs)=>decide (sz=size∧off+len*size=cs.length∧xs.all AV.one=true∧(len+m)*bytes≤1099511627776)&&fN n fun n=>fN (len+m) fun l=>K (.sl n 0 l size) ((t.set .dead i).set (.cells (cs.drop off++xs)) n) (n+1)
     | _=>false)
   | _=>false
theorem RV (r:HR t n h) {size bytes:Nat}{v x:AV}{K:AV→HT→Nat→Bool}(k:L8 size bytes v x t n K=true):ew size bytes v x h (KH K):=by
 unfold L8 at k
 unfold ew
 split at k
 ·cases k
 ·rename_i m xs hx
  simp only[Da r hx]
  split at k
  ·simp only[Bool.and_eq_true,decide_eq_true_eq,J4,jO]at k
   refine⟨k.1,?_⟩
   rcases k.2 with ⟨h0,k⟩|⟨h0,k⟩
   ·rw[if_pos (Nat.eq_of_beq_eq_true h0)];exact⟨t,n,r,k⟩
   ·rw[if_neg (fun e=>by rw[Nat.beq_eq.mpr e]at h0;cases h0),r.len];exact⟨_,_,r.push _,k⟩
  ·rename_i i off len sz
   skip
   split at k
   ·rename_i cs hc
    simp only[r.at_ _ _ hc]
    simp only[Bool.and_eq_true,decide_eq_true_eq,jO]at k
    refine⟨k.1,?_⟩
    rw[r.len]
    exact⟨_,_,(r.set hc).push _,k.2⟩
   ·cases k
  ·cases k
def Ee (x:AV) (t:HT) (K:AV→Bool):Bool:=
 bA (Ah x) (match Gx t 1 x with
  | some (_,xs)=>(match yX xs with|some l=>K (S ⟨l.toArray⟩)|none=>false)
  | none=>false)
theorem LO (r:HR t n h) {x:AV}{K:AV→Bool}(k:Ee x t K=true):g9 x h (fun r=>K r=true):=by
 unfold Ee at k
 unfold g9
 rw[cH]at k
 rw[if_pos k.1]
 have k:=k.2
 split at k
 ·rename_i hx
  simp only[Da r hx]
  split at k
  ·simp only[*]
  ·cases k
 ·cases k
def DJ (x:AV) (t:HT) (n:Nat) (K:AV→HT→Nat→Bool):Bool:=
 match x with
 | .lit (.string s)=>fN n fun n=>fN s.size fun l=>K (.sl n 0 l 1) (t.set (.cells (s.data.toList.map fun b=>.lit (.int .u8 b.toNat))) n) (n+1)
 | _=>false
theorem M3 (r:HR t n h) {x:AV}{K:AV→HT→Nat→Bool}(k:DJ x t n K=true):jZ x h (KH K):=by
 unfold DJ at k
 unfold jZ
 split at k
 ·simp only[jO]at k
  rw[r.len]
  exact⟨_,_,r.push _,k⟩
 ·cases k
def AZ (bytes:Nat) (z l c:AV) (t:HT) (n:Nat) (K:AV→HT→Nat→Bool):Bool:=
 match l,c with
 | .lit (.int _ l),.lit (.int _ c)=>decide (0≤l∧l≤c∧(bytes:Int)*c≤1099511627776∧c≤1099511627776)&&fN n fun n=>fN l.toNat fun l=>K (.sl n 0 l 1) (t.set (.cells (List.replicate c.toNat z)) n) (n+1)
 | _,_=>false
theorem JF (r:HR t n h) {bytes:Nat}{z l c:AV}{K:AV→HT→Nat→Bool}(k:AZ bytes z l c t n K=true):ix bytes z l c h (KH K):=by
 unfold AZ at k
 unfold ix
 split at k
 ·simp only[jO,Bool.and_eq_true,decide_eq_true_eq]at k
  rw[r.len]
  exact⟨k.1,_,_,r.push _,k.2⟩
 ·cases k
def W8 (v:AV) (t:HT) (K:AV→Bool):Bool:=match v with|.map i=>(match t.get i with|some (.amap es _)=>fN es.length fun l=>K (I l)|_=>false)|_=>false
theorem Xq (r:HR t n h) {v:AV}{K:AV→Bool}(k:W8 v t K=true):yn v h (fun r=>K r=true):=by
 unfold W8 at k
 unfold yn
 split at k
 ·split at k
  ·rename_i hc
   simp only[jO]at k;simp only[r.at_ _ _ hc];exact k
  ·cases k
 ·cases k
def uEq (a b:UInt8):Bool:=Nat.beq a.toNat b.toNat
theorem Ec (a b:UInt8):uEq a b=(a==b):=by
 rw[Bool.eq_iff_iff,uEq,Nat.beq_eq,beq_iff_eq,UInt8.toNat_inj]
def lEq:List UInt8→List UInt8→Bool
 | [],[]=>true
 | a::l,b::m=>bA (uEq a b) (lEq l m)
 | _,_=>false
theorem ZD:∀ a b:List UInt8,lEq a b=true↔a=b
 | [],[]=>by simp[lEq]
 | [],b::m=>by simp[lEq]
 | a::l,[]=>by simp[lEq]
 | a::l,b::m=>by simp only[lEq,cH,Ec,beq_iff_eq,ZD l m,List.cons.injEq]
def sEq (a b:ByteArray):Bool:=lEq a.data.toList b.data.toList
theorem MY (a b:ByteArray):sEq a b=true↔a=b:=by
 unfold sEq
 rw[ZD]
 constructor
 ·intro h
  rcases a with ⟨⟨a⟩⟩;rcases b with ⟨⟨b⟩⟩
  simp at h;subst h;rfl
 ·rintro rfl;rfl
theorem ace (a b:ByteArray):sEq a b=(a==b):=by
 rw[Bool.eq_iff_iff,MY]
 show a=b↔(a.data==b.data)=true
 rw[beq_iff_eq]
 exact⟨fun h=>by rw[h],fun h=>by cases a;cases b;simp at h;rw[h]⟩
def iEq (a b:Int):Bool:=@Int.casesOn (fun _=>Bool) a (fun m=>@Int.casesOn (fun _=>Bool) b (fun k=>Nat.beq m k) (fun _=>false)) (fun m=>@Int.casesOn (fun _=>Bool) b (fun _=>false) (fun k=>Nat.beq m k))
theorem Uu (a b:Int):iEq a b=true↔a=b:=by
 cases a<;>cases b<;>simp[iEq]
 exact⟨fun h=>by rw[h],fun h=>Int.ofNat.inj h⟩
theorem Yh (a b:Int):iEq a b=(a==b):=by
 rw[Bool.eq_iff_iff,Uu,beq_iff_eq]
def aci:Value→Value→Bool
 | .string a,.string b=>sEq a b
 | .int _ a,.int _ b=>iEq a b
 | _,_=>false
theorem aa2 (a b:Value):aci a b=keq a b:=by
 unfold aci keq
 split<;>simp_all [ace,Yh]
def Gi (k:Value):eN→Nat→Option (Nat×Nat×AV)
 | [],_=>none
 | (k',n,v)::r,i=>match aci k k' with
   | true=>some (i,n,v)
   | false=>Gi k r (i+1)
theorem x5 (k:Value):∀ (es:eN) (i:Nat),Gi k es i=lQ k es i
 | [],_=>rfl
 | (k',n,v)::r,i=>by
   simp only[Gi,lQ]
   rw[aa2]
   cases h:keq k k'
   ·simp[x5 k r]
   ·simp
def ab7 (k:Value) (v:AV) (clock:Nat) (es:eN):AObj:=
 match Gi k es 0 with
 | some (i,n,_)=>.amap (es.set i (k,n,v)) clock
 | none=>.amap (es++[(k,clock,v)]) (clock+1)
theorem aaR (k:Value) (v:AV) (clock:Nat) (es:eN):ab7 k v clock es=Qi k v clock es:=by
 unfold ab7 Qi;rw[x5]
 split<;>simp_all
def Rn (d:TypeDesc):eN→Bool
 | []=>true
 | e::es=>bA (kOk d e.1) (Rn d es)
theorem Cn (d:TypeDesc):∀ es:eN,Rn d es=es.all fun e=>kOk d e.1
 | []=>rfl
 | e::es=>by
   simp only[Rn,List.all_cons,← Cn d es]
   cases kOk d e.1<;>rfl
def LD (d:TypeDesc) (ok:Bool) (z x key:AV) (t:HT) (K:AV→Bool):Bool:=
 match key with
 | .lit k=>match x with
   | .lit (.map none)=>bA (kOk d k) (K (if ok then .tup [z,B false] else z))
   | .map i=>match t.get i with
     | some (.amap es _)=>bA (kOk d k) (bA (Rn d es) (match Gi k es 0 with
       | some (_,_,v)=>K (if ok then .tup [v,B true] else v)
       | none=>K (if ok then .tup [z,B false] else z)))
     | _=>false
   | _=>false
 | _=>false
theorem Q9 (r:HR t n h) {d:TypeDesc}{ok:Bool}{z x key:AV}{K:AV→Bool}(k:LD d ok z x key t K=true):il d ok z x key h (fun r=>K r=true):=by
 unfold LD at k
 unfold il
 split at k
 ·split at k
  ·rw[cH]at k;simp only[if_pos k.1];exact k.2
  ·split at k
   ·rename_i hc
    simp only[r.at_ _ _ hc]
    rw[cH,cH,Cn,x5]at k
    rw[if_pos (by simp[k.1,k.2.1])]
    have k:=k.2.2
    split at k<;>simp only[*]
   ·cases k
  ·cases k
 ·cases k
def vh (d:TypeDesc) (x key v:AV) (t:HT) (n:Nat) (K:HT→Nat→Bool):Bool:=
 match key,x with
 | .lit k,.map i=>(match t.get i with
   | some (.amap es clock)=>bA (kOk d k) (bA (Rn d es) (K (t.set (ab7 k v clock es) i) n))
   | _=>false)
 | _,_=>false
theorem Af (r:HR t n h) {d:TypeDesc}{x key v:AV}{K:HT→Nat→Bool}(k:vh d x key v t n K=true):gA d x key v h (KS K):=by
 unfold vh at k
 unfold gA
 split at k
 ·skip
  split at k
  ·rename_i hc
   simp only[r.at_ _ _ hc]
   rw[cH,cH,Cn,aaR]at k
   rw[if_pos (by simp[k.1,k.2.1])]
   exact⟨_,_,r.set hc,k.2.2⟩
  ·cases k
 ·cases k
def DR (d:TypeDesc) (z x key:AV) (t:HT) (n:Nat) (K:AV→HT→Nat→Bool):Bool:=
 match key,x with
 | .lit k,.map i=>(match t.get i with
   | some (.amap es clock)=>bA (kOk d k) (bA (Rn d es) (match Gi k es 0 with
     | some (_,m,v)=>K (.tup [v,I m]) t n
     | none=>K (.tup [z,I clock]) (t.set (.amap (es++[(k,clock,z)]) (clock+1)) i) n))
   | _=>false)
 | _,_=>false
theorem LF (r:HR t n h) {d:TypeDesc}{z x key:AV}{K:AV→HT→Nat→Bool}(k:DR d z x key t n K=true):kw d z x key h (KH K):=by
 unfold DR at k
 unfold kw
 split at k
 ·skip
  split at k
  ·rename_i hc
   simp only[r.at_ _ _ hc]
   rw[cH,cH,Cn,x5]at k
   rw[if_pos (by simp[k.1,k.2.1])]
   have k:=k.2.2
   split at k
   ·simp only[*];exact⟨_,_,r,k⟩
   ·simp only[*];exact⟨_,_,r.set hc,k⟩
  ·cases k
 ·cases k
def xL (x st v:AV) (t:HT) (n:Nat) (K:HT→Nat→Bool):Bool:=
 match st,x with
 | .lit (.int .i64 m),.map i=>(match t.get i with
   | some (.amap es clock)=>(match u7 m es 0 with
     | some (j,k,b)=>K (t.set (.amap (es.set j (k,b,v)) clock) i) n
     | none=>false)
   | _=>false)
 | _,_=>false
theorem GZ (r:HR t n h) {x st v:AV}{K:HT→Nat→Bool}(k:xL x st v t n K=true):fV x st v h (KS K):=by
 unfold xL at k
 unfold fV
 split at k
 ·skip
  split at k
  ·rename_i hc
   simp only[r.at_ _ _ hc]
   split at k
   ·simp only[*];exact⟨_,_,r.set hc,k⟩
   ·cases k
  ·cases k
 ·cases k
def L4 (d:TypeDesc) (x key:AV) (t:HT) (n:Nat) (K:HT→Nat→Bool):Bool:=
 match key with
 | .lit k=>match x with
   | .lit (.map none)=>bA (kOk d k) (K t n)
   | .map i=>(match t.get i with
     | some (.amap es clock)=>bA (kOk d k) (bA (Rn d es) (match Gi k es 0 with
       | some (j,_,_)=>K (t.set (.amap (es.eraseIdx j) clock) i) n
       | none=>K t n))
     | _=>false)
   | _=>false
 | _=>false
theorem RF (r:HR t n h) {d:TypeDesc}{x key:AV}{K:HT→Nat→Bool}(k:L4 d x key t n K=true):pW d x key h (KS K):=by
 unfold L4 at k
 unfold pW
 split at k
 ·split at k
  ·rw[cH]at k;simp only[if_pos k.1];exact⟨_,_,r,k.2⟩
  ·skip
   split at k
   ·rename_i hc
    simp only[r.at_ _ _ hc]
    rw[cH,cH,Cn,x5]at k
    rw[if_pos (by simp[k.1,k.2.1])]
    have k:=k.2.2
    split at k
    ·simp only[*];exact⟨_,_,r.set hc,k⟩
    ·simp only[*];exact⟨_,_,r,k⟩
   ·cases k
  ·cases k
 ·cases k
def G6 (t:HT) (n:Nat) (K:AV→HT→Nat→Bool):Bool:=fN n fun n=>K (.map n) (t.set (.amap [] 0) n) (n+1)
theorem Pk (r:HR t n h) {K:AV→HT→Nat→Bool}(k:G6 t n K=true):ul h (KH K):=by
 unfold G6 at k;rw[jO]at k
 unfold ul
 rw[r.len]
 exact⟨_,_,r.push _,k⟩
def L5 (x:AV) (t:HT) (n:Nat) (K:AV→HT→Nat→Bool):Bool:=
 match x with
 | .lit (.string s)=>fN n fun n=>K (.ptr n 0) (t.set (.siter s 0) n) (n+1)
 | _=>false
theorem S7 (r:HR t n h) {x:AV}{K:AV→HT→Nat→Bool}(k:L5 x t n K=true):rN x h (KH K):=by
 unfold L5 at k
 unfold rN
 split at k
 ·rw[jO]at k;rw[r.len];exact⟨_,_,r.push _,k⟩
 ·cases k
def RQ (x:AV) (t:HT) (n:Nat) (K:AV→HT→Nat→Bool):Bool:=
 match x with
 | .ptr i 0=>(match t.get i with
   | some (.siter s pos)=>bI (Nat.blt pos s.size) (K (.tup [B true,I pos,.lit (.int .i32 (Utf8.decode s pos).1)]) (t.set (.siter s (pos+(Utf8.decode s pos).2)) i) n) (K (.tup [B false]) t n)
   | _=>false)
 | _=>false
theorem VL (r:HR t n h) {x:AV}{K:AV→HT→Nat→Bool}(k:RQ x t n K=true):vP x h (KH K):=by
 unfold RQ at k
 unfold vP
 split at k
 ·skip
  split at k
  ·rename_i hc
   simp only[r.at_ _ _ hc]
   rw[J4]at k
   rcases k with ⟨hp,k⟩|⟨hp,k⟩
   ·rw[if_pos (by rw[Nat.blt_eq]at hp;exact hp)];exact⟨_,_,r.set hc,k⟩
   ·rw[if_neg (fun e=>by rw[← Nat.blt_eq,hp]at e;cases e)];exact⟨_,_,r,k⟩
  ·cases k
 ·cases k
def LG (x:AV) (t:HT) (n:Nat) (K:AV→HT→Nat→Bool):Bool:=
 match x with
 | .lit (.map none)=>fN n fun n=>K (.ptr n 0) (t.set (.miter none 0 [] 0) n) (n+1)
 | .map i=>(match t.get i with
   | some (.amap es clock)=>fN n fun n=>K (.ptr n 0) (t.set (.miter (some i) clock [] clock) n) (n+1)
   | _=>false)
 | _=>false
theorem S2 (r:HR t n h) {x:AV}{K:AV→HT→Nat→Bool}(k:LG x t n K=true):qb x h (KH K):=by
 unfold LG at k
 unfold qb
 split at k
 ·rw[jO]at k;rw[r.len];exact⟨_,_,r.push _,k⟩
 ·skip
  split at k
  ·rename_i hc
   simp only[r.at_ _ _ hc]
   rw[jO]at k;rw[r.len];exact⟨_,_,r.push _,k⟩
  ·cases k
 ·cases k
def Sd (x:AV) (t:HT) (n:Nat) (K:AV→HT→Nat→Bool):Bool:=
 match x with
 | .ptr i 0=>(match t.get i with
   | some (.miter none _ _ _)=>K (.tup [B false]) t n
   | some (.miter (some j) since seen last)=>(match t.get j with
     | some (.amap es clock)=>
       decide ((es.all fun e=>e.1.oneCell')=true∧(!seen.isEmpty&&!es.isEmpty&&es.all fun e=>decide (e.2.1≥last))=false)&&
       ((!(es.all fun e=>seen.contains e.2.1||decide (since≤e.2.1))||K (.tup [B false]) t n)&&
       es.all fun e=>seen.contains e.2.1||K (.tup [B true,.lit e.1,e.2.2]) (t.set (.miter (some j) since (seen++[e.2.1]) clock) i) n)
     | _=>false)
   | _=>false)
 | _=>false
theorem WG (r:HR t n h) {x:AV}{K:AV→HT→Nat→Bool}(k:Sd x t n K=true):uW x h (KH K):=by
 unfold Sd at k
 unfold uW
 split at k
 ·skip
  split at k
  ·rename_i hes;simp only[r.at_ _ _ hes];exact⟨_,_,r,k⟩
  ·rename_i hes
   split at k
   ·rename_i hm
    simp only[r.at_ _ _ hes,r.at_ _ _ hm]
    simp only[Bool.and_eq_true,decide_eq_true_eq,Bool.or_eq_true,Bool.not_eq_true',List.all_eq_true,List.all_eq_false]at k
    obtain⟨k0,k1,k2⟩:=k
    refine⟨⟨List.all_eq_true.2 k0.1,k0.2⟩,fun ha=>?_,fun e he hs=>?_⟩
    ·rcases k1 with ⟨x,hx,hn⟩|k1
     ·exfalso
      rcases ha x hx with h1|h1
      ·exact hn (by simp[h1])
      ·exact hn (by simp[h1])
     ·exact⟨_,_,r,k1⟩
    ·rcases k2 e he with h1|h1
     ·exact (hs (by simpa using h1)).elim
     ·exact⟨_,_,r.set hes,h1⟩
   ·cases k
  ·cases k
 ·cases k
def Sb (x:AV) (t:HT) (K:AV→Bool):Bool:=
 match x with
 | .ptr i 0=>(match t.get i with
   | some (.miter (some j) _ seen last)=>(match t.get j,seen.getLast? with
     | some (.amap es clock),some n=>(match oF n es with
       | some (k,v)=>bA (k.oneCell'&&clock==last) (K (.tup [.lit k,v]))
       | none=>false)
     | _,_=>false)
   | _=>false)
 | _=>false
theorem UQ (r:HR t n h) {x:AV}{K:AV→Bool}(k:Sb x t K=true):ph x h (fun r=>K r=true):=by
 unfold Sb at k
 unfold ph
 split at k
 ·split at k
  ·rename_i hc
   simp only[r.at_ _ _ hc]
   split at k
   ·rename_i h1 h2
    simp only[r.at_ _ _ h1,h2]
    split at k
    ·rw[cH]at k;simp only[*,if_true]
    ·cases k
   ·cases k
  ·cases k
 ·cases k
end
end
section
def kNo (k:IntKind):Nat:=match k with|.i8=>0|.i16=>1|.i32=>2|.i64=>3|.u8=>4|.u16=>5|.u32=>6|.u64=>7
def kEq (j k:IntKind):Bool:=Nat.beq (kNo j) (kNo k)
theorem T0 (j k:IntKind):kEq j k=true↔j=k:=by cases j<;>cases k<;>decide
def acJ (n:Int):Bool:=@Int.casesOn (fun _=>Bool) n (fun m=>Nat.ble m 9223372036854775807) (fun m=>Nat.ble m 9223372036854775807)
theorem Vr {n:Int}(h:acJ n=true):IntKind.i64.wrap n=n:=by
 have hb:-9223372036854775808≤n∧n≤9223372036854775807:=by
  cases n with
  | ofNat m=>have:m≤9223372036854775807:=Nat.le_of_ble_eq_true h;constructor<;>simp<;>omega
  | negSucc m=>have:m≤9223372036854775807:=Nat.le_of_ble_eq_true h;constructor<;>omega
 exact IntWalk.i64_in _ hb
def wI (k:IntKind) (n:Int) (K:Int→Bool):Bool:=bI (bA (Nat.beq (kNo k) 3) (acJ n)) (fI n K) (fI (k.wrap n) K)
theorem abG (k:IntKind) (n:Int) (K:Int→Bool):wI k n K=K (k.wrap n):=by
 unfold wI
 cases h:bA (Nat.beq (kNo k) 3) (acJ n)
 ·simp[bI,Pj]
 ·rw[cH]at h
  have hk:k=.i64:=by
   have h1:=Nat.eq_of_beq_eq_true h.1
   cases k<;>simp_all [kNo]
  subst hk
  simp[bI,Pj,Vr h.2]
def iLt (a b:Int):Bool:=@Int.casesOn (fun _=>Bool) a (fun m=>@Int.casesOn (fun _=>Bool) b (fun k=>Nat.blt m k) (fun _=>false)) (fun m=>@Int.casesOn (fun _=>Bool) b (fun _=>true) (fun k=>Nat.blt k m))
theorem sH (a b:Nat):Nat.blt a b=true↔a<b:=by simp
theorem Ug (a b:Int):iLt a b=true↔a<b:=by
 cases a<;>cases b
 ·exact (sH _ _).trans ⟨fun h=>by simpa using h,fun h=>by simpa using h⟩
 ·exact⟨fun h=>(by cases h),fun h=>by simp at h;omega⟩
 ·exact⟨fun h=>by simp;omega,fun h=>rfl⟩
 ·exact (sH _ _).trans ⟨fun h=>by omega,fun h=>by omega⟩
def fS:List UInt8→(List UInt8→Bool)→Bool
 | [],K=>K []
 | a::l,K=>fS l fun l=>K (a::l)
theorem Zw:∀ (l:List UInt8) (K:List UInt8→Bool),fS l K=K l
 | [],K=>rfl
 | a::l,K=>by simp only[fS,Zw l]
def uLt (a b:UInt8):Bool:=Nat.blt a.toNat b.toNat
def lLt:List UInt8→List UInt8→Bool
 | _,[]=>false
 | [],_::_=>true
 | a::x,b::y=>bI (uLt a b) true (bA (uEq a b) (lLt x y))
theorem ZU:∀ a b:List UInt8,lLt a b=Op.bytesLess a b
 | [],[]=>rfl
 | a::x,[]=>rfl
 | [],b::y=>rfl
 | a::x,b::y=>by
   simp only[lLt,Op.bytesLess,ZU x y,Ec]
   have:uLt a b=decide (a<b):=by
    rw[Bool.eq_iff_iff,uLt,sH,decide_eq_true_eq,UInt8.lt_iff_toNat_lt]
   rw[this]
   cases decide (a<b)<;>cases (a==b)<;>rfl
def oV (o:Option Value) (K:AV→Bool):Bool:=match o with
 | some (.int k r)=>fI r fun r=>K (.lit (.int k r))
 | some (.bool b)=>fB b fun b=>K (.lit (.bool b))
 | some (.float k r)=>fN r fun r=>K (.lit (.float k r))
 | some r=>K (.lit r)
 | none=>false
theorem YN (o:Option Value) (K:AV→Bool) (h:oV o K=true):∃ r,o=some r∧K (.lit r)=true:=by
 unfold oV at h
 split at h
 ·rw[Pj]at h;exact⟨_,rfl,h⟩
 ·rw[TI]at h;exact⟨_,rfl,h⟩
 ·rw[jO]at h;exact⟨_,rfl,h⟩
 ·exact⟨_,rfl,h⟩
 ·cases h
def acD (op:BinOp) (k k':IntKind) (a b:Int) (K:AV→Bool):Bool:=
 match op with
 | .add=>bA (kEq k k') (wI k (Int.add a b) fun r=>K (.lit (.int k r)))
 | .sub=>bA (kEq k k') (wI k (Int.sub a b) fun r=>K (.lit (.int k r)))
 | .mul=>bA (kEq k k') (wI k (Int.mul a b) fun r=>K (.lit (.int k r)))
 | .eql=>bA (kEq k k') (fB (iEq a b) fun r=>K (B r))
 | .neq=>bA (kEq k k') (fB (iEq a b) fun r=>K (B !r))
 | .lss=>bA (kEq k k') (fB (iLt a b) fun r=>K (B r))
 | .leq=>bA (kEq k k') (fB (iLt b a) fun r=>K (B !r))
 | .gtr=>bA (kEq k k') (fB (iLt b a) fun r=>K (B r))
 | .geq=>bA (kEq k k') (fB (iLt a b) fun r=>K (B !r))
 | op=>oV (cD op (.int k a) (.int k' b)) K
def acn (op:BinOp) (x y:ByteArray) (K:AV→Bool):Bool:=
 match op with
 | .add=>bA (Nat.ble (Nat.add x.data.toList.length y.data.toList.length) 1099511627776) (fS (x.data.toList++y.data.toList) fun l=>K (S ⟨⟨l⟩⟩))
 | .eql=>fB (sEq x y) fun r=>K (B r)
 | .neq=>fB (sEq x y) fun r=>K (B !r)
 | .lss=>fB (lLt x.data.toList y.data.toList) fun r=>K (B r)
 | .leq=>fB (bI (lLt x.data.toList y.data.toList) true (sEq x y)) fun r=>K (B r)
 | .gtr=>fB (bI (lLt x.data.toList y.data.toList) true (sEq x y)) fun r=>K (B !r)
 | .geq=>fB (lLt x.data.toList y.data.toList) fun r=>K (B !r)
 | _=>false
def Zz (op:BinOp) (x y:AV) (K:AV→Bool):Bool:=
 match x,y with
 | .lit (.int k a),.lit (.int k' b)=>acD op k k' a b K
 | .lit (.string a),.lit (.string b)=>acn op a b K
 | .lit a,.lit b=>oV (cD op a b) K
 | _,_=>false
theorem aak {op:BinOp}{k k':IntKind}{a b:Int}{K:AV→Bool}(h:acD op k k' a b K=true):∃ r,cD op (.int k a) (.int k' b)=some r∧K (.lit r)=true:=by
 unfold acD at h
 have h1:decide (b<a)=!decide (a≤b):=by by_cases hh:a≤b<;>simp[hh]<;>omega
 have h2:decide (a<b)=!decide (b≤a):=by by_cases hh:b≤a<;>simp[hh]<;>omega
 have e1:iLt a b=decide (a<b):=by rw[Bool.eq_iff_iff,Ug,decide_eq_true_eq]
 have e2:iLt b a=decide (b<a):=by rw[Bool.eq_iff_iff,Ug,decide_eq_true_eq]
 split at h
 case h_10=>exact YN _ _ h
 all_goals
  rw[cH,T0]at h
  obtain⟨rfl,h⟩:=h
  first|rw[abG]at h|rw[TI]at h
  refine⟨_,by simp only[cD,gS,if_true];rfl,?_⟩
  first
   | exact h
   | (rw[Yh]at h;exact h)
   | (rw[e1]at h;exact h)
   | (rw[e2]at h;exact h)
   | (rw[e1,h2,Bool.not_not]at h;exact h)
   | (rw[e2,h1,Bool.not_not]at h;exact h)
theorem Z8 {op:BinOp}{x y:ByteArray}{K:AV→Bool}(h:acn op x y K=true):∃ r,cD op (.string x) (.string y)=some r∧K (.lit r)=true:=by
 have he:(x.toList==y.toList)=sEq x y:=by
  rw[Bool.eq_iff_iff,MY,beq_iff_eq,ByteArray.toList_eq,ByteArray.toList_eq]
  exact⟨fun h=>by rcases x with ⟨⟨x⟩⟩;rcases y with ⟨⟨y⟩⟩;simp at h;rw[h],fun h=>by rw[h]⟩
 have hl:Op.bytesLess x.toList y.toList=lLt x.data.toList y.data.toList:=by rw[ByteArray.toList_eq,ByteArray.toList_eq,ZU]
 have hor:∀ a b:Bool,bI a true b=(a||b):=fun a b=>by cases a<;>rfl
 have hbl:cD op (.string x) (.string y)=wA op x y:=by cases op<;>rfl
 rw[hbl]
 unfold acn at h
 unfold wA
 simp only[he,hl]
 split at h
 ·rw[cH,Zw]at h
  have hs:=Nat.le_of_ble_eq_true h.1
  have hsz:¬ ((x.size+y.size:Nat):Int) > IntKind.i64.max:=by
   have h1:x.data.toList.length=x.size:=rfl
   have h2:y.data.toList.length=y.size:=rfl
   have h3:Nat.add x.data.toList.length y.data.toList.length=x.size+y.size:=rfl
   rw[h3]at hs
   have:IntKind.i64.max=9223372036854775807:=by decide
   rw[this];omega
  refine⟨_,by rw[if_neg hsz],?_⟩
  have:(x++y:ByteArray)=⟨⟨x.data.toList++y.data.toList⟩⟩:=by
   have:(x++y).data=x.data++y.data:=by simp
   rcases h:x++y with ⟨⟨l⟩⟩
   rw[h]at this
   congr 1
   apply Array.toList_inj.1
   have h2:=congrArg Array.toList this
   simpa using h2
  rw[this]
  exact h.2
 all_goals first
  | cases h;done
  | (rw[TI]at h;exact⟨_,rfl,h⟩)
  | (rw[TI,hor]at h;exact⟨_,rfl,h⟩)
theorem LC {op:BinOp}{x y:AV}{K:AV→Bool}(h:Zz op x y K=true):FL op x y (fun r=>K r=true):=by
 unfold Zz at h
 unfold FL
 split at h
 ·obtain⟨r,e,k⟩:=aak h;simp only[e];exact k
 ·obtain⟨r,e,k⟩:=Z8 h;simp only[e];exact k
 ·obtain⟨r,e,k⟩:=YN _ _ h;simp only[e];exact k
 ·cases h
def LZ (kd:FloatKind) (x:AV) (K:AV→Bool):Bool:=match x with|.lit (.int _ n)=>fN (kd.nearest n) fun r=>K (.lit (.float kd r))|_=>false
theorem Sl {kd:FloatKind}{x:AV}{K:AV→Bool}(h:LZ kd x K=true):mL kd x (fun r=>K r=true):=by
 unfold LZ at h
 unfold mL
 split at h
 ·rw[jO]at h;exact h
 ·cases h
def MO (kd:IntKind) (x:AV) (K:AV→Bool):Bool:=match x with|.lit (.int _ n)=>wI kd n fun r=>K (.lit (.int kd r))|_=>false
theorem SL {kd:IntKind}{x:AV}{K:AV→Bool}(h:MO kd x K=true):m9 kd x (fun r=>K r=true):=by
 unfold MO at h
 unfold m9
 split at h
 ·rw[abG]at h;exact h
 ·cases h
def tUn (op:UnOp) (x:AV) (K:AV→Bool):Bool:=bUn op x fun v=>match v with|.lit r=>oV (some r) K|v=>K v
theorem acy {op:UnOp}{x:AV}{K:AV→Bool}(h:tUn op x K=true):pUn op x (fun r=>K r=true):=by
 have hk:∀ v:AV,(match v with|.lit r=>oV (some r) K|v=>K v)=true→K v=true:=fun v k=>by
  split at k
  ·obtain⟨r',e,k⟩:=YN _ _ k;cases e;exact k
  ·exact k
 have k:=acK _ _ h
 unfold pUn at k ⊢
 split at k<;>first|exact k.elim|exact hk _ k
def YR:List UInt8→Nat→Option UInt8
 | [],_=>none
 | b::l,i=>@Nat.casesOn (fun _=>Option UInt8) i (some b) (fun i=>YR l i)
theorem T2:∀ (l:List UInt8) (i:Nat),YR l i=l[i]?
 | [],i=>by simp[YR]
 | b::l,0=>rfl
 | b::l,i+1=>by show YR l i=_;rw[T2 l i];simp
def ML (v i:AV) (K:AV→Bool):Bool:=match v,i with
 | .lit (.string s),.lit (.int _ (.ofNat n))=>(match YR s.data.toList n with|some b=>fN b.toNat fun c=>K (.lit (.int .u8 (.ofNat c)))|none=>false)
 | _,_=>false
theorem Ra {v i:AV}{K:AV→Bool}(h:ML v i K=true):lC v i (fun r=>K r=true):=by
 unfold ML at h
 unfold lC
 split at h
 ·rename_i s k n
  rw[T2]at h
  split at h
  ·rename_i b hb
   rw[jO]at h
   have hl:n<s.size:=(List.getElem?_eq_some_iff.1 hb).1
   refine⟨⟨by simp,by simpa using hl⟩,?_⟩
   have:bAt s (Int.ofNat n)=Int.ofNat b.toNat:=by
    unfold bAt
    have:s.data[n]?=some b:=by rw[← Array.getElem?_toList];exact hb
    simp[this]
   rw[this];exact h
  ·cases h
 ·cases h
def abu (o:Option AV) (d:Nat):Option Nat:=match o with|none=>some d|some (.lit (.int _ (.ofNat n)))=>some n|_=>none
theorem Tz {o:Option AV}{d m:Nat}(h:abu o d=some m):ln o d=some (m:Int):=by
 unfold abu at h
 split at h
 ·cases h;rfl
 ·cases h;rfl
 ·cases h
def Nw (v:AV) (lo hi:Option AV) (K:AV→Bool):Bool:=
 match v with
 | .lit (.string s)=>(match abu lo 0,abu hi s.data.toList.length with
   | some l,some h=>bA (Nat.ble l h) (bA (Nat.ble h s.data.toList.length) (fS ((s.data.toList.drop l).take (Nat.sub h l)) fun r=>K (S ⟨⟨r⟩⟩)))
   | _,_=>false)
 | _=>false
theorem Rr (s:ByteArray) (l h:Nat):s.extract l h=⟨⟨(s.data.toList.drop l).take (h-l)⟩⟩:=by
 have h1:(s.extract l h).data=s.data.extract l h:=by simp
 rcases he:s.extract l h with ⟨d⟩
 rw[he]at h1
 congr 1
 apply Array.toList_inj.1
 have h2:=congrArg Array.toList h1
 simpa [Array.toList_extract,List.extract_eq_take_drop] using h2
theorem Sa {v:AV}{lo hi:Option AV}{K:AV→Bool}(k:Nw v lo hi K=true):jq v lo hi (fun r=>K r=true):=by
 unfold Nw at k
 unfold jq
 split at k
 ·rename_i s
  split at k
  ·rename_i l h h1 h2
   rw[cH,cH,Zw]at k
   have a1:=Nat.le_of_ble_eq_true k.1
   have a2:=Nat.le_of_ble_eq_true k.2.1
   have h2':ln hi s.size=some (h:Int):=Tz h2
   have h1':ln lo 0=some (l:Int):=Tz h1
   simp only[h1',h2']
   have hz:s.data.toList.length=s.size:=rfl
   rw[hz]at a2
   refine⟨⟨by omega,by omega,by omega⟩,?_⟩
   simp only[Int.toNat_natCast]
   rw[Rr]
   exact k.2.2
  ·cases k
 ·cases k
def Z6 (v:AV) (K:AV→Bool):Bool:=match v with|.lit (.string s)=>fN s.data.toList.length fun n=>K (I (.ofNat n))|_=>false
theorem YQ {v:AV}{K:AV→Bool}(h:Z6 v K=true):zJ v (fun r=>K r=true):=by
 unfold Z6 at h
 unfold zJ
 split at h
 ·rw[jO]at h;exact h
 ·cases h
def Au (off:Nat) (v:AV) (K:AV→Bool):Bool:=match v with|.ptr i o=>fN (Nat.add o off) fun o=>K (.ptr i o)|.cptr cs=>K (.cptr (cs.drop off))|_=>false
theorem JJ {off:Nat}{v:AV}{K:AV→Bool}(h:Au off v K=true):fu off v (fun r=>K r=true):=by
 unfold Au at h
 unfold fu
 split at h
 ·rw[jO]at h;exact h
 ·exact h
 ·cases h
def AP (size:Nat) (v i:AV) (K:AV→Bool):Bool:=
 match i with
 | .lit (.int _ (.ofNat n))=>match v with
   | .sl j off len sz=>bA (Nat.blt n len) (bA (Nat.beq sz size) (fN (Nat.add off (Nat.mul n size)) fun o=>K (.ptr j o)))
   | .snap m cs=>bA (Nat.blt n m) (K (.cptr (cs.drop (Nat.mul n size))))
   | .full m cs=>bA (Nat.blt n m) (K (.cptr (cs.drop (Nat.mul n size))))
   | _=>false
 | _=>false
theorem Jt {size:Nat}{v i:AV}{K:AV→Bool}(h:AP size v i K=true):dw size v i (fun r=>K r=true):=by
 unfold AP at h
 unfold dw
 split at h
 ·rename_i k n
  simp only[asI]
  split at h
  ·rw[cH,cH,jO,sH]at h
   exact⟨⟨by simp,by simpa using h.1,Nat.eq_of_beq_eq_true h.2.1⟩,h.2.2⟩
  ·rw[cH,sH]at h
   exact⟨⟨by simp,by simpa using h.1⟩,h.2⟩
  ·rw[cH,sH]at h
   exact⟨⟨by simp,by simpa using h.1⟩,h.2⟩
  ·cases h
 ·cases h
end
section
structure V16 where
 (a0 a1 a2 a3 a4 a5 a6 a7 a8 a9 a10 a11 a12 a13 a14 a15:Option AV)
structure E16 where
 (b0 b1 b2 b3 b4 b5 b6 b7 b8 b9 b10 b11 b12 b13 b14 b15:V16)
structure Kv where
 g:V16→Option AV
 s:V16→AV→V16
structure adn where
 g:E16→Option AV
 s:E16→AV→E16
def v0:V16:=⟨none,none,none,none,none,none,none,none,none,none,none,none,none,none,none,none⟩
def ee0:E16:=⟨v0,v0,v0,v0,v0,v0,v0,v0,v0,v0,v0,v0,v0,v0,v0,v0⟩
def K4 (i:Nat):Kv:=match i with
 | 0=>⟨fun v=>v.a0,fun v x=>match v with|⟨a0,a1,a2,a3,a4,a5,a6,a7,a8,a9,a10,a11,a12,a13,a14,a15⟩=>⟨some x,a1,a2,a3,a4,a5,a6,a7,a8,a9,a10,a11,a12,a13,a14,a15⟩⟩
 | 1=>⟨fun v=>v.a1,fun v x=>match v with|⟨a0,a1,a2,a3,a4,a5,a6,a7,a8,a9,a10,a11,a12,a13,a14,a15⟩=>⟨a0,some x,a2,a3,a4,a5,a6,a7,a8,a9,a10,a11,a12,a13,a14,a15⟩⟩
 | 2=>⟨fun v=>v.a2,fun v x=>match v with|⟨a0,a1,a2,a3,a4,a5,a6,a7,a8,a9,a10,a11,a12,a13,a14,a15⟩=>⟨a0,a1,some x,a3,a4,a5,a6,a7,a8,a9,a10,a11,a12,a13,a14,a15⟩⟩
 | 3=>⟨fun v=>v.a3,fun v x=>match v with|⟨a0,a1,a2,a3,a4,a5,a6,a7,a8,a9,a10,a11,a12,a13,a14,a15⟩=>⟨a0,a1,a2,some x,a4,a5,a6,a7,a8,a9,a10,a11,a12,a13,a14,a15⟩⟩
 | 4=>⟨fun v=>v.a4,fun v x=>match v with|⟨a0,a1,a2,a3,a4,a5,a6,a7,a8,a9,a10,a11,a12,a13,a14,a15⟩=>⟨a0,a1,a2,a3,some x,a5,a6,a7,a8,a9,a10,a11,a12,a13,a14,a15⟩⟩
 | 5=>⟨fun v=>v.a5,fun v x=>match v with|⟨a0,a1,a2,a3,a4,a5,a6,a7,a8,a9,a10,a11,a12,a13,a14,a15⟩=>⟨a0,a1,a2,a3,a4,some x,a6,a7,a8,a9,a10,a11,a12,a13,a14,a15⟩⟩
 | 6=>⟨fun v=>v.a6,fun v x=>match v with|⟨a0,a1,a2,a3,a4,a5,a6,a7,a8,a9,a10,a11,a12,a13,a14,a15⟩=>⟨a0,a1,a2,a3,a4,a5,some x,a7,a8,a9,a10,a11,a12,a13,a14,a15⟩⟩
 | 7=>⟨fun v=>v.a7,fun v x=>match v with|⟨a0,a1,a2,a3,a4,a5,a6,a7,a8,a9,a10,a11,a12,a13,a14,a15⟩=>⟨a0,a1,a2,a3,a4,a5,a6,some x,a8,a9,a10,a11,a12,a13,a14,a15⟩⟩
 | 8=>⟨fun v=>v.a8,fun v x=>match v with|⟨a0,a1,a2,a3,a4,a5,a6,a7,a8,a9,a10,a11,a12,a13,a14,a15⟩=>⟨a0,a1,a2,a3,a4,a5,a6,a7,some x,a9,a10,a11,a12,a13,a14,a15⟩⟩
 | 9=>⟨fun v=>v.a9,fun v x=>match v with|⟨a0,a1,a2,a3,a4,a5,a6,a7,a8,a9,a10,a11,a12,a13,a14,a15⟩=>⟨a0,a1,a2,a3,a4,a5,a6,a7,a8,some x,a10,a11,a12,a13,a14,a15⟩⟩
 | 10=>⟨fun v=>v.a10,fun v x=>match v with|⟨a0,a1,a2,a3,a4,a5,a6,a7,a8,a9,a10,a11,a12,a13,a14,a15⟩=>⟨a0,a1,a2,a3,a4,a5,a6,a7,a8,a9,some x,a11,a12,a13,a14,a15⟩⟩
 | 11=>⟨fun v=>v.a11,fun v x=>match v with|⟨a0,a1,a2,a3,a4,a5,a6,a7,a8,a9,a10,a11,a12,a13,a14,a15⟩=>⟨a0,a1,a2,a3,a4,a5,a6,a7,a8,a9,a10,some x,a12,a13,a14,a15⟩⟩
 | 12=>⟨fun v=>v.a12,fun v x=>match v with|⟨a0,a1,a2,a3,a4,a5,a6,a7,a8,a9,a10,a11,a12,a13,a14,a15⟩=>⟨a0,a1,a2,a3,a4,a5,a6,a7,a8,a9,a10,a11,some x,a13,a14,a15⟩⟩
 | 13=>⟨fun v=>v.a13,fun v x=>match v with|⟨a0,a1,a2,a3,a4,a5,a6,a7,a8,a9,a10,a11,a12,a13,a14,a15⟩=>⟨a0,a1,a2,a3,a4,a5,a6,a7,a8,a9,a10,a11,a12,some x,a14,a15⟩⟩
 | 14=>⟨fun v=>v.a14,fun v x=>match v with|⟨a0,a1,a2,a3,a4,a5,a6,a7,a8,a9,a10,a11,a12,a13,a14,a15⟩=>⟨a0,a1,a2,a3,a4,a5,a6,a7,a8,a9,a10,a11,a12,a13,some x,a15⟩⟩
 | 15=>⟨fun v=>v.a15,fun v x=>match v with|⟨a0,a1,a2,a3,a4,a5,a6,a7,a8,a9,a10,a11,a12,a13,a14,a15⟩=>⟨a0,a1,a2,a3,a4,a5,a6,a7,a8,a9,a10,a11,a12,a13,a14,some x⟩⟩
 | _=>⟨fun _=>none,fun v _=>v⟩
def Lo (j:Nat) (l:Kv):adn:=match j with
 | 0=>⟨fun e=>l.g e.b0,fun e x=>match e with|⟨b0,b1,b2,b3,b4,b5,b6,b7,b8,b9,b10,b11,b12,b13,b14,b15⟩=>⟨l.s b0 x,b1,b2,b3,b4,b5,b6,b7,b8,b9,b10,b11,b12,b13,b14,b15⟩⟩
 | 1=>⟨fun e=>l.g e.b1,fun e x=>match e with|⟨b0,b1,b2,b3,b4,b5,b6,b7,b8,b9,b10,b11,b12,b13,b14,b15⟩=>⟨b0,l.s b1 x,b2,b3,b4,b5,b6,b7,b8,b9,b10,b11,b12,b13,b14,b15⟩⟩
 | 2=>⟨fun e=>l.g e.b2,fun e x=>match e with|⟨b0,b1,b2,b3,b4,b5,b6,b7,b8,b9,b10,b11,b12,b13,b14,b15⟩=>⟨b0,b1,l.s b2 x,b3,b4,b5,b6,b7,b8,b9,b10,b11,b12,b13,b14,b15⟩⟩
 | 3=>⟨fun e=>l.g e.b3,fun e x=>match e with|⟨b0,b1,b2,b3,b4,b5,b6,b7,b8,b9,b10,b11,b12,b13,b14,b15⟩=>⟨b0,b1,b2,l.s b3 x,b4,b5,b6,b7,b8,b9,b10,b11,b12,b13,b14,b15⟩⟩
 | 4=>⟨fun e=>l.g e.b4,fun e x=>match e with|⟨b0,b1,b2,b3,b4,b5,b6,b7,b8,b9,b10,b11,b12,b13,b14,b15⟩=>⟨b0,b1,b2,b3,l.s b4 x,b5,b6,b7,b8,b9,b10,b11,b12,b13,b14,b15⟩⟩
 | 5=>⟨fun e=>l.g e.b5,fun e x=>match e with|⟨b0,b1,b2,b3,b4,b5,b6,b7,b8,b9,b10,b11,b12,b13,b14,b15⟩=>⟨b0,b1,b2,b3,b4,l.s b5 x,b6,b7,b8,b9,b10,b11,b12,b13,b14,b15⟩⟩
 | 6=>⟨fun e=>l.g e.b6,fun e x=>match e with|⟨b0,b1,b2,b3,b4,b5,b6,b7,b8,b9,b10,b11,b12,b13,b14,b15⟩=>⟨b0,b1,b2,b3,b4,b5,l.s b6 x,b7,b8,b9,b10,b11,b12,b13,b14,b15⟩⟩
 | 7=>⟨fun e=>l.g e.b7,fun e x=>match e with|⟨b0,b1,b2,b3,b4,b5,b6,b7,b8,b9,b10,b11,b12,b13,b14,b15⟩=>⟨b0,b1,b2,b3,b4,b5,b6,l.s b7 x,b8,b9,b10,b11,b12,b13,b14,b15⟩⟩
 | 8=>⟨fun e=>l.g e.b8,fun e x=>match e with|⟨b0,b1,b2,b3,b4,b5,b6,b7,b8,b9,b10,b11,b12,b13,b14,b15⟩=>⟨b0,b1,b2,b3,b4,b5,b6,b7,l.s b8 x,b9,b10,b11,b12,b13,b14,b15⟩⟩
 | 9=>⟨fun e=>l.g e.b9,fun e x=>match e with|⟨b0,b1,b2,b3,b4,b5,b6,b7,b8,b9,b10,b11,b12,b13,b14,b15⟩=>⟨b0,b1,b2,b3,b4,b5,b6,b7,b8,l.s b9 x,b10,b11,b12,b13,b14,b15⟩⟩
 | 10=>⟨fun e=>l.g e.b10,fun e x=>match e with|⟨b0,b1,b2,b3,b4,b5,b6,b7,b8,b9,b10,b11,b12,b13,b14,b15⟩=>⟨b0,b1,b2,b3,b4,b5,b6,b7,b8,b9,l.s b10 x,b11,b12,b13,b14,b15⟩⟩
 | 11=>⟨fun e=>l.g e.b11,fun e x=>match e with|⟨b0,b1,b2,b3,b4,b5,b6,b7,b8,b9,b10,b11,b12,b13,b14,b15⟩=>⟨b0,b1,b2,b3,b4,b5,b6,b7,b8,b9,b10,l.s b11 x,b12,b13,b14,b15⟩⟩
 | 12=>⟨fun e=>l.g e.b12,fun e x=>match e with|⟨b0,b1,b2,b3,b4,b5,b6,b7,b8,b9,b10,b11,b12,b13,b14,b15⟩=>⟨b0,b1,b2,b3,b4,b5,b6,b7,b8,b9,b10,b11,l.s b12 x,b13,b14,b15⟩⟩
 | 13=>⟨fun e=>l.g e.b13,fun e x=>match e with|⟨b0,b1,b2,b3,b4,b5,b6,b7,b8,b9,b10,b11,b12,b13,b14,b15⟩=>⟨b0,b1,b2,b3,b4,b5,b6,b7,b8,b9,b10,b11,b12,l.s b13 x,b14,b15⟩⟩
 | 14=>⟨fun e=>l.g e.b14,fun e x=>match e with|⟨b0,b1,b2,b3,b4,b5,b6,b7,b8,b9,b10,b11,b12,b13,b14,b15⟩=>⟨b0,b1,b2,b3,b4,b5,b6,b7,b8,b9,b10,b11,b12,b13,l.s b14 x,b15⟩⟩
 | 15=>⟨fun e=>l.g e.b15,fun e x=>match e with|⟨b0,b1,b2,b3,b4,b5,b6,b7,b8,b9,b10,b11,b12,b13,b14,b15⟩=>⟨b0,b1,b2,b3,b4,b5,b6,b7,b8,b9,b10,b11,b12,b13,b14,l.s b15 x⟩⟩
 | _=>⟨fun _=>none,fun e _=>e⟩
def te (s:Nat):adn:=Lo (Nat.div s 16) (K4 (Nat.mod s 16))
theorem M1 {i:Nat}(h:i<16):i=0∨i=1∨i=2∨i=3∨i=4∨i=5∨i=6∨i=7∨i=8∨i=9∨i=10∨i=11∨i=12∨i=13∨i=14∨i=15:=by omega
theorem Rj {i:Nat}(h:i<16) (v:V16) (x:AV):(K4 i).g ((K4 i).s v x)=some x:=by
 rcases M1 h with rfl|rfl|rfl|rfl|rfl|rfl|rfl|rfl|rfl|rfl|rfl|rfl|rfl|rfl|rfl|rfl<;>rfl
theorem QV {i j:Nat}(h:i<16) (hj:j<16) (e:i≠j) (v:V16) (x:AV):(K4 i).g ((K4 j).s v x)=(K4 i).g v:=by
 rcases M1 h with rfl|rfl|rfl|rfl|rfl|rfl|rfl|rfl|rfl|rfl|rfl|rfl|rfl|rfl|rfl|rfl<;>rcases M1 hj with rfl|rfl|rfl|rfl|rfl|rfl|rfl|rfl|rfl|rfl|rfl|rfl|rfl|rfl|rfl|rfl<;>first|exact absurd rfl e|rfl
def Wd (j:Nat) (e:E16):V16:=match j with
 | 0=>e.b0
 | 1=>e.b1
 | 2=>e.b2
 | 3=>e.b3
 | 4=>e.b4
 | 5=>e.b5
 | 6=>e.b6
 | 7=>e.b7
 | 8=>e.b8
 | 9=>e.b9
 | 10=>e.b10
 | 11=>e.b11
 | 12=>e.b12
 | 13=>e.b13
 | 14=>e.b14
 | 15=>e.b15
 | _=>v0
theorem Ua {j:Nat}(h:j<16) (l:Kv) (e:E16):(Lo j l).g e=l.g (Wd j e):=by
 rcases M1 h with rfl|rfl|rfl|rfl|rfl|rfl|rfl|rfl|rfl|rfl|rfl|rfl|rfl|rfl|rfl|rfl<;>rfl
theorem Wo {j:Nat}(h:j<16) (m:Kv) (e:E16) (x:AV):Wd j ((Lo j m).s e x)=m.s (Wd j e) x:=by
 rcases M1 h with rfl|rfl|rfl|rfl|rfl|rfl|rfl|rfl|rfl|rfl|rfl|rfl|rfl|rfl|rfl|rfl<;>rfl
theorem S9 {j k:Nat}(h:j<16) (hk:k<16) (ne:j≠k) (m:Kv) (e:E16) (x:AV):Wd j ((Lo k m).s e x)=Wd j e:=by
 rcases M1 h with rfl|rfl|rfl|rfl|rfl|rfl|rfl|rfl|rfl|rfl|rfl|rfl|rfl|rfl|rfl|rfl<;>rcases M1 hk with rfl|rfl|rfl|rfl|rfl|rfl|rfl|rfl|rfl|rfl|rfl|rfl|rfl|rfl|rfl|rfl<;>first|exact absurd rfl ne|rfl
theorem Dl {j:Nat}(h:¬ j<16) (l:Kv):Lo j l=⟨fun _=>none,fun e _=>e⟩:=by
 unfold Lo
 split<;>first|(exfalso;omega)|rfl
theorem Yq {k d:Nat}{e:E16}{x v:AV}(h:(te k).g ((te d).s e x)=some v):(k=d∧v=x)∨(k≠d∧(te k).g e=some v):=by
 unfold te at *
 have hk:Nat.mod k 16<16:=Nat.mod_lt _ (by omega)
 have hd:Nat.mod d 16<16:=Nat.mod_lt _ (by omega)
 by_cases hK:Nat.div k 16<16
 ·by_cases hD:Nat.div d 16<16
  ·rw[Ua hK]at h ⊢
   by_cases e1:Nat.div k 16=Nat.div d 16
   ·rw[e1]at h ⊢
    rw[Wo hD]at h
    by_cases e2:Nat.mod k 16=Nat.mod d 16
    ·rw[e2,Rj hd]at h
     cases h
     refine .inl ⟨?_,rfl⟩
     have a1:k / 16=d / 16:=e1
     have a2:k%16=d%16:=e2
     omega
    ·rw[QV hk hd e2]at h
     exact .inr ⟨fun e=>e2 (by rw[e]),h⟩
   ·rw[S9 hK hD e1]at h
    exact .inr ⟨fun e=>e1 (by rw[e]),h⟩
  ·rw[Dl hD]at h
   exact .inr ⟨fun e=>hD (by rw[← e];exact hK),h⟩
 ·rw[Dl hK]at h
  cases h
theorem abc (k:Nat):(te k).g ee0=none:=by
 unfold te
 have hk:Nat.mod k 16<16:=Nat.mod_lt _ (by omega)
 by_cases hK:Nat.div k 16<16
 ·rw[Ua hK]
  have:Wd (Nat.div k 16) ee0=v0:=by rcases M1 hK with h|h|h|h|h|h|h|h|h|h|h|h|h|h|h|h<;>rw[h]<;>rfl
  rw[this]
  rcases M1 hk with h|h|h|h|h|h|h|h|h|h|h|h|h|h|h|h<;>rw[h]<;>rfl
 ·rw[Dl hK]
end
section
abbrev ET:=E16
abbrev m4:=FuncId→List AV→HT→Nat→(AV→HT→Nat→Bool)→Bool
structure ClX where
 f:ET→(AV→Bool)→Bool
structure ClL where
 f:ET→(List AV→Bool)→Bool
structure ClP where
 f:ET→(Option AV→Bool)→Bool
structure ClO where
 f:m4→ET→HT→Nat→(AV→HT→Nat→Bool)→Bool
def oM (o:Option AV) (K:AV→Bool):Bool:=match o with|some v=>K v|none=>false
def fC (x:Operand):ClX:=match x with
 | .tmp s=>⟨fun e K=>oM ((te s).g e) K⟩
 | .const v=>match okV v with
   | true=>⟨fun _ K=>K (ofV v)⟩
   | false=>⟨fun _ _=>false⟩
 | .global _=>⟨fun _ _=>false⟩
 | .func f=>⟨fun _ K=>K (.fn (.func f) [] [])⟩
def sR (l:List Operand):ClL:=match l with
 | []=>⟨fun _ K=>K []⟩
 | x::xs=>⟨fun e K=>(fC x).f e fun v=>(sR xs).f e fun vs=>K (v::vs)⟩
def wS (x:Option Operand):ClP:=match x with
 | none=>⟨fun _ K=>K none⟩
 | some x=>⟨fun e K=>(fC x).f e fun v=>K (some v)⟩
def noO:ClO:=⟨fun _ _ _ _ _=>false⟩
def q1 (x:Operand) (g:AV→(AV→Bool)→Bool):ClO:=⟨fun _ e t n K=>(fC x).f e fun v=>g v fun r=>K r t n⟩
def q1t (x:Operand) (g:AV→HT→(AV→Bool)→Bool):ClO:=⟨fun _ e t n K=>(fC x).f e fun v=>g v t fun r=>K r t n⟩
def q2 (x y:Operand) (g:AV→AV→(AV→Bool)→Bool):ClO:=⟨fun _ e t n K=>(fC x).f e fun v=>(fC y).f e fun u=>g v u fun r=>K r t n⟩
def q2t (x y:Operand) (g:AV→AV→HT→(AV→Bool)→Bool):ClO:=⟨fun _ e t n K=>(fC x).f e fun v=>(fC y).f e fun u=>g v u t fun r=>K r t n⟩
def e1 (x:Operand) (g:AV→HT→Nat→(AV→HT→Nat→Bool)→Bool):ClO:=⟨fun _ e t n K=>(fC x).f e fun v=>g v t n K⟩
def e2 (x y:Operand) (g:AV→AV→HT→Nat→(AV→HT→Nat→Bool)→Bool):ClO:=⟨fun _ e t n K=>(fC x).f e fun v=>(fC y).f e fun u=>g v u t n K⟩
def s2 (x y:Operand) (g:AV→AV→HT→Nat→(HT→Nat→Bool)→Bool):ClO:=⟨fun _ e t n K=>(fC x).f e fun v=>(fC y).f e fun u=>g v u t n fun t n=>K (.tup []) t n⟩
def s3 (x y z:Operand) (g:AV→AV→AV→HT→Nat→(HT→Nat→Bool)→Bool):ClO:=⟨fun _ e t n K=>(fC x).f e fun v=>(fC y).f e fun u=>(fC z).f e fun w=>g v u w t n fun t n=>K (.tup []) t n⟩
def abL (c a b:AV) (K:AV→Bool):Bool:=match c with|.lit (.bool true)=>K a|.lit (.bool false)=>K b|_=>false
def SY (P:Program) (t:TypeId) (is:List Nat) (xs:List Operand):ClO:=
 match P.underlying t,P.info? t with
 | some (.struct fs),some i=>(match i.zero,jA P fs.toList with
   | some z,some l=>(match okV z with
     | true=>⟨fun _ e t n K=>(sR xs).f e fun vs=>match AX (fun j=>l[j]?) (is.zip vs) with|some qs=>Rx (ofV z).cells qs fun r=>K r t n|none=>false⟩
     | false=>noO)
   | _,_=>noO)
 | _,_=>noO
def yf (P:Program) (t:TypeId) (m:Nat) (is:List Nat) (xs:List Operand):ClO:=
 match P.underlying t with
 | some (.slice e)=>(match P.info? e with
   | some i=>(match i.zero with
     | some _=>(match is==List.range m&&decide (m*i.size≤16777216) with
       | true=>⟨fun _ e t n K=>(sR xs).f e fun vs=>xe m i.size vs fun r=>K r t n⟩
       | false=>noO)
     | none=>noO)
   | none=>noO)
 | _=>noO
def abQ (P:Program) (t:TypeId) (x:Operand):ClO:=
 match P.underlying t,P.info? t with
 | some d,some i=>(match mn d with|true=>q1t x (IA i.size)|false=>q1t x Gn)
 | _,_=>noO
def adb (P:Program) (op:BinOp) (t:TypeId) (x y:Operand):ClO:=
 match P.underlying t with
 | some .bool=>q2 x y (XX op)
 | some (.pointer _)=>q2 x y (Z5 op)
 | some (.int _)=>q2 x y (Zz op)
 | some .string=>q2 x y (Zz op)
 | some (.float _)=>q2 x y (Zz op)
 | _=>noO
def abE (P:Program) (s d:TypeId) (x:Operand):ClO:=
 match P.underlying s,P.underlying d with
 | some (.int _),some (.int k)=>q1 x (MO k)
 | some (.int _),some (.float k)=>q1 x (LZ k)
 | some .string,some .string=>q1 x MB
 | _,_=>noO
def Yx (P:Program) (t:TypeId) (x:Operand) (lo hi mx:Option Operand):ClO:=
 match P.underlying t,mx with
 | some .string,none=>⟨fun _ e t n K=>(fC x).f e fun v=>(wS lo).f e fun l=>(wS hi).f e fun u=>Nw v l u fun r=>K r t n⟩
 | some (.slice el),none=>(match P.info? el with|some i=>⟨fun _ e t n K=>(fC x).f e fun v=>(wS lo).f e fun l=>(wS hi).f e fun u=>MJ i.size v l u fun r=>K r t n⟩|none=>noO)
 | some (.slice el),some m=>⟨fun _ e t n K=>(fC x).f e fun v=>(wS lo).f e fun l=>(wS hi).f e fun u=>(fC m).f e fun mv=>(match P.info? el,l,u,mv with|some _,none,some (.lit (.int _ 0)),.lit (.int _ 0)=>M2 v fun r=>K r t n|_,_,_,_=>false)⟩
 | _,_=>noO
def GX (P:Program) (t:TypeId) (x:Operand) (f:Nat):ClO:=
 match P.underlying t with
 | some (.struct fs)=>(match fs[f]? with
   | some fd=>(match P.info? fd.type with|some i=>(match i.size with|0=>noO|_+1=>q1 x (Au fd.offset))|none=>noO)
   | none=>noO)
 | _=>noO
def abP (P:Program) (t:TypeId) (off:Nat) (x:Operand):ClO:=
 match P.underlying t,P.info? t with
 | some d,some i=>(match mn d with|true=>q1 x (SF off i.size)|false=>q1 x (Tj off))
 | _,_=>noO
def Zu (P:Program) (t:TypeId) (x:Operand) (f:Nat):ClO:=
 match P.underlying t with
 | some (.struct fs)=>(match fs[f]? with|some fd=>abP P fd.type fd.offset x|none=>noO)
 | _=>noO
def Hs (P:Program) (t:TypeId) (x i:Operand):ClO:=
 match P.underlying t with
 | some (.slice e)=>(match P.info? e with|some ei=>q2 x i (AP ei.size)|none=>noO)
 | some (.array m e)=>(match P.info? e with|some ei=>q2 x i (rx m ei.size)|none=>noO)
 | _=>noO
def Zx (P:Program) (t:TypeId) (x i:Operand):ClO:=
 match P.underlying t with
 | some .string=>q2 x i ML
 | _=>noO
def ac5 (P:Program) (t:TypeId) (x:Operand):ClO:=
 match P.underlying t with
 | some .string=>q1 x Z6
 | some (.slice _)=>q1 x YI
 | some (.map _ _)=>q1t x W8
 | _=>noO
def Ud (P:Program) (t t2:TypeId) (x y:Operand):ClO:=
 match P.underlying t,P.underlying t2 with
 | some (.slice e),some d2=>(match P.info? e with
   | some i=>(match XK i d2 with|true=>e2 x y (L8 i.size i.bytes)|false=>noO)
   | none=>noO)
 | _,_=>noO
def acW (P:Program) (t:TypeId):ClO:=
 match P.info? t with
 | some i=>(match i.zero with|some z=>(match okV z with|true=>⟨fun _ _ t n K=>aag (ofV z).cells t n K⟩|false=>noO)|none=>noO)
 | none=>noO
def YE (P:Program) (t:TypeId) (x u:Operand):ClO:=
 match P.info? t with
 | some i=>s2 x u (SI i.size)
 | none=>noO
def ZQ (P:Program) (t:TypeId) (x:Operand):ClO:=
 match P.underlying t with
 | some (.interface _)=>noO
 | some _=>q1 x (RX t)
 | none=>noO
def abW (c:m4) (v:AV) (vs:List AV) (t:HT) (n:Nat) (K:AV→HT→Nat→Bool):Bool:=
 match v with
 | .fn (.func f) fi ca=>c f (fi++vs++ca) t n K
 | _=>false
def XT (P:Program) (c:Call):ClO:=match c.callee with
 | .value f=>⟨fun call e t n K=>(sR c.args.toList).f e fun vs=>(fC f).f e fun v=>abW call v vs t n K⟩
 | .builtin .len=>(match c.args.toList,c.argTypes.toList with|[x],[t]=>ac5 P t x|_,_=>noO)
 | .builtin .append=>(match c.args.toList,c.argTypes.toList with|[x,y],[t,t2]=>Ud P t t2 x y|_,_=>noO)
 | .builtin .max=>(match c.args.toList with|[x,y]=>q2 x y acC|_=>noO)
 | .builtin .min=>(match c.args.toList with|[x,y]=>q2 x y ack|_=>noO)
 | _=>noO
def ZS (P:Program) (op:Op):ClO:=match op with
 | .move x=>⟨fun _ e t n K=>(fC x).f e fun v=>K v t n⟩
 | .assign x=>⟨fun _ e t n K=>(fC x).f e fun v=>K v t n⟩
 | .pick c a b=>⟨fun _ e t n K=>(fC c).f e fun cv=>(fC a).f e fun av=>(fC b).f e fun bv=>abL cv av bv fun r=>K r t n⟩
 | .alloc e=>acW P e
 | .box _ x=>e1 x acx
 | .build t ps=>SY P t (ps.toList.map (·.1)) (ps.toList.map (·.2))
 | .buildSlice t m ps=>yf P t m (ps.toList.map (·.1)) (ps.toList.map (·.2))
 | .load t x=>abQ P t x
 | .store t x u=>YE P t x u
 | .nilCheck x=>q1 x aca
 | .binOp op t x y _=>adb P op t x y
 | .unOp op _ x=>q1 x (tUn op)
 | .convert s d x=>abE P s d x
 | .makeInterface t x=>ZQ P t x
 | .makeFunc f fi ca=>⟨fun _ e t n K=>(sR fi.toList).f e fun vs=>(sR ca.toList).f e fun ws=>K (.fn f vs ws) t n⟩
 | .slice t x lo hi mx=>Yx P t x lo hi mx
 | .fieldAddr t x f=>GX P t x f
 | .field t x f=>Zu P t x f
 | .indexAddr t x i=>Hs P t x i
 | .index t x i=>Zx P t x i
 | .extract x i=>q1 x (Ir i)
 | .call c=>XT P c
 | _=>noO
def Un (P:Program) (t:TypeId) (g:TypeDesc→Value→ClO):ClO:=
 match P.underlying t with
 | some (.map kt et)=>(match P.underlying kt,P.info? et with
   | some d,some i=>(match i.zero with|some z=>(match okV z with|true=>g d z|false=>noO)|none=>noO)
   | _,_=>noO)
 | _=>noO
def PK (P:Program) (t:TypeId) (g:TypeDesc→ClO):ClO:=
 match P.underlying t with
 | some (.map kt _)=>(match P.underlying kt with|some d=>g d|none=>noO)
 | _=>noO
def TN (P:Program) (op:BinOp) (t:TypeId) (x y:Operand):ClO:=
 match P.underlying t,y with
 | some (.slice _),.const (.slice none 0 0)=>q1 x (Nr op)
 | some (.map _ _),.const (.map none)=>q1 x (ND op)
 | some (.interface _),.const .nilIface=>q1 x (NI op)
 | some (.func _ _ _),.const .nilFunc=>q1 x (NL op)
 | _,_=>noO
def X2 (P:Program) (op:Op):ClO:=match op with
 | .makeMap _ none=>⟨fun _ _ t n K=>G6 t n K⟩
 | .lookup t x i ok=>Un P t fun d z=>q2t x i (LD d ok (ofV z))
 | .mapUpdate t m k v=>PK P t fun d=>s3 m k v (vh d)
 | .insert t m k v=>PK P t fun d=>s3 m k v (vh d)
 | .mapEntry t m k=>Un P t fun d z=>e2 m k (DR d (ofV z))
 | .entryStore t m s v=>s3 m s v xL
 | .range t x=>(match P.underlying t with
   | some .string=>e1 x L5
   | some (.map _ _)=>e1 x LG
   | _=>noO)
 | .next x b=>(match b with|true=>e1 x RQ|false=>e1 x Sd)
 | .entry x=>q1t x Sb
 | .makeSlice t l c=>(match P.underlying t with
   | some (.slice e)=>(match P.info? e with
     | some i=>(match i.zero with|some z=>(match i.size==1&&z.oneCell' with|true=>e2 l c (AZ i.bytes (IQ z))|false=>noO)|none=>noO)
     | none=>noO)
   | _=>noO)
 | .convert s d x=>(match P.underlying s,P.underlying d with
   | some (.slice e),some .string=>(match yS P e with|true=>q1t x Ee|false=>noO)
   | some .string,some (.slice e)=>(match yS P e with|true=>e1 x DJ|false=>noO)
   | _,_=>noO)
 | .binOp op t x y _=>(match P.underlying t with
   | some (.struct fs)=>(match yA P fs.toList 0 with
     | some ds=>(match !P.stoodInHeld t&&!P.eqGuardType P.depth t with|true=>q2 x y (act op ds)|false=>noO)
     | none=>noO)
   | _=>TN P op t x y)
 | .call c=>(match c.callee with
   | .builtin .delete=>(match c.args.toList,c.argTypes.toList with
     | [m,k],t::_=>PK P t fun d=>s2 m k (L4 d)
     | _,_=>noO)
   | _=>noO)
 | _=>noO
def Xr (P:Program) (op:Op):ClO:=match EZ P op with
 | true=>X2 P op
 | false=>ZS P op
def Wf:List UInt8→UInt8→Nat→Int
 | [],_,_=>.negSucc 0
 | b::l,c,i=>@Bool.casesOn (fun _=>Int) (uEq b c) (Wf l c (Nat.succ i)) (.ofNat i)
def VP:List UInt8→UInt8→Nat→Nat
 | [],_,n=>n
 | b::l,c,n=>VP l c (@Bool.casesOn (fun _=>Nat) (uEq b c) n (Nat.succ n))
def ab4 (e:Ext) (vs:List AV) (K:AV→Bool):Bool:=
 match e,vs with
 | .index,[.lit (.string s),.lit (.int .u8 c)]=>fI (Wf s.data.toList c.toNat.toUInt8 0) fun r=>K (I r)
 | .count,[.lit (.string s),.lit (.int .u8 c)]=>fN (VP s.data.toList c.toNat.toUInt8 0) fun r=>K (I (.ofNat r))
 | .bits,[.lit (.float .f64 b)]=>K (.lit (.int .u64 (.ofNat b)))
 | .frombits,[.lit (.int .u64 n)]=>fN n.toNat fun m=>K (.lit (.float .f64 m))
 | _,_=>false
def abf (m n:Nat):Nat:=@Bool.casesOn (fun _=>Nat) (Nat.ble m n) n m
def Z1 (size:Nat) (v x:AV) (t:HT) (n:Nat) (K:AV→HT→Nat→Bool):Bool:=
 match Gx t size x with
 | none=>false
 | some (m,xs)=>match v with
   | .sl i off len sz=>(match t.get i with
     | some (.cells cs)=>decide (sz=size∧off+len*size≤cs.length∧xs.all AV.one=true)&&fN (abf m len) fun l=>K (I (.ofNat l)) (t.set (.cells (splice cs off (xs.take (l*size)))) i) n
     | _=>false)
   | .full n0 _=>bA (Nat.beq (abf m n0) 0) (K (I 0) t n)
   | .snap n0 _=>bA (Nat.beq (abf m n0) 0) (K (I 0) t n)
   | _=>false
def Sc (size:Nat) (u v:AV) (t:HT) (n:Nat) (K:HT→Nat→Bool):Bool:=
 match v with
 | .sl i off len sz=>(match t.get i with
   | some (.cells cs)=>decide (u.isTup=false∧u.cells.length=size∧sz=size∧off+len*size≤cs.length∧u.cells.all AV.one=true)&&K (t.set (.cells (splice cs off (List.replicate len u.cells).flatten)) i) n
   | _=>false)
 | .full 0 _=>K t n
 | .snap 0 _=>K t n
 | _=>false
def Tx (P:Program) (ts:Array TypeId) (K:Value→TypeInfo→ClO):ClO:=
 match ts.toList with
 | t::_=>(match P.underlying t with
   | some (.slice e)=>(match P.info? e with
     | some i=>(match i.zero with|some z=>(match okV z with|true=>K z i|false=>noO)|none=>noO)
     | none=>noO)
   | _=>noO)
 | _=>noO
abbrev ro:=Nat→Option (List AV)
def Y1 (P:Program) (t:TypeId) (cs:List AV):ClO:=
 match P.underlying t,P.info? t with
 | some d,some i=>(match mn d with|true=>⟨fun _ _ t n K=>IA i.size (.cptr cs) t fun r=>K r t n⟩|false=>⟨fun _ _ t n K=>Gn (.cptr cs) t fun r=>K r t n⟩)
 | _,_=>noO
def SZ (P:Program) (tb:ro) (op:Op):ClO:=match op with
 | .call c=>(match c.callee with
   | .value (.func f)=>(match QH P f with
     | some x=>⟨fun _ e t n K=>(sR c.args.toList).f e fun vs=>ab4 x vs fun r=>K r t n⟩
     | none=>noO)
   | .builtin .copy=>Tx P c.argTypes fun _ i=>(match c.args.toList with|[x,y]=>e2 x y (Z1 i.size)|_=>noO)
   | .builtin .clear=>Tx P c.argTypes fun z i=>(match c.args.toList with|[x]=>⟨fun _ e t n K=>(fC x).f e fun v=>Sc i.size (ofV z) v t n fun t n=>K (.tup []) t n⟩|_=>noO)
   | _=>noO)
 | .indexAddr t (.global g) i=>(match tb g with
   | some cs=>(match P.underlying t with
     | some (.array m e)=>(match P.info? e with|some ei=>q1 i fun iv=>rx m ei.size (.cptr cs) iv|none=>noO)
     | _=>noO)
   | none=>noO)
 | .load t (.global g)=>(match tb g with
   | some cs=>Y1 P t cs
   | none=>noO)
 | _=>noO
def EH (P:Program) (tb:ro) (op:Op):ClO:=match isX P op with
 | true=>SZ P tb op
 | false=>Xr P op
def ER (e:ET) (env:Env):Prop:=∀ k v,(te k).g e=some v→AL.get env k=some v
theorem ER.put {e:ET}{env:Env}(r:ER e env) (d:Nat) (v:AV):ER ((te d).s e v) ((d,v)::env):=fun k u h=>by
 simp only[AL.get]
 rcases Yq h with ⟨rfl,rfl⟩|⟨hn,h⟩
 ·rw[if_pos rfl]
 ·rw[if_neg (Ne.symm hn)];exact r k u h
theorem bx {e:ET}{env:Env}(r:ER e env) {x:Operand}{K:AV→Bool}(k:(fC x).f e K=true):∃ v,opv env x=some v∧K v=true:=by
 cases x with
 | tmp s=>
   simp only[fC,oM]at k
   split at k
   ·rename_i v hv;exact⟨v,by rw[opv];exact r s v hv,k⟩
   ·cases k
 | const v=>
   simp only[fC]at k
   cases h:okV v
   ·rw[h]at k;cases k
   ·rw[h]at k;exact⟨_,by simp[opv,h],k⟩
 | global g=>cases k
 | func f=>exact⟨_,rfl,k⟩
theorem lY {e:ET}{env:Env}(r:ER e env):∀ {xs:List Operand}{K:List AV→Bool},(sR xs).f e K=true→∃ vs,kZ env xs=some vs∧K vs=true
 | [],K,k=>⟨[],rfl,k⟩
 | x::xs,K,k=>by
   simp only[sR]at k
   obtain⟨v,h1,k⟩:=bx r k
   obtain⟨vs,h2,k⟩:=lY r k
   exact⟨_,by simp[kZ,h1,h2],k⟩
theorem qB {e:ET}{env:Env}(r:ER e env) {x:Option Operand}{K:Option AV→Bool}(k:(wS x).f e K=true):∃ v,FI env x=some v∧K v=true:=by
 cases x with
 | none=>exact⟨none,rfl,k⟩
 | some x=>
   simp only[wS]at k
   obtain⟨v,h1,k⟩:=bx r k
   exact⟨some v,by simp[FI,h1],k⟩
end
section
variable [Tabs]
section
variable {P:Program}{e:ET}{env:Env}{t:HT}{n:Nat}{h:ae}{K:AV→HT→Nat→Bool}{call:m4}
def kY (P:Program) (call:m4):Prop:=∀ (f:FuncId) (args:List AV) (t:HT) (n:Nat) (h:ae) (K:AV→HT→Nat→Bool),HR t n h→call f args t n K=true→ACall P f args h (KH K)
theorem kh {r:AV}(hr:HR t n h) (k:K r t n=true):KH K r h:=⟨t,n,hr,k⟩
theorem oG (er:ER e env) (hr:HR t n h) {x:Operand}{g:AV→(AV→Bool)→Bool}{p:AV→(AV→Prop)→Prop}(hg:∀ v K,g v K=true→p v fun r=>K r=true) (hm:∀ v K K',(∀ r,K r→K' r)→p v K→p v K')
  (k:(q1 x g).f call e t n K=true):bV (opv env x) fun v=>p v fun r=>KH K r h:=by
 obtain⟨v,h1,k⟩:=bx er k
 rw[h1]
 exact hm _ _ _ (fun r k=>kh hr k) (hg _ _ k)
theorem G4 (er:ER e env) (hr:HR t n h) {x:Operand}{g:AV→HT→(AV→Bool)→Bool}{p:AV→ae→(AV→Prop)→Prop}(hg:∀ v K,g v t K=true→p v h fun r=>K r=true) (hm:∀ v K K',(∀ r,K r→K' r)→p v h K→p v h K')
  (k:(q1t x g).f call e t n K=true):bV (opv env x) fun v=>p v h fun r=>KH K r h:=by
 obtain⟨v,h1,k⟩:=bx er k
 rw[h1]
 exact hm _ _ _ (fun r k=>kh hr k) (hg _ _ k)
theorem yp (er:ER e env) (hr:HR t n h) {x y:Operand}{g:AV→AV→(AV→Bool)→Bool}{p:AV→AV→(AV→Prop)→Prop}(hg:∀ v u K,g v u K=true→p v u fun r=>K r=true) (hm:∀ v u K K',(∀ r,K r→K' r)→p v u K→p v u K')
  (k:(q2 x y g).f call e t n K=true):eG (opv env x) (opv env y) fun v u=>p v u fun r=>KH K r h:=by
 obtain⟨v,h1,k⟩:=bx er k
 obtain⟨u,h2,k⟩:=bx er k
 rw[h1,h2]
 exact hm _ _ _ _ (fun r k=>kh hr k) (hg _ _ _ k)
theorem ab5 (er:ER e env) (hr:HR t n h) {x y:Operand}{g:AV→AV→HT→(AV→Bool)→Bool}{p:AV→AV→ae→(AV→Prop)→Prop}(hg:∀ v u K,g v u t K=true→p v u h fun r=>K r=true) (hm:∀ v u K K',(∀ r,K r→K' r)→p v u h K→p v u h K')
  (k:(q2t x y g).f call e t n K=true):eG (opv env x) (opv env y) fun v u=>p v u h fun r=>KH K r h:=by
 obtain⟨v,h1,k⟩:=bx er k
 obtain⟨u,h2,k⟩:=bx er k
 rw[h1,h2]
 exact hm _ _ _ _ (fun r k=>kh hr k) (hg _ _ _ k)
theorem JN (er:ER e env) (hr:HR t n h) {x:Operand}{g:AV→HT→Nat→(AV→HT→Nat→Bool)→Bool}{p:AV→ae→(QT)→Prop}(hg:∀ v K,g v t n K=true→p v h (KH K))
  (k:(e1 x g).f call e t n K=true):bV (opv env x) fun v=>p v h (KH K):=by
 obtain⟨v,h1,k⟩:=bx er k
 rw[h1]
 exact hg _ _ k
theorem Zj (er:ER e env) (hr:HR t n h) {x y:Operand}{g:AV→AV→HT→Nat→(AV→HT→Nat→Bool)→Bool}{p:AV→AV→ae→(QT)→Prop}(hg:∀ v u K,g v u t n K=true→p v u h (KH K))
  (k:(e2 x y g).f call e t n K=true):eG (opv env x) (opv env y) fun v u=>p v u h (KH K):=by
 obtain⟨v,h1,k⟩:=bx er k
 obtain⟨u,h2,k⟩:=bx er k
 rw[h1,h2]
 exact hg _ _ _ k
theorem abF (er:ER e env) (hr:HR t n h) {x y:Operand}{g:AV→AV→HT→Nat→(HT→Nat→Bool)→Bool}{p:AV→AV→ae→(ae→Prop)→Prop}(hg:∀ v u K,g v u t n K=true→p v u h (KS K))
  (k:(s2 x y g).f call e t n K=true):eG (opv env x) (opv env y) fun v u=>p v u h fun h'=>KH K (.tup []) h':=by
 obtain⟨v,h1,k⟩:=bx er k
 obtain⟨u,h2,k⟩:=bx er k
 rw[h1,h2]
 exact hg _ _ _ k
theorem X8 (er:ER e env) (hr:HR t n h) {x y z:Operand}{g:AV→AV→AV→HT→Nat→(HT→Nat→Bool)→Bool}{p:AV→AV→AV→ae→(ae→Prop)→Prop}(hg:∀ v u w K,g v u w t n K=true→p v u w h (KS K))
  (k:(s3 x y z g).f call e t n K=true):eG (opv env x) (opv env y) fun v u=>bV (opv env z) fun w=>p v u w h fun h'=>KH K (.tup []) h':=by
 obtain⟨v,h1,k⟩:=bx er k
 obtain⟨u,h2,k⟩:=bx er k
 obtain⟨w,h3,k⟩:=bx er k
 rw[h1,h2,h3]
 exact hg _ _ _ _ k
omit [Tabs] in
theorem bk {X:Prop}(k:noO.f call e t n K=true):X:=by cases k
theorem cX {o:Option AV}{K K':AV→Prop}(hk:∀ v,K v→K' v) (k:bV o K):bV o K':=by
 unfold bV at *;split at k
 ·exact hk _ k
 ·exact k.elim
theorem Wm (er:ER e env) (hr:HR t n h) {ty:TypeId}{is:List Nat}{xs:List Operand}(k:(SY P ty is xs).f call e t n K=true):d7 (kZ env xs) fun vs=>xC P ty is vs fun r=>KH K r h:=by
 unfold SY at k
 split at k
 ·split at k
  ·split at k
   ·obtain⟨vs,h1,k⟩:=lY er k
    rw[h1]
    show xC P ty is vs _
    unfold xC
    simp only[*,if_true]
    split at k
    ·simp only[*]
     exact wZ (fun r k=>kh hr k) _ _ ⟨V8 _ _ k⟩
    ·cases k
   ·exact bk k
  ·exact bk k
 ·exact bk k
theorem HA (er:ER e env) (hr:HR t n h) {ty:TypeId}{m:Nat}{is:List Nat}{xs:List Operand}(k:(yf P ty m is xs).f call e t n K=true):d7 (kZ env xs) fun vs=>ij P ty m is vs fun r=>KH K r h:=by
 unfold yf at k
 split at k
 ·split at k
  ·split at k
   ·split at k
    ·rename_i hc
     obtain⟨vs,h1,k⟩:=lY er k
     rw[h1]
     show ij P ty m is vs _
     unfold ij
     simp only[*,if_true]
     exact nO (fun r k=>kh hr k) _ _ _ ⟨Hm _ _ _ k⟩
    ·exact bk k
   ·exact bk k
  ·exact bk k
 ·exact bk k
theorem Xb (hcall:kY P call) (er:ER e env) (hr:HR t n h) {c:Call}(k:(XT P c).f call e t n K=true):d7 (kZ env c.args.toList) fun vs=>(match c.callee with
  | .value f=>bV (opv env f) fun v=>uP P v vs h (KH K)
  | .builtin .len=>(match vs,c.argTypes.toList with|[v],[t]=>C3 P t v h fun r=>KH K r h|_,_=>False)
  | .builtin .append=>(match vs,c.argTypes.toList with|[v,u],[t,t2]=>Ce P t t2 v u h (KH K)|_,_=>False)
  | .builtin .max=>(match vs with|[v,u]=>Du v u fun r=>KH K r h|_=>False)
  | .builtin .min=>(match vs with|[v,u]=>Iv v u fun r=>KH K r h|_=>False)
  | _=>False):=by
 have two:∀ {x y:Operand} {F:AV→AV→Prop},(eG (opv env x) (opv env y) F)→∃ v u,kZ env [x,y]=some [v,u]∧F v u:=fun {x y F} k=>by
  obtain⟨v,h1,k⟩:=aH k
  obtain⟨u,h2,k⟩:=aH k
  exact⟨v,u,by simp[kZ,h1,h2],k⟩
 have one:∀ {x:Operand} {F:AV→Prop},(bV (opv env x) F)→∃ v,kZ env [x]=some [v]∧F v:=fun {x F} k=>by
  obtain⟨v,h1,k⟩:=aH k
  exact⟨v,by simp[kZ,h1],k⟩
 unfold XT at k
 split at k
 ·rename_i f hc
  obtain⟨vs,h1,k⟩:=lY er k
  obtain⟨v,h2,k⟩:=bx er k
  rw[h1]
  simp only[d7,hc,h2,bV]
  unfold abW at k
  unfold uP
  split at k
  ·exact hcall _ _ _ _ _ _ hr k
  ·cases k
 ·rename_i hc
  split at k
  ·rename_i x ty ha ht
   unfold ac5 at k
   split at k
   ·obtain⟨v,h1,k⟩:=one (oG er hr (p:=fun v K=>bF v K) (fun _ _ k=>⟨YQ k⟩) (fun _ _ _ hk k=>AU hk _ k) k)
    rw[ha,h1]
    simp only[d7,hc,C3, *]
   ·obtain⟨v,h1,k⟩:=one (oG er hr (p:=fun v K=>aV v K) (fun _ _ k=>⟨Xg _ k⟩) (fun _ _ _ hk k=>AI hk _ k) k)
    rw[ha,h1]
    simp only[d7,hc,C3, *]
   ·obtain⟨v,h1,k⟩:=one (G4 er hr (p:=fun v h K=>Co v h K) (fun _ _ k=>⟨Xq hr k⟩) (fun _ _ _ hk k=>AR hk _ _ k) k)
    rw[ha,h1]
    simp only[d7,hc,C3, *]
   ·exact bk k
  ·exact bk k
 ·rename_i hc
  split at k
  ·rename_i x y ty ty2 ha ht
   unfold Ud at k
   split at k
   ·split at k
    ·split at k
     ·rename_i hok
      obtain⟨v,u,h1,k⟩:=two (Zj er hr (p:=fun v u h K=>bh _ _ v u h K) (fun _ _ _ k=>⟨RV hr k⟩) k)
      rw[ha,h1]
      simp only[d7,hc,Ce, *,if_true]
     ·exact bk k
    ·exact bk k
   ·exact bk k
  ·exact bk k
 ·rename_i hc
  split at k
  ·rename_i x y ha
   obtain⟨v,u,h1,k⟩:=two (yp er hr (p:=fun v u K=>Du v u K) (fun _ _ _ k=>⟨aac _ _ k⟩) (fun _ _ _ _ hk k=>Dz hk _ _ k) k)
   rw[ha,h1]
   simp only[d7,hc, *]
  ·exact bk k
 ·rename_i hc
  split at k
  ·rename_i x y ha
   obtain⟨v,u,h1,k⟩:=two (yp er hr (p:=fun v u K=>Iv v u K) (fun _ _ _ k=>⟨abD _ _ k⟩) (fun _ _ _ _ hk k=>CY hk _ _ k) k)
   rw[ha,h1]
   simp only[d7,hc, *]
  ·exact bk k
 ·exact bk k
theorem Xk (hcall:kY P call) (er:ER e env) (hr:HR t n h) {o:Oper}(k:(ZS P o.op).f call e t n K=true):wR P env h o (KH K):=by
 obtain⟨dst,op,ty,pos,after,guard⟩:=o
 cases op<;>simp only[ZS]at k<;>simp only[wR]
 case move x=>obtain⟨v,h1,k⟩:=bx er k;rw[h1];exact kh hr k
 case assign x=>obtain⟨v,h1,k⟩:=bx er k;rw[h1];exact kh hr k
 case pick c a b=>
  obtain⟨v,h1,k⟩:=bx er k
  obtain⟨u,h2,k⟩:=bx er k
  obtain⟨w,h3,k⟩:=bx er k
  rw[h1,h2,h3]
  show ifB v (KH K u h) (KH K w h)
  unfold abL at k
  unfold ifB
  split at k
  ·exact kh hr k
  ·exact kh hr k
  ·cases k
 case alloc el=>
  unfold acW at k
  unfold aap
  split at k
  ·split at k
   ·split at k
    ·simp only[*,if_true];exact⟨T7 hr k⟩
    ·exact bk k
   ·exact bk k
  ·exact bk k
 case box el x=>exact JN er hr (p:=fun v h K=>ft v h K) (fun _ _ k=>⟨aaO hr k⟩) k
 case build=>exact Wm er hr k
 case buildSlice=>exact HA er hr k
 case load ty x=>
  unfold abQ at k
  split at k
  ·split at k
   ·refine cX (fun v k=>?_) (G4 er hr (p:=fun v h K=>ap _ v h K) (fun _ _ k=>⟨C7 hr k⟩) (fun _ _ _ hk k=>ik hk _ _ _ k) k)
    unfold lu;simp only[*,if_true]
   ·refine cX (fun v k=>?_) (G4 er hr (p:=fun v h K=>af v h K) (fun _ _ k=>⟨DP hr k⟩) (fun _ _ _ hk k=>ig hk _ _ k) k)
    unfold lu;simp only[*,Bool.false_eq_true,if_false]
  ·exact bk k
 case store ty x u=>
  unfold YE at k
  split at k
  ·refine cX (fun v k=>cX (fun y k=>?_) k) (abF er hr (p:=fun v u h K=>ak _ v u h K) (fun _ _ _ k=>⟨Vu hr k⟩) k)
   unfold LH;simp only[*]
  ·exact bk k
 case nilCheck x=>exact oG er hr (p:=fun v K=>aE v K) (fun _ _ k=>⟨aaQ _ k⟩) (fun _ _ _ hk k=>CT hk _ k) k
 case binOp op ty x y yt=>
  unfold adb at k
  unfold Qh
  split at k
  ·simp only[*];exact yp er hr (p:=fun v u K=>Kd op v u K) (fun _ _ _ k=>⟨Yn _ _ _ k⟩) (fun _ _ _ _ hk k=>Bb hk _ _ _ k) k
  ·simp only[*];exact yp er hr (p:=fun v u K=>Eo op v u K) (fun _ _ _ k=>⟨Xa _ _ _ k⟩) (fun _ _ _ _ hk k=>A8 hk _ _ _ k) k
  ·simp only[*];exact yp er hr (p:=fun v u K=>ai op v u K) (fun _ _ _ k=>⟨LC k⟩) (fun _ _ _ _ hk k=>tN hk _ _ _ k) k
  ·simp only[*];exact yp er hr (p:=fun v u K=>ai op v u K) (fun _ _ _ k=>⟨LC k⟩) (fun _ _ _ _ hk k=>tN hk _ _ _ k) k
  ·simp only[*];exact yp er hr (p:=fun v u K=>ai op v u K) (fun _ _ _ k=>⟨LC k⟩) (fun _ _ _ _ hk k=>tN hk _ _ _ k) k
  ·exact bk k
 case unOp op ty x=>exact oG er hr (p:=fun v K=>qUn op v K) (fun _ _ k=>⟨acy k⟩) (fun _ _ _ hk k=>G5 hk _ _ k) k
 case convert s d x=>
  unfold abE at k
  unfold EO
  split at k
  ·simp only[*];exact oG er hr (p:=fun v K=>cj _ v K) (fun _ _ k=>⟨SL k⟩) (fun _ _ _ hk k=>uL hk _ _ k) k
  ·simp only[*];exact oG er hr (p:=fun v K=>sb _ v K) (fun _ _ k=>⟨Sl k⟩) (fun _ _ _ hk k=>vK hk _ _ k) k
  ·simp only[*];exact oG er hr (p:=fun v K=>yK v K) (fun _ _ k=>⟨SX _ k⟩) (fun _ _ _ hk k=>vc hk _ k) k
  ·exact bk k
 case makeInterface ty x=>
  unfold ZQ at k
  split at k
  ·exact bk k
  ·rename_i hn ht
   refine cX (fun v k=>?_) (oG er hr (p:=fun v K=>wU ty v K) (fun _ _ k=>⟨WL _ _ k⟩) (fun _ _ _ hk k=>xT hk _ _ k) k)
   unfold D7
   split
   ·rename_i he;rw[ht]at he;cases he;exact (hn _ rfl).elim
   ·exact k
   ·rename_i he;rw[ht]at he;cases he
  ·exact bk k
 case makeFunc f fi ca=>
  obtain⟨vs,h1,k⟩:=lY er k
  obtain⟨ws,h2,k⟩:=lY er k
  rw[h1,h2];exact kh hr k
 case slice ty x lo hi mx=>
  unfold Yx at k
  split at k
  ·obtain⟨v,h1,k⟩:=bx er k
   obtain⟨l,h2,k⟩:=qB er k
   obtain⟨u,h3,k⟩:=qB er k
   rw[h1,h2,h3]
   show nS P ty v l u none _
   unfold nS;simp only[*]
   exact va (fun r k=>kh hr k) _ _ _ ⟨Sa k⟩
  ·split at k
   ·obtain⟨v,h1,k⟩:=bx er k
    obtain⟨l,h2,k⟩:=qB er k
    obtain⟨u,h3,k⟩:=qB er k
    rw[h1,h2,h3]
    show nS P ty v l u none _
    unfold nS;simp only[*]
    exact uH (fun r k=>kh hr k) _ _ _ _ ⟨Rv _ _ _ _ k⟩
   ·exact bk k
  ·obtain⟨v,h1,k⟩:=bx er k
   obtain⟨l,h2,k⟩:=qB er k
   obtain⟨u,h3,k⟩:=qB er k
   obtain⟨m,h4,k⟩:=bx er k
   rw[h1,h2,h3]
   simp only[FI,h4]
   show nS P ty v l u (some m) _
   split at k
   ·unfold nS;simp only[*]
    exact uS (fun r k=>kh hr k) _ ⟨S4 _ k⟩
   ·cases k
  ·exact bk k
 case fieldAddr ty x f=>
  unfold GX at k
  split at k
  ·split at k
   ·split at k
    ·split at k
     ·exact bk k
     ·rename_i hz
      refine cX (fun v k=>?_) (oG er hr (p:=fun v K=>ab _ v K) (fun _ _ k=>⟨JJ k⟩) (fun _ _ _ hk k=>pj hk _ _ k) k)
      unfold nH
      simp only[*]
      rw[if_neg (by simp)]
      trivial
    ·exact bk k
   ·exact bk k
  ·exact bk k
 case field ty x f=>
  unfold Zu abP at k
  split at k
  ·split at k
   ·split at k
    ·split at k
     ·refine cX (fun v k=>?_) (oG er hr (p:=fun v K=>Dp _ _ v K) (fun _ _ k=>⟨Vl _ _ _ k⟩) (fun _ _ _ hk k=>xq hk _ _ _ k) k)
      unfold yi Es;simp only[*,if_true]
     ·refine cX (fun v k=>?_) (oG er hr (p:=fun v K=>CU _ v K) (fun _ _ k=>⟨V7 _ _ k⟩) (fun _ _ _ hk k=>yE hk _ _ k) k)
      unfold yi Es;simp only[*,Bool.false_eq_true,if_false]
    ·exact bk k
   ·exact bk k
  ·exact bk k
 case indexAddr ty x i=>
  unfold Hs at k
  unfold eI
  split at k
  ·split at k
   ·simp only[*];exact yp er hr (p:=fun v u K=>am _ v u K) (fun _ _ _ k=>⟨Jt k⟩) (fun _ _ _ _ hk k=>iT hk _ _ _ k) k
   ·exact bk k
  ·split at k
   ·simp only[*];exact yp er hr (p:=fun v u K=>cf _ _ v u K) (fun _ _ _ k=>⟨wB _ _ _ _ k⟩) (fun _ _ _ _ hk k=>fg hk _ _ _ _ k) k
   ·exact bk k
  ·exact bk k
 case index ty x i=>
  unfold Zx at k
  unfold C0
  split at k
  ·simp only[*];exact yp er hr (p:=fun v u K=>bl v u K) (fun _ _ _ k=>⟨Ra k⟩) (fun _ _ _ _ hk k=>vw hk _ _ k) k
  ·exact bk k
 case extract x i=>exact oG er hr (p:=fun v K=>an i v K) (fun _ _ k=>⟨Qo _ _ k⟩) (fun _ _ _ hk k=>tz hk _ _ k) k
 case call c=>exact Xb hcall er hr k
 all_goals exact bk k
theorem Pu {ty:TypeId}{g:TypeDesc→Value→ClO}{F:TypeDesc→Value→Prop}(hg:∀ d z,(g d z).f call e t n K=true→F d z) (k:(Un P ty g).f call e t n K=true):DT P ty F:=by
 unfold Un at k
 unfold DT
 split at k
 ·split at k
  ·split at k
   ·split at k
    ·have k:=hg _ _ k;simp only[*,if_true]
    ·exact bk k
   ·exact bk k
  ·exact bk k
 ·exact bk k
theorem Ij {ty:TypeId}{g:TypeDesc→ClO}{F:TypeDesc→Prop}(hg:∀ d,(g d).f call e t n K=true→F d) (k:(PK P ty g).f call e t n K=true):Bw P ty F:=by
 unfold PK at k
 unfold Bw
 split at k
 ·split at k
  ·have k:=hg _ k;simp only[*]
  ·exact bk k
 ·exact bk k
theorem Yi (er:ER e env) (hr:HR t n h) {o:Oper}(k:(X2 P o.op).f call e t n K=true):xB P env h o (KH K):=by
 obtain⟨dst,op,ty,pos,after,guard⟩:=o
 have wmapT:∀ {ty:TypeId} {F:TypeDesc→Value→AV→AV→Prop} {x y:Operand},DT P ty (fun d z=>eG (opv env x) (opv env y) (F d z))→eG (opv env x) (opv env y) fun a b=>DT P ty fun d z=>F d z a b:=fun {ty F x y} k=>by
  obtain⟨kt,et,d,i,z,h1,h2,h3,h4,h5,k⟩:=FT k
  refine cX (fun v k=>cX (fun y k=>?_) k) k
  unfold DT
  simp only[h1,h2,h3,h4,h5,if_true]
  exact k
 have wkeyT3:∀ {ty:TypeId} {F:TypeDesc→AV→AV→AV→Prop} {x y z:Operand},Bw P ty (fun d=>eG (opv env x) (opv env y) fun a b=>bV (opv env z) fun c=>F d a b c)→eG (opv env x) (opv env y) fun a b=>bV (opv env z) fun c=>Bw P ty fun d=>F d a b c:=fun {ty F x y z} k=>by
  obtain⟨kt,et,d,h1,h2,k⟩:=Bo k
  refine cX (fun v k=>cX (fun y k=>cX (fun w k=>?_) k) k) k
  unfold Bw
  simp only[h1,h2]
  exact k
 cases op<;>simp only[X2]at k<;>simp only[xB]
 case makeMap ty re=>
  cases re with
  | none=>exact⟨Pk hr k⟩
  | some x=>exact bk k
 case lookup ty x i ok=>
  refine wmapT (Pu (fun d z k=>?_) k)
  exact ab5 er hr (p:=fun v u h K=>c5 d ok (ofV z) v u h K) (fun _ _ _ k=>⟨Q9 hr k⟩) (fun _ _ _ _ hk k=>vL hk _ _ _ _ _ _ k) k
 case mapUpdate ty m kk v=>
  refine wkeyT3 (Ij (fun d k=>?_) k)
  exact X8 er hr (p:=fun v u w h K=>bT d v u w h K) (fun _ _ _ _ k=>⟨Af hr k⟩) k
 case insert ty m kk v=>
  refine wkeyT3 (Ij (fun d k=>?_) k)
  exact X8 er hr (p:=fun v u w h K=>bT d v u w h K) (fun _ _ _ _ k=>⟨Af hr k⟩) k
 case mapEntry ty m kk=>
  refine wmapT (Pu (fun d z k=>?_) k)
  exact Zj er hr (p:=fun v u h K=>qz d (ofV z) v u h K) (fun _ _ _ k=>⟨LF hr k⟩) k
 case entryStore ty m s v=>exact X8 er hr (p:=fun v u w h K=>lU v u w h K) (fun _ _ _ _ k=>⟨GZ hr k⟩) k
 case range ty x=>
  split at k
  ·simp only[*];exact JN er hr (p:=fun v h K=>vC v h K) (fun _ _ k=>⟨S7 hr k⟩) k
  ·simp only[*];exact JN er hr (p:=fun v h K=>vG v h K) (fun _ _ k=>⟨S2 hr k⟩) k
  ·exact bk k
 case next x b=>
  cases b
  ·exact JN er hr (p:=fun v h K=>AD v h K) (fun _ _ k=>⟨WG hr k⟩) k
  ·exact JN er hr (p:=fun v h K=>Ba v h K) (fun _ _ k=>⟨VL hr k⟩) k
 case entry x=>exact G4 er hr (p:=fun v h K=>Ay v h K) (fun _ _ k=>⟨UQ hr k⟩) (fun _ _ _ hk k=>yr hk _ _ k) k
 case makeSlice ty l c=>
  split at k
  ·split at k
   ·split at k
    ·split at k
     ·refine cX (fun v k=>cX (fun y k=>?_) k) (Zj er hr (p:=fun v u h K=>lK _ _ v u h K) (fun _ _ _ k=>⟨JF hr k⟩) k)
      simp only[*,if_true]
     ·exact bk k
    ·exact bk k
   ·exact bk k
  ·exact bk k
 case convert s d x=>
  split at k
  ·split at k
   ·simp only[*,if_true];exact G4 er hr (p:=fun v h K=>qx v h K) (fun _ _ k=>⟨LO hr k⟩) (fun _ _ _ hk k=>qJ hk _ _ k) k
   ·exact bk k
  ·split at k
   ·simp only[*,if_true];exact JN er hr (p:=fun v h K=>qC v h K) (fun _ _ k=>⟨M3 hr k⟩) k
   ·exact bk k
  ·exact bk k
 case binOp op ty x y yt=>
  split at k
  ·split at k
   ·split at k
    ·simp only[*,if_true]
     exact yp er hr (p:=fun v u K=>QU op _ v u K) (fun _ _ _ k=>⟨aay _ _ _ _ k⟩) (fun _ _ _ _ hk k=>DG hk _ _ _ _ k) k
    ·exact bk k
   ·exact bk k
  ·rename_i hns
   have:bV (opv env x) fun a=>yT P op ty a y fun r=>KH K r h:=by
    unfold TN at k
    unfold yT
    split at k
    ·simp only[*];exact oG er hr (p:=fun v K=>jT op v K) (fun _ _ k=>⟨Rz _ _ k⟩) (fun _ _ _ hk k=>CN hk _ _ k) k
    ·simp only[*];exact oG er hr (p:=fun v K=>FO op v K) (fun _ _ k=>⟨Sg _ _ k⟩) (fun _ _ _ hk k=>vH hk _ _ k) k
    ·simp only[*];exact oG er hr (p:=fun v K=>F7 op v K) (fun _ _ k=>⟨R6 _ _ k⟩) (fun _ _ _ hk k=>uJ hk _ _ k) k
    ·simp only[*];exact oG er hr (p:=fun v K=>F3 op v K) (fun _ _ k=>⟨SU _ _ k⟩) (fun _ _ _ hk k=>vJ hk _ _ k) k
    ·exact bk k
   split
   ·rename_i he;exact (hns _ he).elim
   ·exact this
 case call c=>
  split at k
  ·rename_i hc
   simp only[hc]
   split at k
   ·rename_i m kk ty rest ha ht
    obtain⟨kt,et,d,h1,h2,k⟩:=Bo (Ij (F:=fun d=>eG (opv env m) (opv env kk) fun a b=>qp d a b h fun h'=>KH K (.tup []) h') (fun d k=>abF er hr (p:=fun v u h K=>qp d v u h K) (fun _ _ _ k=>⟨RF hr k⟩) k) k)
    obtain⟨a,h3,k⟩:=aH k
    obtain⟨b,h4,k⟩:=aH k
    rw[ha,ht]
    simp only[kZ,h3,h4,d7]
    unfold Bw
    simp only[h1,h2]
    exact k
   ·exact bk k
  ·exact bk k
 all_goals exact bk k
theorem YX (hcall:kY P call) (er:ER e env) (hr:HR t n h) {o:Oper}(k:(Xr P o.op).f call e t n K=true):x4 P env h o (KH K):=by
 unfold Xr at k
 unfold x4
 split at k
 ·rename_i hn;rw[if_pos hn];exact Yi er hr k
 ·rename_i hn;rw[hn,if_neg (by simp)];exact Xk hcall er hr k
omit [Tabs] in
theorem T8 (c:UInt8):∀ (l:List UInt8) (i:Nat),Wf l c i=if Lib.indexByte l c=-1 then -1 else Lib.indexByte l c+i
 | [],i=>rfl
 | b::l,i=>by
   have ih:=T8 c l (i+1)
   have hge:=Lib.indexByte_ge l c
   have e1:Wf (b::l) c i=if (b==c)=true then (i:Int) else Wf l c (i+1):=by
    show @Bool.casesOn (fun _=>Int) (uEq b c) (Wf l c (i+1)) (.ofNat i)=_
    rw[Ec]
    cases hb:(b==c)<;>rfl
   rw[e1,ih]
   simp only[Lib.indexByte]
   by_cases hb:(b==c)=true
   ·simp[hb]
   ·simp only[hb,if_false]
    by_cases h1:Lib.indexByte l c=-1
    ·simp[h1]
    ·rw[if_neg h1,if_neg (show ¬ (Lib.indexByte l c==-1)=true by simpa using h1)]
     simp only[Bool.false_eq_true,if_false]
     rw[if_neg (by omega)];omega
omit [Tabs] in
theorem TF (c:UInt8):∀ (l:List UInt8) (n:Nat),VP l c n=n+Lib.countByte l c
 | [],n=>rfl
 | b::l,n=>by
   have e1:VP (b::l) c n=VP l c (if (b==c)=true then n+1 else n):=by
    show VP l c (@Bool.casesOn (fun _=>Nat) (uEq b c) n (n+1))=_
    rw[Ec]
    cases hb:(b==c)<;>rfl
   rw[e1,TF c l]
   simp only[Lib.countByte,List.count_cons]
   cases hb:(b==c)<;>simp<;>omega
omit [Tabs] in
theorem abd {x:Ext}{vs:List AV}{K:AV→Bool}(k:ab4 x vs K=true):A1 x vs fun r=>K r=true:=by
 unfold ab4 at k
 split at k
 ·rw[Pj,T8]at k
  show K (I (Lib.indexByte _ _))=true
  split at k
  ·rename_i h1;rw[h1];exact k
  ·simpa using k
 ·rw[jO,TF]at k
  show K (I (Lib.countByte _ _))=true
  simpa using k
 ·exact k
 ·rw[jO]at k;exact k
 ·cases k
omit [Tabs] in
theorem Mc (m n:Nat):abf m n=Nat.min m n:=by
 show @Bool.casesOn (fun _=>Nat) (Nat.ble m n) n m=min m n
 cases h:Nat.ble m n
 ·have:¬ m≤n:=fun e=>by rw[Nat.ble_eq_true_of_le e]at h;cases h
  exact (Nat.min_eq_right (Nat.le_of_not_le this)).symm
 ·exact (Nat.min_eq_left (Nat.le_of_ble_eq_true h)).symm
theorem ZO (r:HR t n h) {size:Nat}{v x:AV}{K:AV→HT→Nat→Bool}(k:Z1 size v x t n K=true):Ek size v x h (KH K):=by
 unfold Z1 at k
 unfold Ek
 split at k
 ·cases k
 ·rename_i m xs hx
  simp only[Da r hx]
  split at k
  ·split at k
   ·rename_i cs hc
    simp only[r.at_ _ _ hc]
    simp only[Bool.and_eq_true,decide_eq_true_eq,jO,Mc]at k
    exact⟨k.1,_,_,r.set hc,k.2⟩
   ·cases k
  ·rw[cH,Mc]at k
   exact⟨Nat.eq_of_beq_eq_true k.1,_,_,r,k.2⟩
  ·rw[cH,Mc]at k
   exact⟨Nat.eq_of_beq_eq_true k.1,_,_,r,k.2⟩
  ·cases k
theorem WN (r:HR t n h) {size:Nat}{u v:AV}{K:HT→Nat→Bool}(k:Sc size u v t n K=true):xR size u v h (KS K):=by
 unfold Sc at k
 unfold xR
 split at k
 ·split at k
  ·rename_i cs hc
   simp only[r.at_ _ _ hc]
   simp only[Bool.and_eq_true,decide_eq_true_eq]at k
   exact⟨k.1,_,_,r.set hc,k.2⟩
  ·cases k
 ·exact⟨_,_,r,k⟩
 ·exact⟨_,_,r,k⟩
 ·cases k
theorem Bv {ts:Array TypeId}{F:Value→TypeInfo→ClO}{K:AV→HT→Nat→Bool}{T:Value→TypeInfo→Prop}(hk:∀ z i,(F z i).f call e t n K=true→T z i) (k:(Tx P ts F).f call e t n K=true):HN P ts T:=by
 unfold Tx at k
 unfold HN
 split at k
 ·split at k
  ·split at k
   ·split at k
    ·split at k
     ·simp only[*,if_true]
     ·exact bk k
    ·exact bk k
   ·exact bk k
  ·exact bk k
 ·exact bk k
def pS (tb:ro):Prop:=∀ g cs,tb g=some cs→Tabs.tab g=some cs
theorem VZ {tb:ro}(ht:pS tb) (er:ER e env) (hr:HR t n h) {o:Oper}(k:(SZ P tb o.op).f call e t n K=true):wV P env h o (KH K):=by
 obtain⟨dst,op,ty,pos,after,guard⟩:=o
 cases op<;>simp only[SZ]at k<;>simp only[wV]<;>try exact bk k
 case call c=>
  split at k
  ·rename_i f hc
   simp only[hc]
   split at k
   ·rename_i x hx
    obtain⟨vs,h1,k⟩:=lY er k
    rw[h1]
    simp only[d7,hx]
    exact⟨Dw (fun r k=>kh hr k) (abd k)⟩
   ·exact bk k
  ·rename_i hc
   simp only[hc]
   cases hvs:kZ env c.args.toList with
   | none=>
     exfalso
     have:HN P c.argTypes fun _ _=>False:=Bv (fun z i k=>by
      split at k
      ·rename_i x y ha
       simp only[e2]at k
       obtain⟨v,h1,k⟩:=bx er k
       obtain⟨u,h2,k⟩:=bx er k
       rw[ha]at hvs;simp[kZ,h1,h2]at hvs
      ·exact bk k) k
     obtain⟨_,_,_,_,_,_,_,_,_,hf⟩:=F8 this
     exact hf
   | some vs=>
     refine Bv (fun z i k=>?_) k
     split at k
     ·rename_i x y ha
      simp only[e2]at k
      obtain⟨v,h1,k⟩:=bx er k
      obtain⟨u,h2,k⟩:=bx er k
      rw[ha]at hvs
      simp only[kZ,h1,h2,Option.some.injEq]at hvs
      subst hvs
      exact⟨ZO hr k⟩
     ·exact bk k
  ·rename_i hc
   simp only[hc]
   cases hvs:kZ env c.args.toList with
   | none=>
     exfalso
     have:HN P c.argTypes fun _ _=>False:=Bv (fun z i k=>by
      split at k
      ·rename_i x ha
       obtain⟨v,h1,k⟩:=bx er k
       rw[ha]at hvs;simp[kZ,h1]at hvs
      ·exact bk k) k
     obtain⟨_,_,_,_,_,_,_,_,_,hf⟩:=F8 this
     exact hf
   | some vs=>
     refine Bv (fun z i k=>?_) k
     split at k
     ·rename_i x ha
      obtain⟨v,h1,k⟩:=bx er k
      rw[ha]at hvs
      simp only[kZ,h1,Option.some.injEq]at hvs
      subst hvs
      exact⟨WN hr k⟩
     ·exact bk k
  ·exact bk k
 case indexAddr ty x i=>
  cases x<;>simp only at k ⊢<;>try exact bk k
  split at k
  ·rename_i cs hg
   simp only[ht _ _ hg]
   split at k
   ·split at k
    ·refine cX (fun v k=>?_) (oG er hr (p:=fun v K=>cf _ _ (.cptr cs) v K) (fun _ _ k=>⟨wB _ _ _ _ k⟩) (fun _ _ _ hk k=>fg hk _ _ _ _ k) k)
     unfold eI;simp only[*]
    ·exact bk k
   ·exact bk k
  ·exact bk k
 case load ty x=>
  cases x<;>simp only at k ⊢<;>try exact bk k
  split at k
  ·rename_i cs hg
   simp only[ht _ _ hg]
   unfold Y1 at k
   unfold lu
   split at k
   ·split at k
    ·simp only[*,if_true];exact ik (fun r k=>kh hr k) _ _ _ ⟨C7 hr k⟩
    ·simp only[*,Bool.false_eq_true,if_false];exact ig (fun r k=>kh hr k) _ _ ⟨DP hr k⟩
   ·exact bk k
  ·exact bk k
theorem tL {tb:ro}(ht:pS tb) (hcall:kY P call) (er:ER e env) (hr:HR t n h) {o:Oper}(k:(EH P tb o.op).f call e t n K=true):aop P env h o (KH K):=by
 unfold EH at k
 unfold aop
 split at k
 ·rename_i hn;rw[if_pos hn];exact VZ ht er hr k
 ·rename_i hn;rw[hn,if_neg (by simp)];exact YX hcall er hr k
end
end
section
structure ClR where
 f:m4→ET→HT→Nat→(ET→HT→Nat→Bool)→Bool
structure PD where
 q:Nat
 o:Oper
 e:ET
 v:AV
structure ClD where
 f:m4→ET→HT→Nat→List PD→(ET→HT→Nat→List PD→Bool)→Bool
structure ClC where
 f:m4→ET→HT→Nat→(Exit→ET→HT→Nat→Bool)→Bool
structure ClF where
 f:m4→List AV→HT→Nat→(AV→HT→Nat→Bool)→Bool
structure ClV where
 f:ET→HT→(List AV→Bool)→Bool
def noR:ClR:=⟨fun _ _ _ _ _=>false⟩
def noD:ClD:=⟨fun _ _ _ _ _ _=>false⟩
def noC:ClC:=⟨fun _ _ _ _ _=>false⟩
def noF:ClF:=⟨fun _ _ _ _ _=>false⟩
def C4 (e:ET) (d:Option Tmp) (v:AV):ET:=match d with|some d=>(te d).s e v|none=>e
def Kg (P:Program) (tb:ro) (nt:Nat) (o:Oper):ClR:=match fM nt o.dst with
 | true=>(match o.dst with
   | some d=>⟨fun c e t n K=>(EH P tb o.op).f c e t n fun v t n=>K ((te d).s e v) t n⟩
   | none=>⟨fun c e t n K=>(EH P tb o.op).f c e t n fun _ t n=>K e t n⟩)
 | false=>noR
def ifV (v:AV) (x y:Bool):Bool:=match v with|.lit (.bool true)=>x|.lit (.bool false)=>y|_=>false
def Va (g:Bool) (v:AV) (x y z:Bool):Bool:=match v with|.lit (.bool true)=>x|.lit (.bool false)=>y|.tup []=>bA g z|_=>false
def sN (P:Program) (tb:ro) (nt:Nat) (ops:Array Oper):List Nat→ClR
 | []=>⟨fun _ e t n K=>K e t n⟩
 | i::rest=>match ops[i]? with
   | none=>noR
   | some o=>match o.guard with
     | none=>⟨fun c e t n K=>(Kg P tb nt o).f c e t n fun e t n=>(sN P tb nt ops rest).f c e t n K⟩
     | some (j,want)=>match (ops[j]?).bind (·.dst) with
       | none=>noR
       | some s=>match want with
         | true=>⟨fun c e t n K=>oM ((te s).g e) fun v=>Va (Wq ops j) v ((Kg P tb nt o).f c e t n fun e t n=>(sN P tb nt ops rest).f c e t n K) (bA (fM nt o.dst) ((sN P tb nt ops rest).f c (C4 e o.dst (.tup [])) t n K)) (bA (fM nt o.dst) ((sN P tb nt ops rest).f c (C4 e o.dst (.tup [])) t n K))⟩
         | false=>⟨fun c e t n K=>oM ((te s).g e) fun v=>Va (Wq ops j) v (bA (fM nt o.dst) ((sN P tb nt ops rest).f c (C4 e o.dst (.tup [])) t n K)) ((Kg P tb nt o).f c e t n fun e t n=>(sN P tb nt ops rest).f c e t n K) (bA (fM nt o.dst) ((sN P tb nt ops rest).f c (C4 e o.dst (.tup [])) t n K))⟩
def Yo:Value→Value→Bool
 | .bool a,.bool b=>a==b
 | .int j a,.int k b=>kEq j k&&iEq a b
 | .string a,.string b=>sEq a b
 | .pointer none,.pointer none=>true
 | .map none,.map none=>true
 | .nilFunc,.nilFunc=>true
 | .nilIface,.nilIface=>true
 | _,_=>false
theorem Xf {a b:Value}(h:Yo a b=true):a=b:=by
 unfold Yo at h
 split at h<;>first
  | rfl
  | (cases h;done)
  | (simp only[beq_iff_eq]at h;rw[h])
  | (simp only[Bool.and_eq_true,T0,Uu]at h;rw[h.1,h.2])
  | (rw[MY]at h;rw[h])
def ac1:Fn→Fn→Bool
 | .func a,.func b=>Nat.beq a b
 | _,_=>false
mutual
def zo:AV→AV→Bool
 | .lit a,.lit b=>Yo a b
 | .ptr i o,.ptr j p=>Nat.beq i j&&Nat.beq o p
 | .cptr a,.cptr b=>wM a b
 | .sl i o l s,.sl j p m r=>Nat.beq i j&&Nat.beq o p&&Nat.beq l m&&Nat.beq s r
 | .snap n a,.snap m b=>Nat.beq n m&&wM a b
 | .full n a,.full m b=>Nat.beq n m&&wM a b
 | .map i,.map j=>Nat.beq i j
 | .fn f a b,.fn g c d=>ac1 f g&&(wM a c&&wM b d)
 | .iface t v,.iface u w=>Nat.beq t u&&zo v w
 | .agg a,.agg b=>wM a b
 | .tup a,.tup b=>wM a b
 | .sym i,.sym j=>Nat.beq i j
 | _,_=>false
def wM:List AV→List AV→Bool
 | [],[]=>true
 | a::l,b::m=>zo a b&&wM l m
 | _,_=>false
end
theorem aaY:∀ {a b:Fn},ac1 a b=true→a=b
 | .func a,.func b,h=>by have:=Nat.eq_of_beq_eq_true h;rw[this]
mutual
theorem MQ:∀ (a b:AV),zo a b=true→a=b
 | .lit a,b,h=>by cases b<;>simp only[zo]at h<;>first|(cases h;done)|(rw[Xf h])
 | .ptr i o,b,h=>by
   cases b<;>simp only[zo,Bool.and_eq_true]at h<;>first|(cases h;done)|skip
   rw[Nat.eq_of_beq_eq_true h.1,Nat.eq_of_beq_eq_true h.2]
 | .cptr a,b,h=>by cases b<;>simp only[zo]at h<;>first|(cases h;done)|(rw[oZ _ _ h])
 | .sl i o l s,b,h=>by
   cases b<;>simp only[zo,Bool.and_eq_true]at h<;>first|(cases h;done)|skip
   rw[Nat.eq_of_beq_eq_true h.1.1.1,Nat.eq_of_beq_eq_true h.1.1.2,Nat.eq_of_beq_eq_true h.1.2,Nat.eq_of_beq_eq_true h.2]
 | .snap n a,b,h=>by
   cases b<;>simp only[zo,Bool.and_eq_true]at h<;>first|(cases h;done)|skip
   rw[Nat.eq_of_beq_eq_true h.1,oZ _ _ h.2]
 | .full n a,b,h=>by
   cases b<;>simp only[zo,Bool.and_eq_true]at h<;>first|(cases h;done)|skip
   rw[Nat.eq_of_beq_eq_true h.1,oZ _ _ h.2]
 | .map i,b,h=>by cases b<;>simp only[zo]at h<;>first|(cases h;done)|(rw[Nat.eq_of_beq_eq_true h])
 | .fn f a c,b,h=>by
   cases b<;>simp only[zo,Bool.and_eq_true]at h<;>first|(cases h;done)|skip
   rw[aaY h.1,oZ _ _ h.2.1,oZ _ _ h.2.2]
 | .iface t v,b,h=>by
   cases b<;>simp only[zo,Bool.and_eq_true]at h<;>first|(cases h;done)|skip
   rw[Nat.eq_of_beq_eq_true h.1,MQ _ _ h.2]
 | .agg a,b,h=>by cases b<;>simp only[zo]at h<;>first|(cases h;done)|(rw[oZ _ _ h])
 | .tup a,b,h=>by cases b<;>simp only[zo]at h<;>first|(cases h;done)|(rw[oZ _ _ h])
 | .sym i,b,h=>by cases b<;>simp only[zo]at h<;>first|(cases h;done)|(rw[Nat.eq_of_beq_eq_true h])
theorem oZ:∀ (a b:List AV),wM a b=true→a=b
 | [],b,h=>by cases b<;>simp only[wM]at h<;>first|rfl|(cases h;done)
 | a::l,b,h=>by
   cases b<;>simp only[wM,Bool.and_eq_true]at h<;>first|(cases h;done)|skip
   rw[MQ _ _ h.1,oZ _ _ h.2]
end
def O2 (P:Program) (tb:ro) (c:m4) (m:Nat) (t:HT) (n:Nat) (k:Bool):List PD→Bool
 | []=>k
 | ⟨q,o,e,v⟩::r=>bI (Nat.testBit m q) (O2 P tb c m t n k r) (bA ((EH P tb o.op).f c e t n fun r _ _=>zo r v) (O2 P tb c m t n k r))
def II (P:Program) (tb:ro) (nt:Nat) (m i:Nat) (o:Oper):ClD:=match fM nt o.dst with
 | true=>(match qOp P o.op with
   | true=>(match hOp P o.op with
     | true=>⟨fun c e t n pd K=>(EH P tb o.op).f c e t n fun v t n=>K (C4 e o.dst v) t n (⟨i,o,e,v⟩::pd)⟩
     | false=>⟨fun c e t n pd K=>(EH P tb o.op).f c e t n fun v t n=>K (C4 e o.dst v) t n pd⟩)
   | false=>⟨fun c e t n pd K=>(EH P tb o.op).f c e t n fun v t n=>O2 P tb c m t n (K (C4 e o.dst v) t n pd) pd⟩)
 | false=>noD
def zZ (P:Program) (tb:ro) (nt:Nat) (ops:Array Oper) (ms:List (Nat×Nat)):List Nat→ClD
 | []=>⟨fun _ e t n pd K=>K e t n pd⟩
 | i::rest=>match ops[i]? with
   | none=>noD
   | some o=>match o.guard with
     | none=>⟨fun c e t n pd K=>(II P tb nt (rm ms i) i o).f c e t n pd fun e t n pd=>(zZ P tb nt ops ms rest).f c e t n pd K⟩
     | some (j,want)=>match (ops[j]?).bind (·.dst) with
       | none=>noD
       | some s=>match want with
         | true=>⟨fun c e t n pd K=>oM ((te s).g e) fun v=>Va (Wq ops j) v ((II P tb nt (rm ms i) i o).f c e t n pd fun e t n pd=>(zZ P tb nt ops ms rest).f c e t n pd K) (bA (fM nt o.dst) ((zZ P tb nt ops ms rest).f c (C4 e o.dst (.tup [])) t n pd K)) (bA (fM nt o.dst) ((zZ P tb nt ops ms rest).f c (C4 e o.dst (.tup [])) t n pd K))⟩
         | false=>⟨fun c e t n pd K=>oM ((te s).g e) fun v=>Va (Wq ops j) v (bA (fM nt o.dst) ((zZ P tb nt ops ms rest).f c (C4 e o.dst (.tup [])) t n pd K)) ((II P tb nt (rm ms i) i o).f c e t n pd fun e t n pd=>(zZ P tb nt ops ms rest).f c e t n pd K) (bA (fM nt o.dst) ((zZ P tb nt ops ms rest).f c (C4 e o.dst (.tup [])) t n pd K))⟩
def adh (P:Program) (ops:Array Oper) (done:List Nat):Option Nat:=
 let ready:=(List.range ops.size).filter fun i=>!done.contains i&&(match ops[i]? with|some o=>(vW o).all done.contains|none=>false)
 match ready.find? (fun i=>match ops[i]? with|some o=>qOp P o.op|none=>false) with
 | some i=>some i
 | none=>ready.head?
def ZI (P:Program) (ops:Array Oper):Nat→List Nat→List Nat
 | 0,done=>done.reverse
 | k+1,done=>match adh P ops done with
   | some i=>ZI P ops k (i::done)
   | none=>done.reverse
def HX (P:Program) (ops:Array Oper):Option (List Nat):=
 match vI P ops (ZI P ops ops.size []) with
 | true=>some (ZI P ops ops.size [])
 | false=>match vI P ops (List.range ops.size) with
   | true=>some (List.range ops.size)
   | false=>none
def ac4 (body:ClC) (c:m4):Nat→ET→HT→Nat→(Exit→ET→HT→Nat→Bool)→Bool
 | 0,_,_,_,_=>false
 | k+1,e,t,n,K=>body.f c e t n fun ex e t n=>match ex with|.normal=>ac4 body c k e t n K|ex=>K ex e t n
def Y3 (body:ClC) (c:m4) (k:Nat):ET→HT→Nat→(Exit→ET→HT→Nat→Bool)→Bool:=
 @Nat.rec (fun _=>ET→HT→Nat→(Exit→ET→HT→Nat→Bool)→Bool) (fun _ _ _ _=>false) (fun _ ih e t n K=>body.f c e t n fun ex e t n=>match ex with|.normal=>ih e t n K|ex=>K ex e t n) k
def uc:Nat:=1000000
def u5:Code→Option Nat
 | .label l=>some l
 | .seq a b=>match u5 a with|some l=>some l|none=>u5 b
 | .cond _ a b=>match u5 a with|some l=>some l|none=>u5 b
 | .block _ b=>u5 b
 | .loop b=>u5 b
 | _=>none
def H7 (l:Nat) (again:ET→HT→Nat→Bool) (K:Exit→ET→HT→Nat→Bool):Exit→ET→HT→Nat→Bool:=
 fun ex e t n=>match ex with|.goto l'=>bA (Nat.beq l' l) (again e t n)|ex=>K ex e t n
def acd (body:ClC) (c:m4) (l:Nat):Nat→ET→HT→Nat→(Exit→ET→HT→Nat→Bool)→Bool
 | 0,_,_,_,_=>false
 | k+1,e,t,n,K=>body.f c e t n (H7 l (fun e t n=>acd body c l k e t n K) K)
def Uz (body:ClC) (c:m4) (l:Nat) (k:Nat):ET→HT→Nat→(Exit→ET→HT→Nat→Bool)→Bool:=
 @Nat.rec (fun _=>ET→HT→Nat→(Exit→ET→HT→Nat→Bool)→Bool) (fun _ _ _ _=>false) (fun _ ih e t n K=>body.f c e t n (H7 l (fun e t n=>ih e t n K) K)) k
def mh (P:Program) (tb:ro) (nt:Nat) (jmp:Code→ClC):Code→ClC
 | .skip=>⟨fun _ e t n K=>K .normal e t n⟩
 | .ret=>⟨fun _ e t n K=>K .ret e t n⟩
 | .exit id=>⟨fun _ e t n K=>K (.exit id) e t n⟩
 | .goto l=>⟨fun _ e t n K=>K (.goto l) e t n⟩
 | .label _=>⟨fun _ e t n K=>K .normal e t n⟩
 | .region _ ops d=>match d with
   | false=>⟨fun c e t n K=>(sN P tb nt ops (List.range ops.size)).f c e t n fun e t n=>K .normal e t n⟩
   | true=>match HX P ops,P.follows .mixedOrders with
     | some l,true=>⟨fun c e t n K=>(zZ P tb nt ops (A6 ops l []) l).f c e t n [] fun e t n _=>K .normal e t n⟩
     | _,_=>noC
 | .seq x y=>⟨fun c e t n K=>(mh P tb nt jmp x).f c e t n fun ex e t n=>match ex with|.normal=>(mh P tb nt jmp y).f c e t n K|ex=>K ex e t n⟩
 | .cond x a b=>⟨fun c e t n K=>(fC x).f e fun v=>ifV v ((mh P tb nt jmp a).f c e t n K) ((mh P tb nt jmp b).f c e t n K)⟩
 | .block id x=>⟨fun c e t n K=>(mh P tb nt jmp x).f c e t n fun ex e t n=>match ex with|.exit i=>bI (Nat.beq i id) (K .normal e t n) (K (.exit i) e t n)|ex=>K ex e t n⟩
 | .loop x=>⟨fun c e t n K=>Y3 (mh P tb nt jmp x) c uc e t n K⟩
 | .scope x=>match u5 x with
   | some l=>(match findLabel x l with
     | some rest=>⟨fun c e t n K=>(mh P tb nt jmp x).f c e t n (H7 l (fun e t n=>Uz (jmp rest) c l uc e t n K) K)⟩
     | none=>noC)
   | none=>noC
 | _=>noC
def acE (P:Program) (tb:ro) (nt:Nat):Code→ClC:=mh P tb nt fun _=>noC
def TM (P:Program) (tb:ro) (nt:Nat):Code→ClC:=mh P tb nt (acE P tb nt)
def v6 (P:Program):List ResultVar→ClV
 | []=>⟨fun _ _ K=>K []⟩
 | .tmp s::rs=>⟨fun e t K=>oM ((te s).g e) fun v=>(v6 P rs).f e t fun vs=>K (v::vs)⟩
 | .cell a ty::rs=>match P.underlying ty,P.info? ty with
   | some d,some i=>(match mn d with
     | true=>⟨fun e t K=>oM ((te a).g e) fun p=>IA i.size p t fun v=>(v6 P rs).f e t fun vs=>K (v::vs)⟩
     | false=>⟨fun e t K=>oM ((te a).g e) fun p=>Gn p t fun v=>(v6 P rs).f e t fun vs=>K (v::vs)⟩)
   | _,_=>⟨fun _ _ _=>false⟩
def PE:Nat→List AV→ET
 | _,[]=>ee0
 | k,v::vs=>(te k).s (PE (k+1) vs) v
def B8 (P:Program) (tb:ro) (fn:Func):ClF:=match fn.body with
 | none=>noF
 | some c => match fn.name == "runtime.NumGoroutine" with
   | true=>noF
   | false=>⟨fun call args t n K=>bA (Nat.ble args.length fn.ntmps) ((TM P tb fn.ntmps c).f call (PE 0 args) t n fun ex e t n=>match ex with
     | .normal=>(v6 P fn.results.toList).f e t fun vs=>K (zT vs) t n
     | .ret=>(v6 P fn.results.toList).f e t fun vs=>K (zT vs) t n
     | _=>false)⟩
abbrev Hd:=FuncId→List AV→HT→Nat→(AV→HT→Nat→Bool)→Option Bool
variable [Tabs]
section
variable {P:Program}{nt:Nat}{call:m4}{tb:ro}
def KE (K:ET→HT→Nat→Bool) (env:Env) (h:ae):Prop:=∃ e t n,ER e env∧HR t n h∧K e t n=true
theorem ER.putD {e:ET}{env:Env}(r:ER e env) (d:Option Tmp) (v:AV):ER (C4 e d v) (putD env d v):=by
 cases d with
 | none=>exact r
 | some d=>exact r.put d v
theorem ER.know {e:ET}{env:Env}(r:ER e env) {s:Nat}{v:AV}(h:(te s).g e=some v):ER e ((s,v)::env):=fun k u hu=>by
 simp only[AL.get]
 by_cases hk:s=k
 ·subst hk;rw[if_pos rfl,← h,hu]
 ·rw[if_neg hk];exact r k u hu
theorem BA (ht:pS tb) (hc:kY P call) {o:Oper}{e:ET}{env:Env}{t:HT}{n:Nat}{h:ae}{K:ET→HT→Nat→Bool}(er:ER e env) (hr:HR t n h) (k:(Kg P tb nt o).f call e t n K=true):qH P nt env h o (KE K):=by
 unfold Kg at k
 unfold qH
 split at k
 ·rename_i hd
  rw[if_pos hd]
  split at k
  ·rename_i d ho
   refine lq (fun v h' k=>?_) (tL ht hc er hr k)
   obtain⟨t',n',hr',k⟩:=k
   refine⟨_,t',n',?_,hr',k⟩
   rw[ho];exact er.put d v
  ·rename_i ho
   refine lq (fun v h' k=>?_) (tL ht hc er hr k)
   obtain⟨t',n',hr',k⟩:=k
   refine⟨_,t',n',?_,hr',k⟩
   rw[ho];exact er
 ·cases k
theorem F9 {o:Option AV}{K:AV→Bool}(k:oM o K=true):∃ v,o=some v∧K v=true:=by
 unfold oM at k;split at k
 ·exact⟨_,rfl,k⟩
 ·cases k
theorem acA {v:AV}{x y:Bool}(k:ifV v x y=true):(v=B true∧x=true)∨(v=B false∧y=true):=by
 unfold ifV at k;split at k
 ·exact .inl ⟨rfl,k⟩
 ·exact .inr ⟨rfl,k⟩
 ·cases k
theorem F0 {g:Bool}{v:AV}{x y z:Bool}(k:Va g v x y z=true):(v=B true∧x=true)∨(v=B false∧y=true)∨(v=.tup []∧g=true∧z=true):=by
 unfold Va at k;split at k
 ·exact .inl ⟨rfl,k⟩
 ·exact .inr (.inl ⟨rfl,k⟩)
 ·rw[cH]at k;exact .inr (.inr ⟨rfl,k⟩)
 ·cases k
theorem O7 {ops:Array Oper}{l:List Nat}{env:Env}{h:ae}{K K':Env→ae→Prop}(hk:∀ env' h',K env' h'→K' env' h') (k:jz P nt ops l env h K):jz P nt ops l env h K':=
 vM ops l env h K K' (fun env' h' _ k=>hk env' h' k) k
theorem xw {env:Env}{h:ae}{o:Oper}{K K':Env→ae→Prop}(hk:∀ env' h',K env' h'→K' env' h') (k:qH P nt env h o K):qH P nt env h o K':=
 He (fun v h' k=>hk _ _ k) k
theorem lZ (ht:pS tb) (hc:kY P call) (ops:Array Oper):∀ (l:List Nat) {e:ET}{env:Env}{t:HT}{n:Nat}{h:ae}{K:ET→HT→Nat→Bool},ER e env→HR t n h→(sN P tb nt ops l).f call e t n K=true→jz P nt ops l env h (KE K)
 | [],e,env,t,n,h,K,er,hr,k=>⟨e,t,n,er,hr,k⟩
 | i::rest,e,env,t,n,h,K,er,hr,k=>by
   unfold sN at k
   unfold jz
   split at k
   ·cases k
   ·rename_i o ho
    simp only[ho]
    split at k
    ·rename_i hg
     simp only[hg]
     exact xw (fun env' h' ⟨e',t',n',er',hr',k'⟩=>lZ ht hc ops rest er' hr' k') (BA ht hc er hr k)
    ·rename_i j want hg
     simp only[hg]
     split at k
     ·cases k
     ·rename_i s hs
      simp only[hs]
      split at k
      ·obtain⟨v,hv,k⟩:=F9 k
       rw[er s _ hv]
       replace k:=F0 k
       rcases k with ⟨rfl,k⟩|⟨rfl,k⟩|⟨rfl,hgd,k⟩
       ·refine TB ?_
        simp only[if_true]
        exact xw (fun env' h' ⟨e',t',n',er',hr',k'⟩=>lZ ht hc ops rest er' hr' k') (BA ht hc (er.know hv) hr k)
       ·refine TV ?_
        simp only[if_true]
        rw[cH]at k
        rw[if_pos k.1]
        exact lZ ht hc ops rest ((er.know hv).putD _ _) hr k.2
       ·simp only[bV,hgd,ifG,ifT]
        rw[cH]at k
        rw[if_pos k.1]
        exact lZ ht hc ops rest ((er.know hv).putD _ _) hr k.2
      ·obtain⟨v,hv,k⟩:=F9 k
       rw[er s _ hv]
       replace k:=F0 k
       rcases k with ⟨rfl,k⟩|⟨rfl,k⟩|⟨rfl,hgd,k⟩
       ·refine TB ?_
        simp only[Bool.false_eq_true,if_false]
        rw[cH]at k
        rw[if_pos k.1]
        exact lZ ht hc ops rest ((er.know hv).putD _ _) hr k.2
       ·refine TV ?_
        simp only[Bool.false_eq_true,if_false]
        exact xw (fun env' h' ⟨e',t',n',er',hr',k'⟩=>lZ ht hc ops rest er' hr' k') (BA ht hc (er.know hv) hr k)
       ·simp only[bV,hgd,ifG,ifT]
        rw[cH]at k
        rw[if_pos k.1]
        exact lZ ht hc ops rest ((er.know hv).putD _ _) hr k.2
def PR (P:Program):List PD→qU→Prop
 | [],p=>p=[]
 | ⟨q,o,e,v⟩::r,p=>∃ env p',p=(q,fun h2=>aop P env h2 o fun r _=>r=v)::p'∧ER e env∧PR P r p'
theorem HL (ht:pS tb) (hc:kY P call) {m:Nat}{t:HT}{n:Nat}{h:ae}(hr:HR t n h) {k:Bool}{X:Prop}(hk:k=true→X):∀ {pd:List PD}{p:qU},PR P pd p→O2 P tb call m t n k pd=true→tk m p h X
 | [],p,hp,b=>by simp only[PR]at hp;subst hp;exact hk b
 | ⟨q,o,e,v⟩::r,p,hp,b=>by
   obtain⟨env,p',rfl,er,hp⟩:=hp
   unfold O2 at b
   unfold tk
   rcases (J4 _ _ _).1 b with ⟨hq,b⟩|⟨hq,b⟩
   ·rw[if_pos hq];exact HL ht hc hr hk hp b
   ·rw[if_neg (by rw[hq];simp)]
    rw[cH]at b
    exact⟨lq (fun r h' ⟨t',n',_,k⟩=>MQ _ _ k) (tL ht hc er hr b.1),HL ht hc hr hk hp b.2⟩
def KD (P:Program) (K:ET→HT→Nat→List PD→Bool) (env:Env) (h:ae) (p:qU):Prop:=∃ e t n pd,ER e env∧HR t n h∧PR P pd p∧K e t n pd=true
theorem Ed (ht:pS tb) (hc:kY P call) {m i:Nat}{o:Oper}{e:ET}{env:Env}{t:HT}{n:Nat}{h:ae}{pd:List PD}{p:qU}{K:ET→HT→Nat→List PD→Bool}(er:ER e env) (hr:HR t n h) (hp:PR P pd p) (k:(II P tb nt m i o).f call e t n pd K=true):qN P nt m i o env h p (KD P K):=by
 unfold II at k
 unfold qN
 split at k
 ·rename_i hd
  rw[if_pos hd]
  split at k
  ·rename_i hq
   rw[if_pos hq]
   split at k
   ·rename_i hh
    refine lq (fun v h' k=>?_) (tL ht hc er hr k)
    obtain⟨t',n',hr',k⟩:=k
    rw[if_pos hh]
    exact⟨_,t',n',⟨i,o,e,v⟩::pd,er.putD _ _,hr',⟨env,p,rfl,er,hp⟩,k⟩
   ·rename_i hh
    refine lq (fun v h' k=>?_) (tL ht hc er hr k)
    obtain⟨t',n',hr',k⟩:=k
    rw[if_neg (by rw[hh];simp)]
    exact⟨_,t',n',_,er.putD _ _,hr',hp,k⟩
  ·rename_i hq
   rw[if_neg (by rw[hq];simp)]
   refine lq (fun v h' k=>?_) (tL ht hc er hr k)
   obtain⟨t',n',hr',k⟩:=k
   exact HL ht hc hr' (fun k=>⟨_,t',n',_,er.putD _ _,hr',hp,k⟩) hp k
 ·cases k
theorem oX (ht:pS tb) (hc:kY P call) (ops:Array Oper) (ms:List (Nat×Nat)):∀ (l:List Nat) {e:ET}{env:Env}{t:HT}{n:Nat}{h:ae}{pd:List PD}{p:qU}{K:ET→HT→Nat→List PD→Bool},ER e env→HR t n h→PR P pd p→(zZ P tb nt ops ms l).f call e t n pd K=true→
  n9 P nt ops ms l env h p fun env' h'=>∃ e t n pd,ER e env'∧HR t n h'∧K e t n pd=true
 | [],e,env,t,n,h,pd,p,K,er,hr,hp,k=>⟨e,t,n,pd,er,hr,k⟩
 | i::rest,e,env,t,n,h,pd,p,K,er,hr,hp,k=>by
   unfold zZ at k
   unfold n9
   have sm:∀ {env:Env} {K' K2:Env→ae→qU→Prop} {o:Oper},(∀ env' h' p',K' env' h' p'→K2 env' h' p')→qN P nt (rm ms i) i o env h p K'→qN P nt (rm ms i) i o env h p K2:=fun hk k=>Iu (fun v h' p' k=>hk _ _ _ k) k
   split at k
   ·cases k
   ·rename_i o ho
    simp only[ho]
    split at k
    ·rename_i hg
     simp only[hg]
     exact sm (fun env' h' p' ⟨e',t',n',pd',er',hr',hp',k'⟩=>oX ht hc ops ms rest er' hr' hp' k') (Ed ht hc er hr hp k)
    ·rename_i j want hg
     simp only[hg]
     split at k
     ·cases k
     ·rename_i s hs
      simp only[hs]
      split at k
      ·obtain⟨v,hv,k⟩:=F9 k
       rw[er s _ hv]
       replace k:=F0 k
       rcases k with ⟨rfl,k⟩|⟨rfl,k⟩|⟨rfl,hgd,k⟩
       ·refine TB ?_
        simp only[if_true]
        exact sm (fun env' h' p' ⟨e',t',n',pd',er',hr',hp',k'⟩=>oX ht hc ops ms rest er' hr' hp' k') (Ed ht hc (er.know hv) hr hp k)
       ·refine TV ?_
        simp only[if_true]
        rw[cH]at k
        rw[if_pos k.1]
        exact oX ht hc ops ms rest ((er.know hv).putD _ _) hr hp k.2
       ·simp only[bV,hgd,ifG,ifT]
        rw[cH]at k
        rw[if_pos k.1]
        exact oX ht hc ops ms rest ((er.know hv).putD _ _) hr hp k.2
      ·obtain⟨v,hv,k⟩:=F9 k
       rw[er s _ hv]
       replace k:=F0 k
       rcases k with ⟨rfl,k⟩|⟨rfl,k⟩|⟨rfl,hgd,k⟩
       ·refine TB ?_
        simp only[Bool.false_eq_true,if_false]
        rw[cH]at k
        rw[if_pos k.1]
        exact oX ht hc ops ms rest ((er.know hv).putD _ _) hr hp k.2
       ·refine TV ?_
        simp only[Bool.false_eq_true,if_false]
        exact sm (fun env' h' p' ⟨e',t',n',pd',er',hr',hp',k'⟩=>oX ht hc ops ms rest er' hr' hp' k') (Ed ht hc (er.know hv) hr hp k)
       ·simp only[bV,hgd,ifG,ifT]
        rw[cH]at k
        rw[if_pos k.1]
        exact oX ht hc ops ms rest ((er.know hv).putD _ _) hr hp k.2
theorem P5 {ops:Array Oper}{l:List Nat}(h:HX P ops=some l):vI P ops l=true:=by
 unfold HX at h
 split at h
 ·cases h;assumption
 ·split at h
  ·cases h;assumption
  ·cases h
theorem Em {c:Code}{Q Q':Exit→Act→World→Prop}(hq:∀ e a w,Q e a w→Q' e a w):∀ (k:Nat) (a:Act) (w:World),Code.rounds P c Q k a w→Code.rounds P c Q' k a w
 | 0,a,w,h=>h
 | k+1,a,w,h=>Go.wp_mono h fun e a' w' p=>by
   cases e with
   | normal=>exact Em hq k a' w' p
   | _=>exact hq _ _ _ p
def KX (K:Exit→ET→HT→Nat→Bool) (ex:Exit) (env:Env) (h:ae):Prop:=∃ e t n,ER e env∧HR t n h∧K ex e t n=true
theorem UA {c:Code}{body:ClC}(hb:∀ {e:ET}{env:Env}{t:HT}{n:Nat}{h:ae}{K:Exit→ET→HT→Nat→Bool},ER e env→HR t n h→body.f call e t n K=true→AWp P nt c env h (KX K)):
  ∀ (k:Nat) {e:ET} {env:Env} {t:HT} {n:Nat} {h:ae} {K:Exit→ET→HT→Nat→Bool},ER e env→HR t n h→Y3 body call k e t n K=true→
    ∀ (G:Gh) (w:World) (a:Act),Sim G h w→a.tmps.size=nt→EnvRep G env a.tmps→Code.rounds P c (Post G h w nt a.defers (KX K)) k a w
 | 0,e,env,t,n,h,K,er,hr,k=>by cases k
 | m+1,e,env,t,n,h,K,er,hr,k=>by
   intro G w a s hn r
   refine Go.wp_mono (hb er hr k G w a s hn r) fun ex a' w' p=>?_
   obtain⟨env',h',G',⟨e',t',n',er',hr',hk⟩,s',ev,r',hn',hd'⟩:=p
   cases ex with
   | normal=>
     have:=UA hb m er' hr' hk G' w' a' s' hn' r'
     exact Em (fun e a2 w2 p2=>by rw[hd']at p2;exact p2.step ev) m a' w' this
   | _=>exact⟨env',h',G',⟨e',t',n',er',hr',hk⟩,s',ev,r',hn',hd'⟩
def acl (P:Program) (nt:Nat) (call:m4) (f:Code→ClC):Prop:=∀ (c:Code) {e:ET}{env:Env}{t:HT}{n:Nat}{h:ae}{K:Exit→ET→HT→Nat→Bool},ER e env→HR t n h→(f c).f call e t n K=true→AWp P nt c env h (KX K)
def BW (P:Program) (rest:Code) (l:Nat) (Q:Exit→Act→World→Prop):Nat→Act→World→Prop
 | 0,_,_=>False
 | n+1,a,w=>rest.wp P (Exit.jump l (BW P rest l Q n) Q) a w
theorem AN {rest:Code}{l:Nat}{Q Q':Exit→Act→World→Prop}(hq:∀ e a w,Q e a w→Q' e a w):∀ (k:Nat) (a:Act) (w:World),BW P rest l Q k a w→BW P rest l Q' k a w
 | 0,a,w,h=>h
 | k+1,a,w,h=>Go.wp_mono h fun e a' w' p=>by
   cases e with
   | goto l'=>exact⟨p.1,AN hq k a' w' p.2⟩
   | _=>exact hq _ _ _ p
theorem Jv {c rest:Code}{Q:Exit→Act→World→Prop}{a:Act}{w:World}(l m:Nat) (hf:findLabel c l=some rest) (first:c.wp P (Exit.jump l (BW P rest l Q m) Q) a w):(Code.scope c).wp P Q a w:=by
 refine wp_scope_jumps l (fun a w=>∃ k,BW P rest l Q k a w) (fun a w=>DZ fun k=>BW P rest l Q k a w) hf (Go.wp_mono first fun e a' w' p=>?_) fun a w hJ=>?_
 ·cases e with
  | goto l'=>exact⟨p.1,m,p.2⟩
  | _=>exact p
 ·have hsp:=yb hJ
  generalize hk:DZ (fun k=>BW P rest l Q k a w)=k at hsp
  cases k with
  | zero=>exact hsp.elim
  | succ k=>
    refine Go.wp_mono (show rest.wp P (Exit.jump l (BW P rest l Q k) Q) a w from hsp) fun e a' w' p=>?_
    cases e with
    | goto l'=>exact⟨p.1,⟨k,p.2⟩,Nat.lt_of_le_of_lt (DI p.2) (Nat.lt_succ_self k)⟩
    | _=>exact p
theorem Q3 {rest:Code}{body:ClC}{l:Nat}(hb:∀ {e:ET}{env:Env}{t:HT}{n:Nat}{h:ae}{K:Exit→ET→HT→Nat→Bool},ER e env→HR t n h→body.f call e t n K=true→AWp P nt rest env h (KX K)):
  ∀ (k:Nat) {e:ET} {env:Env} {t:HT} {n:Nat} {h:ae} {K:Exit→ET→HT→Nat→Bool},ER e env→HR t n h→Uz body call l k e t n K=true→
    ∀ (G:Gh) (w:World) (a:Act),Sim G h w→a.tmps.size=nt→EnvRep G env a.tmps→BW P rest l (Post G h w nt a.defers (KX K)) k a w
 | 0,e,env,t,n,h,K,er,hr,k=>by cases k
 | m+1,e,env,t,n,h,K,er,hr,k=>by
   intro G w a s hn r
   have k:body.f call e t n (H7 l (fun e t n=>Uz body call l m e t n K) K)=true:=k
   refine Go.wp_mono (hb er hr k G w a s hn r) fun ex a' w' p=>?_
   obtain⟨env',h',G',⟨e',t',n',er',hr',hk⟩,s',ev,r',hn',hd'⟩:=p
   cases ex with
   | goto l'=>
     simp only[H7,cH]at hk
     refine⟨Nat.eq_of_beq_eq_true hk.1,?_⟩
     have:=Q3 hb m er' hr' hk.2 G' w' a' s' hn' r'
     exact AN (fun e a2 w2 p2=>by rw[hd']at p2;exact p2.step ev) m a' w' this
   | _=>exact⟨env',h',G',⟨e',t',n',er',hr',hk⟩,s',ev,r',hn',hd'⟩
theorem KN (ht:pS tb) (hc:kY P call) {jmp:Code→ClC}(hj:acl P nt call jmp):∀ (c:Code) {e:ET}{env:Env}{t:HT}{n:Nat}{h:ae}{K:Exit→ET→HT→Nat→Bool},ER e env→HR t n h→(mh P tb nt jmp c).f call e t n K=true→AWp P nt c env h (KX K):=by
 intro c
 induction c with
 | skip=>exact fun er hr k=>Oh ⟨_,_,_,er,hr,k⟩
 | ret=>exact fun er hr k=>T4 ⟨_,_,_,er,hr,k⟩
 | exit id=>exact fun er hr k=>NS ⟨_,_,_,er,hr,k⟩
 | goto l=>exact fun er hr k=>O9 ⟨_,_,_,er,hr,k⟩
 | label l=>exact fun er hr k=>Km ⟨_,_,_,er,hr,k⟩
 | region id ops d=>
   intro e env t n h K er hr k
   cases d with
   | false=>exact IJ (O7 (fun env' h' ⟨e',t',n',er',hr',k'⟩=>⟨e',t',n',er',hr',k'⟩) (lZ ht hc ops _ er hr k))
   | true=>
     simp only[mh]at k
     split at k
     ·rename_i l hl hf
      refine KU hf (P5 hl) (yY ops _ l env h [] _ _ (fun env' h' _ ⟨e',t',n',pd,er',hr',k'⟩=>⟨e',t',n',er',hr',k'⟩) (oX ht hc ops _ l er hr (pd:=[]) (by simp[PR]) k))
     ·cases k
 | seq x y hx hy=>
   intro e env t n h K er hr k
   refine MT ((hx er hr k).mono fun ex env' h' ⟨e',t',n',er',hr',k'⟩=>?_)
   cases ex with
   | normal=>exact hy er' hr' k'
   | _=>exact⟨e',t',n',er',hr',k'⟩
 | cond x a b ha hb=>
   intro e env t n h K er hr k
   obtain⟨v,hv,k⟩:=bx er k
   refine Of ?_
   rw[hv]
   rcases acA k with ⟨rfl,k1⟩|⟨rfl,k1⟩
   ·exact ha er hr k1
   ·exact hb er hr k1
 | block id x hx=>
   intro e env t n h K er hr k
   refine Lv ((hx er hr k).mono fun ex env' h' ⟨e',t',n',er',hr',k'⟩=>?_)
   cases ex with
   | exit i=>
     simp only[J4]at k'
     rcases k' with ⟨hi,k'⟩|⟨hi,k'⟩
     ·show if i=id then _ else _
      rw[if_pos (Nat.eq_of_beq_eq_true hi)];exact⟨e',t',n',er',hr',k'⟩
     ·show if i=id then _ else _
      rw[if_neg (fun e=>by rw[Nat.beq_eq.mpr e]at hi;cases hi)];exact⟨e',t',n',er',hr',k'⟩
   | _=>exact⟨e',t',n',er',hr',k'⟩
 | loop x hx=>
   intro e env t n h K er hr k G w a s hn r
   have k':Y3 (mh P tb nt jmp x) call uc e t n K=true:=k
   generalize uc=m at k'
   exact wp_loop_rounds m (UA (fun er hr k=>hx er hr k) m er hr k' G w a s hn r)
 | scope x hx=>
   intro e env t n h K er hr k
   simp only[mh]at k
   split at k
   ·rename_i l hl
    split at k
    ·rename_i rest hrest
     intro G w a s hn r
     have k':(mh P tb nt jmp x).f call e t n (H7 l (fun e t n=>Uz (jmp rest) call l uc e t n K) K)=true:=k
     clear k
     generalize uc=m at k'
     refine Jv l m hrest (Go.wp_mono (hx er hr k' G w a s hn r) fun ex a' w' p=>?_)
     obtain⟨env',h',G',⟨e',t',n',er',hr',hk⟩,s',ev,r',hn',hd'⟩:=p
     cases ex with
     | goto l'=>
       simp only[H7,cH]at hk
       refine⟨Nat.eq_of_beq_eq_true hk.1,?_⟩
       have:=Q3 (hj rest) m er' hr' hk.2 G' w' a' s' hn' r'
       exact AN (fun e a2 w2 p2=>by rw[hd']at p2;exact p2.step ev) m a' w' this
     | _=>exact⟨env',h',G',⟨e',t',n',er',hr',hk⟩,s',ev,r',hn',hd'⟩
    ·cases k
   ·cases k
 | _=>intro e env t n h K er hr k;cases k
theorem Ct (ht:pS tb) (hc:kY P call):∀ (c:Code) {e:ET}{env:Env}{t:HT}{n:Nat}{h:ae}{K:Exit→ET→HT→Nat→Bool},ER e env→HR t n h→(TM P tb nt c).f call e t n K=true→AWp P nt c env h (KX K):=
 KN ht hc (KN ht hc fun c {e env t n h K} er hr k=>by cases k)
theorem tZ {e:ET}{env:Env}{t:HT}{n:Nat}{h:ae}(er:ER e env) (hr:HR t n h):∀ {rs:List ResultVar}{K:List AV→Bool},(v6 P rs).f e t K=true→JE P env h rs fun vs=>K vs=true
 | [],K,k=>k
 | .tmp s::rs,K,k=>by
   obtain⟨v,hv,k⟩:=F9 k
   unfold JE
   rw[er s _ hv]
   exact tZ er hr k
 | .cell a ty::rs,K,k=>by
   simp only[v6]at k
   unfold JE
   split at k
   ·split at k
    ·obtain⟨v,hv,k⟩:=F9 k
     rw[er a _ hv]
     show lu P ty v h _
     unfold lu
     simp only[*,if_true]
     exact ik (fun r k=>tZ er hr k) _ _ _ ⟨C7 hr k⟩
    ·obtain⟨v,hv,k⟩:=F9 k
     rw[er a _ hv]
     show lu P ty v h _
     unfold lu
     simp only[*,Bool.false_eq_true,if_false]
     exact ig (fun r k=>tZ er hr k) _ _ ⟨DP hr k⟩
   ·cases k
theorem qv {env:Env}{h:ae}:∀ {rs:List ResultVar}{K K':List AV→Prop},(∀ vs,K vs→K' vs)→JE P env h rs K→JE P env h rs K'
 | [],K,K',hk,k=>hk _ k
 | .tmp s::rs,K,K',hk,k=>cX (fun v k=>qv (fun vs k=>hk _ k) k) k
 | .cell a ty::rs,K,K',hk,k=>cX (fun v k=>by
   unfold lu at *
   split at k
   ·split at k
    ·rename_i hd;rw[if_pos hd];exact ik (fun r k=>qv (fun vs k=>hk _ k) k) _ _ _ k
    ·rename_i hd;rw[if_neg hd];exact ig (fun r k=>qv (fun vs k=>hk _ k) k) _ _ k
   ·exact k.elim) k
theorem Bh:∀ (k:Nat) (vs:List AV),ER (PE k vs) (fA k vs)
 | k,[]=>fun i v h=>by rw[PE,abc]at h;cases h
 | k,v::vs=>(Bh (k+1) vs).put k v
theorem YW (ht:pS tb) (hc:kY P call) {f:FuncId}{fn:Func}(hf:P.funcs[f]?=some fn) {args:List AV}{t:HT}{n:Nat}{h:ae}{K:AV→HT→Nat→Bool}(hr:HR t n h) (k:(B8 P tb fn).f call args t n K=true):ACall P f args h (KH K):=by
 unfold B8 at k
 split at k
 ·cases k
 ·rename_i c hb
  split at k
  ·cases k
  ·rename_i hname
   simp only[cH]at k
   obtain⟨hn,k⟩:=k
   have hn:=Nat.le_of_ble_eq_true hn
   refine⟨⟨fn,hf,hname,by simp[hb]⟩,fun G w vs s r=>?_⟩
   refine calls_of_wp hf hb ?_
   have hl:=r.length
   have hre:EnvRep G (fA 0 args) (vs.toArray++Array.replicate (fn.ntmps-vs.toArray.size) undef):=fun k a e=>by
    obtain⟨_,h1⟩:=ug args 0 k a e
    obtain⟨v,h2,h3⟩:=r.at _ _ h1
    have hk:k<vs.length:=(List.getElem?_eq_some_iff.1 h2).1
    exact⟨v,by rw[Array.getElem?_append_left (by simpa using hk)];simpa using h2,h3⟩
   have W:=Ct ht hc c (Bh 0 args) hr k G w { tmps:=vs.toArray++Array.replicate (fn.ntmps-vs.toArray.size) undef,defers:=[] } s (by simp;omega) hre
   have fin:∀ {e:ET} {env':Env} {t':HT} {n':Nat} {h':ae},ER e env'→HR t' n' h'→(v6 P fn.results.toList).f e t' (fun vs=>K (zT vs) t' n')=true→JD P fn.results.toList env' h' (KH K):=fun er hr k=>
    qv (fun vs k=>kh hr k) (tZ er hr k)
   refine wp_mono W fun e a w' ⟨env',h',G',⟨e',t',n',er',hr',hk⟩,s',ev,r',hn',hd'⟩=>?_
   cases e with
   | normal=>
     obtain⟨v,x,q1,q2,q3⟩:=pX s' r' (fin er' hr' hk)
     exact⟨hd',x,q1,v,x,h',G',rfl,q2,q3,s',ev⟩
   | ret=>
     obtain⟨v,x,q1,q2,q3⟩:=pX s' r' (fin er' hr' hk)
     exact⟨hd',x,q1,v,x,h',G',rfl,q2,q3,s',ev⟩
   | exit id=>cases hk
   | goto l=>cases hk
   | panic ch=>cases hk
   | outgrown=>cases hk
def My (P:Program) (sp:Hd):Prop:=∀ (f:FuncId) (args:List AV) (t:HT) (n:Nat) (h:ae) (K:AV→HT→Nat→Bool),HR t n h→sp f args t n K=some true→ACall P f args h (KH K)
