import Derived.Test.YtbhphjpgjgigpaaGreatDoorF9
import Derived.Test.YtbhphjpgjgigpaaGreatDoorAA13toSC
import Derived.KernelRfl
import Derived.Test.YtbhphjpgjgigpaaGreatDoorAL32toAL34
set_option linter.all false
set_option autoImplicit true
set_option relaxedAutoImplicit true
set_option maxRecDepth 100000

namespace Go.Proofs.YtbhphjpgjgigpaaGreatDoor.AL
noncomputable section
def AX:Nat→Nat→Str
 | 0,_=>[]
 | f+1,n=>if n<10 then [UInt8.ofNat (48+n)] else AX f (n / 10)++AX f (n%10)
theorem pS:∀ f n,(AX f n).length≤2^f
 | 0,_=>by simp[AX]
 | f+1,n=>by
   have h1:=pS f (n / 10)
   have h2:=pS f (n%10)
   have:1≤2^f:=Nat.one_le_two_pow
   unfold AX
   split
   ·simp[Nat.pow_succ];omega
   ·rw[List.length_append,Nat.pow_succ];omega
section
variable [Tabs]
variable {h:ab}{Q:QT}{K:AV→Prop}
theorem MV {c:Int}(k:K (T [UInt8.ofNat c.toNat])):ia (.full 1 [.lit (.int .u8 c)]) h K:=⟨k⟩
theorem c9 {a n:Int}(hn:0<n) (hn2:n≤1000000000000000000) (ha:-9223372036854775808≤a∧a≤9223372036854775807) (k:Q (I (a%n)) h):C cp [I a,I n] h Q:=by
 refine AH _ _ _ _ ?_
 unfold yz
 refine pm (by omega) ?_
 have h1:=Int.tmod_lt_of_pos a hn
 have h0:=Int.emod_nonneg a (show n≠0 by omega)
 have h4:=Int.emod_lt_of_pos a hn
 have h3:(a.tmod n=a%n∧0≤a.tmod n)∨(a.tmod n=a%n-n∧a.tmod n<0):=by
  rw[Int.tmod_eq_emod]
  have hab:(n.natAbs:Int)=n:=by omega
  split
  ·exact .inl ⟨by omega,by omega⟩
  ·right;rw[hab];exact⟨rfl,by omega⟩
 refine aL ?_
 refine af (fun hb=>?_) (fun hb=>?_)<;>simp only[za,zb,zc,zd,ze,zf,zg,zh,zi,u8i,zj,zk,zl]at hb
 ·refine aJ (by omega) ?_
  rw[show a.tmod n+n=a%n by omega]
  exact k
 ·rw[← show a.tmod n=a%n by omega]at k
  exact k
theorem tY:∀ (f n:Nat),n<10^(f+1)→f≤9→∀ (h:ab) (Q:QT),(∀ h',Fr [] h h'→Q (T (AX (f+1) n)) h')→C ef [I (n:Nat)] h Q
 | f,n,hn,hf,h,Q,k=>by
   refine Bu _ _ _ ?_
   unfold yy
   have hp:(10:Nat)^(f+1)≤10^10:=Nat.pow_le_pow_right (by decide) (by omega)
   have hpw:(10:Nat)^(f+1)=10^f*10:=Nat.pow_succ ..
   unfold AX at k
   refine aL ?_
   refine af (fun hb=>(by exfalso;first|(simp at hb;done)|(simp at hb;omega)|(revert hb;decide)|omega)) (fun _=>?_)
   refine cO ?_
   refine af (fun hb=>?_) (fun hb=>?_)<;>simp only[za,zb,zc,zd,ze,zf,zg,zh,zi,u8i,zj,zk,zl]at hb
   ·have hb:10≤n:=by omega
    rw[if_neg (by omega)]at k
    obtain⟨f,rfl⟩:∃ g,f=g+1:=by
     cases f with
     | zero=>simp at hn;omega
     | succ g=>exact⟨g,rfl⟩
    refine mc (by decide) ?_ ?_
    ·rw[Int.tdiv_eq_ediv_of_nonneg (by omega)];omega
    rw[Int.tdiv_eq_ediv_of_nonneg (by omega),show ((n:Nat):Int) / 10=((n / 10:Nat):Int) by omega]
    refine tY f (n / 10) (by omega) (by omega) h _ fun h1 f1=>?_
    refine pm (by decide) ?_
    rw[Int.tmod_eq_emod_of_nonneg (by omega),show ((n:Nat):Int)%10=((n%10:Nat):Int) by omega]
    have h10:10≤10^(f+1):=by rw[Nat.pow_succ];have:=Nat.one_le_pow f 10 (by decide);omega
    refine tY f (n%10) (by omega) (by omega) h1 _ fun h2 f2=>?_
    have l1:=pS (f+1) (n / 10)
    have l2:=pS (f+1) (n%10)
    have l3:2^(f+1)≤2^10:=Nat.pow_le_pow_right (by decide) (by omega)
    refine ey (by omega) ?_
    exact k h2 (f1.trans f2 (by simp))
   ·have hb:n<10:=by omega
    rw[if_pos hb]at k
    refine aJ (by omega) ?_
    refine eB ?_
    refine aF rfl rfl ?_
    have hw:IntKind.u8.wrap (48+(n:Nat))=((48+n:Nat):Int):=by
     have:n=0∨n=1∨n=2∨n=3∨n=4∨n=5∨n=6∨n=7∨n=8∨n=9:=by omega
     rcases this with h|h|h|h|h|h|h|h|h|h<;>subst h<;>decide
    rw[hw]
    refine MV ?_
    exact k h (Fr.refl _ _)
end
end
end Go.Proofs.YtbhphjpgjgigpaaGreatDoor.AL
namespace Go.Proofs.YtbhphjpgjgigpaaGreatDoor.AL
noncomputable section
inductive GL where
 | lab (k:Nat)
 | br (o k:Nat)
 | li (n:Nat)
 | half (k:Nat)
 | lwz (k:Nat)
 | al (j:Nat)
 | long (k:Nat)
 | sp (n:Nat)
def okG:GL→Prop
 | .lab k=>k<4
 | .br o k=>o<3∧k<4
 | .li n=>n<128
 | .half k=>k<4
 | .lwz k=>k<4
 | .al j=>j<4
 | .long k=>k<4
 | .sp n=>n<140
def allG:List GL:=(List.range 4).map .lab++((List.range 3).flatMap fun o=>(List.range 4).map (.br o))++(List.range 128).map .li++(List.range 4).map .half++(List.range 4).map .lwz++(List.range 4).map .al++(List.range 4).map .long++(List.range 140).map .sp
theorem Ib {g:GL}(h:okG g):g∈allG:=by
 unfold allG
 cases g<;>simp only[okG]at h<;>simp[h]
def bH (k:Nat):Str:=([[97],[98,49],[108,111,111,112],[120]][k]?).getD []
def brT (o:Nat):Str:=([[98,32],[98,108,32],[98,99,32,49,44,32,50,44,32]][o]?).getD []
def alT (j:Nat):Str:=([[50],[52],[56],[49,54]][j]?).getD []
def ff (N:Nat→Str):GL→Str
 | .lab k=>N k++[58]
 | .br o k=>brT o++N k
 | .li n=>[115,101,95,108,105,32,114,51,44,32]++AX 3 n
 | .half k=>[46,104,97,108,102,32]++N k++[44,32,55]
 | .lwz k=>[101,95,108,119,122,32,114,49,44,32]++N k++[44,32,114,50]
 | .al j=>[46,97,108,105,103,110,32]++alT j
 | .long k=>[46,108,111,110,103,32]++N k++[32,45,32,46]
 | .sp n=>[46,115,112,97,99,101,32]++AX 3 (2*n)
def aN (s:Str):Ar:=⟨-1,.name s⟩
def aI (n:Nat):Ar:=⟨-1,.num n⟩
def rsG (N:Nat→Str):GL→RS
 | .lab k=>⟨N k,0,0,[],[]⟩
 | .br o k=>⟨[],2,o,[],if o=2 then [aI 1,aI 2,aN (N k)] else [aN (N k)]⟩
 | .li n=>⟨[],1,28,[],[⟨3,.none⟩,aI n]⟩
 | .half k=>⟨[],4,0,[],[aN (N k),aI 7]⟩
 | .lwz k=>⟨[],1,52,[],[⟨1,.none⟩,aN (N k),⟨2,.none⟩]⟩
 | .al j=>⟨[],7,0,[],[aI (2^(j+1))]⟩
 | .long k=>⟨[],5,0,[],[⟨-1,.bin 6 (.name (N k)) .here⟩]⟩
 | .sp n=>⟨[],8,0,[],[aI (2*n)]⟩
section
variable [Tabs]
def eqS (x:Option (Option RS)) (r:RS):Bool:=match x with
 | some (some s)=>decide (s.lab=r.lab)&&(decide (s.kind=r.kind)&&(decide (s.op=r.op)&&(decide (s.text=r.text)&&decide (s.args=r.args))))
 | _=>false
theorem TS {x:Option (Option RS)}{r:RS}(h:eqS x r=true):x=some (some r):=by
 unfold eqS at h
 split at h
 ·rename_i s
  simp only[Bool.and_eq_true,decide_eq_true_eq]at h
  obtain⟨h1,h2,h3,h4,h5⟩:=h
  cases s;cases r
  simp only at h1 h2 h3 h4 h5
  subst h1 h2 h3 h4 h5
  rfl
 ·cases h
def Kl (N:Nat→Str) (g:GL):Bool:=!(ff N g).contains 10&&(eqS (Fs (ff N g)) (rsG N g)&&decide ((ff N g).length≤40))
theorem Mz:allG.all (Kl bH)=true:=by kernel_rfl
end
end
end Go.Proofs.YtbhphjpgjgigpaaGreatDoor.AL
namespace Go.Proofs.YtbhphjpgjgigpaaGreatDoor.AL
noncomputable section
def aO (N:Nat→Str) (L:List GL):Str:=L.flatMap fun g=>ff N g++[10]
def ixl {α:Type}(f:Str→Nat→List α):Nat→List Str→List α
 | _,[]=>[]
 | i,x::r=>f x i++ixl f (i+1) r
theorem Ot {α:Type}(f:Str→Nat→List α):∀ (ls:List Str) (i:Nat),(List.range ls.length).flatMap (fun j=>f ((ls[j]?).getD []) (i+j))=ixl f i ls
 | [],i=>rfl
 | x::r,i=>by
   rw[List.length_cons,List.range_succ_eq_map,List.flatMap_cons,List.flatMap_map]
   unfold ixl
   rw[← Ot f r (i+1)]
   simp only[Nat.succ_eq_add_one,List.getElem?_cons_zero,List.getElem?_cons_succ,Option.getD_some,Nat.add_zero]
   congr 2
   funext j
   rw[show i+(j+1)=i+1+j by omega]
def stL (N:Nat→Str):Nat→List GL→List Sm
 | _,[]=>[]
 | i,g::r=>(i+1,rsG N g)::stL N (i+1) r
theorem Rb (N:Nat→Str):∀ (L:List GL) (i:Nat),(stL N i L).map (·.2)=L.map (rsG N)
 | [],i=>rfl
 | g::L,i=>by simp[stL,Rb N L]
section
variable [Tabs]
def qL (N:Nat→Str):Prop:=∀ g,okG g→(10∉ff N g)∧Fs (ff N g)=some (some (rsG N g))∧(ff N g).length≤40
theorem KN {N:Nat→Str}(h:allG.all (Kl N)=true):qL N:=fun g hg=>by
 have:=List.all_eq_true.1 h g (Ib hg)
 unfold Kl at this
 simp only[Bool.and_eq_true,Bool.not_eq_true',decide_eq_true_eq]at this
 exact⟨by simpa using this.1,TS this.2.1,this.2.2⟩
theorem BR {N:Nat→Str}(hN:qL N):∀ {L:List GL},(∀ g∈L,okG g)→bD 10 (aO N L)=L.map (ff N)++[[]]
 | [],_=>rfl
 | g::L,h=>by
   unfold aO
   rw[List.flatMap_cons,List.append_assoc,List.singleton_append,qN (hN g (h g (.head _))).1]
   have:=BR hN (L:=L) fun x hx=>h x (.tail _ hx)
   unfold aO at this
   rw[this];rfl
theorem R3:Fs []=some none:=by kernel_rfl
theorem Ja {N:Nat→Str}(hN:qL N) {L:List GL}(h:∀ g∈L,okG g):ni (aO N L)=stL N 0 L∧nh (aO N L)=[]:=by
 unfold ni nh wW
 rw[BR hN h]
 have e:∀ {α:Type} (f:Str→Nat→List α) (ls:List Str),(List.range ls.length).flatMap (fun j=>f ((ls[j]?).getD []) j)=ixl f 0 ls:=fun f ls=>by
  have:=Ot f ls 0
  simpa using this
 rw[e,e]
 have go:∀ (L:List GL) (i:Nat),(∀ g∈L,okG g)→ixl stm i (L.map (ff N)++[[]])=stL N i L∧ixl xk i (L.map (ff N)++[[]])=[]:=fun L=>by
  induction L with
  | nil=>
    intro i _
    simp only[List.map_nil,List.nil_append,ixl,stL,stm,xk,R3]
    simp
  | cons g L ih=>
    intro i h
    obtain⟨h1,h2⟩:=ih (i+1) fun x hx=>h x (.tail _ hx)
    have ho:=(hN g (h g (.head _))).2.1
    simp only[List.map_cons,List.cons_append,ixl,stL,stm,xk,ho]
    rw[h1,h2]
    simp
 exact go L 0 h
theorem wS {N:Nat→Str}(hN:qL N):∀ {L:List GL},(∀ g∈L,okG g)→(aO N L).length≤L.length*41
 | [],_=>by simp[aO]
 | g::L,h=>by
   have:=wS hN (L:=L) fun x hx=>h x (.tail _ hx)
   have h2:=(hN g (h g (.head _))).2.2
   unfold aO at this ⊢
   rw[List.flatMap_cons,List.length_append,List.length_append]
   simp only[List.length_cons,List.length_nil,Nat.add_mul]
   omega
theorem HO {N:Nat→Str}(hN:qL N):∀ {L:List GL},(∀ g∈L,okG g)→∀ k,k≤(aO N L).length→(k=0∨k=(aO N L).length∨(aO N L)[k-1]?=some 10)→∃ A B,L=A++B∧(aO N L).take k=aO N A∧(aO N L).drop k=aO N B
 | [],_,k,hk,_=>⟨[],[],rfl,by simp[aO],by simp[aO]⟩
 | g::L,h,k,hk,hc=>by
   have e:aO N (g::L)=ff N g++10::aO N L:=by simp[aO]
   obtain⟨h10,_,_⟩:=hN g (h g (.head _))
   by_cases h0:k=0
   ·subst h0;exact⟨[],g::L,rfl,by simp[aO],by simp⟩
   rw[e]at hk hc ⊢
   simp only[List.length_append,List.length_cons]at hk hc
   by_cases h1:k≤(ff N g).length
   ·exfalso
    rcases hc with hc|hc|hc
    ·exact h0 hc
    ·omega
    ·rw[List.getElem?_append_left (by omega)]at hc
     exact h10 (List.mem_of_getElem? hc)
   obtain⟨k2,rfl⟩:∃ k2,k=(ff N g).length+(k2+1):=⟨k-(ff N g).length-1,by omega⟩
   obtain⟨A,B,hL,hA,hB⟩:=HO hN (L:=L) (fun x hx=>h x (.tail _ hx)) k2 (by omega) (by
    by_cases hz:k2=0
    ·exact .inl hz
    rcases hc with hc|hc|hc
    ·omega
    ·right;left;omega
    ·right;right
     rw[List.getElem?_append_right (by omega)]at hc
     rw[show (ff N g).length+(k2+1)-1-(ff N g).length=(k2-1)+1 by omega,List.getElem?_cons_succ]at hc
     exact hc)
   refine⟨g::A,B,by rw[hL];rfl,?_,?_⟩
   ·rw[List.take_append]
    rw[List.take_of_length_le (by omega),show (ff N g).length+(k2+1)-(ff N g).length=k2+1 by omega,List.take_succ_cons,hA]
    simp[aO]
   ·rw[List.drop_append]
    rw[List.drop_of_length_le (by omega),show (ff N g).length+(k2+1)-(ff N g).length=k2+1 by omega,List.drop_succ_cons,hB]
    rfl
end
end
end Go.Proofs.YtbhphjpgjgigpaaGreatDoor.AL
namespace Go.Proofs.YtbhphjpgjgigpaaGreatDoor.AL
noncomputable section
def f0:Str→Option Int:=fun _=>none
def bnd:GL→Int
 | .lab _=>0
 | .br _ _=>4
 | .li _=>2
 | .half _=>4
 | .lwz _=>4
 | .al _=>15
 | .long _=>4
 | .sp n=>2*n
def CX:GL→Option Nat
 | .lab k=>some k
 | _=>none
structure GoodL (L:List GL):Prop where
 ok:∀ g∈L,okG g
 labs:L.filterMap CX=[0,1,2,3]
 sum:(L.map bnd).sum≤1500
 len:L.length≤100
theorem GoodL.lab {L:List GL}(h:GoodL L) {k:Nat}(hk:k<4):.lab k∈L:=by
 have:k∈L.filterMap CX:=by rw[h.labs];have:k=0∨k=1∨k=2∨k=3:=by omega
                           rcases this with rfl|rfl|rfl|rfl<;>decide
 obtain⟨g,hg,he⟩:=List.mem_filterMap.1 this
 cases g<;>simp[CX]at he
 subst he;exact hg
section
variable [Tabs]
variable {N:Nat→Str}{e:En}{g:GL}
theorem HK (hg:okG g) (hx:e.x.2=rsG N g) (hp:0≤e.place) (h2:e.place%2=0):0≤fM f0 e∧fM f0 e≤bnd g∧fM f0 e%2=0:=by
 unfold fM bn sG
 rw[hx]
 cases g with
 | lab k=>simp[rsG,bnd]
 | br o k=>simp only[rsG,bnd];simp;split<;>simp
 | li n=>simp[rsG,bnd,show jo 28=2 from rfl]
 | half k=>simp[rsG,bnd]
 | lwz k=>simp[rsG,bnd,show jo 52=4 from rfl]
 | al j=>
   simp only[okG]at hg
   have hj:j=0∨j=1∨j=2∨j=3:=by omega
   have ev:∀ n:Nat,n≤100→(bi 0 f0 (.num n)).1=n:=fun n hn=>by
    unfold bi dk;rw[if_neg (by omega)]
   rcases hj with rfl|rfl|rfl|rfl
   all_goals
    simp[rsG,bnd,aI,ev 2 (by decide),ev 4 (by decide),ev 8 (by decide),ev 16 (by decide)]
    rw[Int.tmod_eq_emod_of_nonneg hp]
    rw[Int.tmod_eq_emod_of_nonneg (by omega)]
    omega
 | long k=>simp[rsG,bnd]
 | sp n=>
   simp only[okG]at hg
   have:(bi 0 f0 (.num (2*n))).1=2*n:=by unfold bi dk;rw[if_neg (by omega)];simp
   simp[rsG,bnd,aI,this]
   omega
theorem Hv {α:Type}(q:En→α) (h1:∀ e a,q (ny e a)=q e) (f:Str→Option Int):∀ (es:List En) (st:List En×Int),(es.foldl (dx f) st).1.map q=st.1.map q++es.map q
 | [],st=>by simp
 | e::es,st=>by rw[List.foldl_cons,Hv q h1 f es];simp[dx,h1]
theorem I8 {α:Type}(q:En→α) (h1:∀ e a,q (ny e a)=q e) (f:Str→Option Int) (es:List En):(bR f es).1.map q=es.map q:=by
 unfold bR cd
 simp only
 rw[Hv q h1];simp
theorem BQ {α:Type}(q:En→α) (h1:∀ e a,q (ny e a)=q e) (h2:∀ e,q (JI e)=q e) (f:Str→Option Int):∀ (n:Nat) (es:List En),es.countP unG≤n→∃ es',ew f n es=bR f es'∧es'.map q=es.map q∧∀ e∈(ew f n es).1,gZ (ew f n es).2.1 e=false
 | 0,es,hn=>⟨es,rfl,rfl,fun e he=>by
   have hc:(bR f es).1.countP unG=0:=by
    unfold bR cd
    simp only
    rw[qa];simpa using hn
   have:=List.countP_eq_zero.1 hc e he
   unfold unG at this
   unfold gZ
   simp only[Bool.and_eq_true,not_and,Bool.not_eq_true,decide_eq_true_eq]at this
   cases hk:decide (e.x.2.kind=2) with
   | false=>rfl
   | true=>
     have:=this (of_decide_eq_true hk)
     simp at this
     simp[this]⟩
 | n+1,es,hn=>by
   unfold ew
   split
   ·rename_i h
    have hc:(bR f es).1.countP unG=es.countP unG:=by
     unfold bR cd
     simp only
     rw[qa];simp
    have:=w7 h
    obtain⟨es',e1,e2,e3⟩:=BQ q h1 h2 f n ((bR f es).1.map (gD (bR f es).2.1)) (by omega)
    refine⟨es',e1,?_,e3⟩
    rw[e2,List.map_map]
    have:(q ∘ gD (bR f es).2.1)=q:=by
     funext e
     simp only[Function.comp,gD]
     split
     ·exact h2 e
     ·rfl
    rw[this,I8 q h1]
   ·rename_i h
    exact⟨es,rfl,rfl,fun e he=>by
     cases hb:gZ (bR f es).2.1 e with
     | false=>rfl
     | true=>exact absurd (List.any_eq_true.2 ⟨e,he,hb⟩) h⟩
abbrev stE (e:En):RS:=e.x.2
theorem SZ {es:List En}{L:List GL}(h:es.map stE=L.map (rsG N)) {e:En}(he:e∈es):∃ g∈L,e.x.2=rsG N g:=by
 have:stE e∈L.map (rsG N):=by rw[← h];exact List.mem_map.2 ⟨e,he,rfl⟩
 obtain⟨g,hg,hh⟩:=List.mem_map.1 this
 exact⟨g,hg,hh.symm⟩
structure PlI (st:List En×Int):Prop where
 lo:0≤st.2
 ev:st.2%2=0
 all:∀ e∈st.1,0≤e.place∧e.place%2=0∧e.place≤st.2
theorem GZ:∀ (es:List En) (st:List En×Int),PlI st→(∀ e∈es,∃ g,okG g∧e.x.2=rsG N g)→PlI (es.foldl (dx f0) st)
 | [],st,h,_=>h
 | e::es,st,h,he=>by
   rw[List.foldl_cons]
   refine GZ es _ ?_ fun x hx=>he x (.tail _ hx)
   obtain⟨g,hg,hx⟩:=he e (.head _)
   have hb:=HK (e:=ny e st.2) hg hx h.lo h.ev
   refine⟨by simp only[dx];have:=h.lo;omega,by simp only[dx];have:=h.ev;omega,fun x hx=>?_⟩
   simp only[dx,List.mem_append,List.mem_singleton]at hx ⊢
   rcases hx with hx|rfl
   ·have:=h.all x hx;omega
   ·exact⟨h.lo,h.ev,by show st.2≤_;omega⟩
theorem LD:∀ (es:List En) (L:List GL),es.map stE=L.map (rsG N)→(∀ g∈L,okG g)→(∀ e∈es,0≤e.place∧e.place%2=0)→rz f0 es≤(L.map bnd).sum
 | [],[],_,_,_=>by simp[rz]
 | [],g::L,h,_,_=>by simp at h
 | e::es,[],h,_,_=>by simp at h
 | e::es,g::L,h,hL,hp=>by
   simp only[List.map_cons,List.cons.injEq]at h
   have ih:=LD es L h.2 (fun x hx=>hL x (.tail _ hx)) fun x hx=>hp x (.tail _ hx)
   obtain⟨p1,p2⟩:=hp e (.head _)
   have:=(HK (hL g (.head _)) h.1 p1 p2).2.1
   simp only[rz,List.map_cons,List.sum_cons]at ih ⊢
   omega
theorem J0 {es:List En}(h:∀ e∈es,e.x.2.kind≠9):∀ (n:Nat) (f:Str→Option Int),uE es n f=f:=fun n f=>by
 have go:∀ (es:List En),(∀ e∈es,e.x.2.kind≠9)→es.foldl dB (f,false)=(f,false):=fun es=>by
  induction es with
  | nil=>exact fun _=>rfl
  | cons e es ih=>
    intro h
    rw[List.foldl_cons]
    have:dB (f,false) e=(f,false):=by unfold dB;rw[if_neg fun c=>h e (.head _) c.1]
    rw[this]
    exact ih fun x hx=>h x (.tail _ hx)
 cases n with
 | zero=>rfl
 | succ n=>unfold uE ik;rw[go es h];simp
theorem D6 {s:Str}(hs:s≠[]) {P:Int→Prop}:∀ (es:List En) (f:Str→Option Int),((∃ e∈es,e.x.2.lab=s)∨∃ v,f s=some v∧P v)→(∀ e∈es,P e.place)→∃ v,Bo f es s=some v∧P v
 | [],f,h,_=>by
   rcases h with ⟨e,he,_⟩|h
   ·cases he
   ·exact h
 | e::es,f,h,hp=>by
   show ∃ v,Bo (M7 f e) es s=some v∧P v
   refine D6 hs es _ ?_ fun x hx=>hp x (.tail _ hx)
   unfold M7
   by_cases hl:e.x.2.lab=s
   ·right
    rw[if_pos (by rw[hl];exact hs)]
    exact⟨e.place,by unfold upd;rw[if_pos hl.symm],hp e (.head _)⟩
   ·rcases h with ⟨x,hx,hh⟩|⟨v,hv,hh⟩
    ·rcases List.mem_cons.1 hx with rfl|hx
     ·exact (hl hh).elim
     ·exact .inl ⟨x,hx,hh⟩
    ·right
     refine⟨v,?_,hh⟩
     split
     ·unfold upd;rw[if_neg fun c=>hl c.symm];exact hv
     ·exact hv
theorem Ua {g:GL}:(rsG N g).kind≠9:=by cases g<;>simp[rsG]
end
end
end Go.Proofs.YtbhphjpgjgigpaaGreatDoor.AL
namespace Go.Proofs.YtbhphjpgjgigpaaGreatDoor.AL
noncomputable section
structure Nm4 (N:Nat→Str):Prop where
 ne:∀ k,k<4→N k≠[]
 inj:∀ j k,j<4→k<4→N j=N k→j=k
section
variable [Tabs]
variable {N:Nat→Str}{e:En}{g:GL}
theorem yu:∀ (ks:List Str) (vs:List Int) (b:Int),(∀ p∈ks.zip vs,(iA p.1 p.2).isSome=true)→(kI ks vs b).isSome=true
 | [],_,b,_=>by simp[kI]
 | k::ks,[],b,_=>by simp[kI]
 | k::ks,v::vs,b,h=>by
   have h1:=h (k,v) (by simp)
   simp only at h1
   unfold kI
   cases hp:iA k v with
   | none=>rw[hp]at h1;cases h1
   | some n=>exact yu ks vs _ fun p hp=>h p (by simp[hp])
theorem jd {op:Nat}{vs:List Int}(ks:List Str) (hk:cM (aU op)=ks) (hl:ks.length=vs.length) (h:∀ p∈ks.zip vs,(iA p.1 p.2).isSome=true):(fH op vs).isSome=true:=by
 unfold fH
 rw[hk,if_pos hl]
 exact yu _ _ _ h
theorem ME {op:Nat}{v:Int}{k:Str}(hk:cM (aU op)=[k]) (h:(fH op [v]).isSome=true):(iA k v).isSome=true:=by
 unfold fH at h
 rw[hk,if_pos (show [k].length=[v].length from rfl)]at h
 unfold kI at h
 cases hp:iA k v with
 | none=>rw[hp]at h;cases h
 | some n=>rfl
theorem Er {v:Int}{b:Nat}(h1:-(2^b:Nat)≤v) (h2:v<(2^b:Nat)):Av v b=true:=by
 unfold Av;simp only[Bool.and_eq_true,decide_eq_true_eq];exact⟨h1,h2⟩
theorem QB {v:Int}{k:Str}(hk:k=[84,50,52]∨k=[84,49,53]) (h2:v%2=0) (h:-2000≤v∧v≤2000):(iA k v).isSome=true:=by
 have e:v.tmod 2=0:=Int.tmod_eq_zero_of_dvd (Int.dvd_of_emod_eq_zero h2)
 rcases hk with rfl|rfl
 ·show (tP 24 v).isSome=true
  unfold tP;rw[if_pos e,if_pos (Er (by omega) (by omega))];rfl
 ·show (tP 15 v).isSome=true
  unfold tP;rw[if_pos e,if_pos (Er (by omega) (by omega))];rfl
theorem RM {v:Int}(h:-2000≤v∧v≤2000):(iA [83,49,54] v).isSome=true:=by
 show (Sd v).isSome=true
 unfold Sd;rw[if_pos (Er (by omega) (by omega))];rfl
theorem Rs:(List.range 128).all (fun n=>(fH 28 [3,(n:Int)]).isSome)=true:=by kernel_rfl
theorem sk0:cM (aU (gb 0))=[[84,56]]:=by kernel_rfl
theorem sk1:cM (aU (gb 1))=[[84,56]]:=by kernel_rfl
theorem sk2:cM (aU (gb 2))=[[79,49],[73,50],[84,56]]:=by kernel_rfl
theorem gk0:cM (aU (lr 0))=[[84,50,52]]:=by kernel_rfl
theorem gk1:cM (aU (lr 1))=[[84,50,52]]:=by kernel_rfl
theorem gk2:cM (aU (lr 2))=[[79,50],[73,52],[84,49,53]]:=by kernel_rfl
theorem lk:cM (aU 52)=[[68],[83,49,54],[65]]:=by kernel_rfl
theorem k28:cM (aU 28)=[[88],[85,55]]:=by kernel_rfl
theorem evN {here:Int}{F:Str→Option Int}{s:Str}{v:Int}(h:F s=some v) (hv:-2000≤v∧v≤2000):bi here F (.name s)=(v,0):=by
 unfold bi dk;rw[h];simp only;rw[if_neg (by omega)]
theorem evI {here:Int}{F:Str→Option Int}{n:Nat}(h:n≤2000):bi here F (.num n)=((n:Int),0):=by
 unfold bi dk;rw[if_neg (by omega)]
theorem Ue:∀ vs:List Int,vs.map (Prod.fst ∘ fun v=>(v,(0:Int)))=vs
 | []=>rfl
 | v::vs=>by rw[List.map_cons,Ue vs];rfl
theorem SN {here:Int}{F:Str→Option Int}{az:List Ar}{vs:List Int}(h:az.map (iy here F)=vs.map fun v=>(v,0)):aV here F az=(vs,0):=by
 unfold aV
 have hn:az.find? (fun a=>decide ((iy here F a).2≠0))=none:=by
  rw[List.find?_eq_none]
  intro a ha
  have:iy here F a∈vs.map fun v=>(v,(0:Int)):=by rw[← h];exact List.mem_map.2 ⟨a,ha,rfl⟩
  obtain⟨v,_,hv⟩:=List.mem_map.1 this
  rw[← hv];simp
 rw[hn]
 simp only
 have:(az.map fun a=>(iy here F a).1)=(az.map (iy here F)).map Prod.fst:=by rw[List.map_map];rfl
 rw[this,h,List.map_map,Ue]
def oT (place:Int) (v:Nat→Int):GL→List Int
 | .lab _=>[]
 | .br o k=>if o=2 then [1,2,v k] else [v k]
 | .li n=>[3,n]
 | .half k=>[v k,7]
 | .lwz k=>[1,v k,2]
 | .al j=>[2^(j+1)]
 | .long k=>[v k-place]
 | .sp n=>[2*n]
theorem Ta {F:Str→Option Int}{v:Nat→Int}{place:Int}(hg:okG g) (hF:∀ k,k<4→F (N k)=some (v k)∧-2000≤v k∧v k≤2000) (hp:0≤place∧place≤2000):aV place F (rsG N g).args=(oT place v g,0):=by
 have aNv:∀ k,k<4→iy place F (aN (N k))=(v k,0):=fun k hk=>by
  unfold iy aN;rw[if_pos (show (-1:Int)<0 by decide)];exact evN (hF k hk).1 (hF k hk).2
 have aIv:∀ n:Nat,n≤2000→iy place F (aI n)=((n:Int),0):=fun n hn=>by
  unfold iy aI;rw[if_pos (show (-1:Int)<0 by decide)];exact evI hn
 have rg:∀ n:Nat,iy place F ⟨(n:Int),.none⟩=((n:Int),0):=fun n=>by
  unfold iy;rw[if_neg (by simp)]
 refine SN ?_
 cases g with
 | lab k=>rfl
 | br o k=>
   simp only[okG]at hg
   simp only[rsG,oT]
   split
   ·simp only[List.map_cons,List.map_nil];rw[aIv 1 (by decide),aIv 2 (by decide),aNv k hg.2];rfl
   ·simp only[List.map_cons,List.map_nil];rw[aNv k hg.2]
 | li n=>
   simp only[okG]at hg
   simp only[rsG,oT,List.map_cons,List.map_nil]
   rw[show ({ reg:=3,e:=.none }:Ar)=⟨((3:Nat):Int),.none⟩ from rfl,rg,aIv n (by omega)];rfl
 | half k=>
   simp only[okG]at hg
   simp only[rsG,oT,List.map_cons,List.map_nil]
   rw[aNv k hg,aIv 7 (by decide)];rfl
 | lwz k=>
   simp only[okG]at hg
   simp only[rsG,oT,List.map_cons,List.map_nil]
   rw[show ({ reg:=1,e:=.none }:Ar)=⟨((1:Nat):Int),.none⟩ from rfl,show ({ reg:=2,e:=.none }:Ar)=⟨((2:Nat):Int),.none⟩ from rfl,rg,rg,aNv k hg];rfl
 | al j=>
   simp only[okG]at hg
   simp only[rsG,oT,List.map_cons,List.map_nil]
   have hj:j=0∨j=1∨j=2∨j=3:=by omega
   rcases hj with rfl|rfl|rfl|rfl<;>(rw[aIv _ (by decide)];rfl)
 | long k=>
   simp only[okG]at hg
   simp only[rsG,oT,List.map_cons,List.map_nil]
   obtain⟨h1,h2⟩:=hF k hg
   unfold iy
   rw[if_pos (show (-1:Int)<0 by decide)]
   simp only[bi,h1]
   have b1:dk (v k)=(v k,0):=by unfold dk;rw[if_neg (by omega)]
   have b2:dk place=(place,0):=by unfold dk;rw[if_neg (by omega)]
   rw[b1,b2]
   simp only[yn,dk]
   simp
   omega
 | sp n=>
   simp only[okG]at hg
   simp only[rsG,oT,List.map_cons,List.map_nil]
   rw[aIv _ (by omega)];simp
theorem Rn {F:Str→Option Int}{v:Nat→Int}{es:List En}(hg:okG g) (hx:e.x.2=rsG N g) (hF:∀ k,k<4→F (N k)=some (v k)∧0≤v k∧v k≤2000∧v k%2=0) (hp:0≤e.place∧e.place≤2000∧e.place%2=0) (hgr:gZ F e=false):vG F es e=0:=by
 have hv:=Ta (N:=N) (F:=F) (v:=v) (place:=e.place) hg (fun k hk=>⟨(hF k hk).1,by have:=hF k hk;omega,(hF k hk).2.2.1⟩) ⟨hp.1,hp.2.1⟩
 have hev:e.place.tmod 2=0:=Int.tmod_eq_zero_of_dvd (Int.dvd_of_emod_eq_zero hp.2.2)
 unfold vG
 rw[if_neg (fun c=>c.2 hev),hx,hv]
 simp only[ne_eq,not_true_eq_false,if_false]
 rw[if_neg (fun c=>absurd c.1 (by decide))]
 cases g with
 | lab k=>simp[cz,cT,hx,rsG]
 | br o k=>
   simp only[okG]at hg
   obtain⟨h1,h2,h3,h4⟩:=hF k hg.2
   have hc:(fH (bw e) (dt e.place (cM (aU (bw e))) (oT e.place v (.br o k)))).isSome=true:=by
    have hO:o=0∨o=1∨o=2:=by omega
    have hlast:bn e=.name (N k):=by
     unfold bn sG;rw[hx]
     rcases hO with rfl|rfl|rfl<;>rfl
    have hk2:e.x.2.kind=2:=by rw[hx];rfl
    have hop:e.x.2.op=o:=by rw[hx];rfl
    unfold bw
    rw[if_neg (by rw[hk2];decide),hop]
    cases hgw:e.grown with
    | true=>
      simp only[if_true]
      have ht:-2000≤v k-e.place∧v k-e.place≤2000:=by omega
      rcases hO with rfl|rfl|rfl
      ·refine jd [[84,50,52]] gk0 (by rw[gk0];rfl) ?_
       rw[gk0];intro p hp
       simp[oT,dt,nu]at hp;subst hp
       exact QB (.inl rfl) (by omega) ht
      ·refine jd [[84,50,52]] gk1 (by rw[gk1];rfl) ?_
       rw[gk1];intro p hp
       simp[oT,dt,nu]at hp;subst hp
       exact QB (.inl rfl) (by omega) ht
      ·refine jd [[79,50],[73,52],[84,49,53]] gk2 (by rw[gk2];rfl) ?_
       rw[gk2];intro p hp
       simp[oT,dt,nu]at hp
       rcases hp with rfl|rfl|rfl
       ·rfl
       ·rfl
       ·exact QB (.inr rfl) (by omega) ht
    | false=>
      have h8:(iA [84,56] (v k-e.place)).isSome=true:=by
       unfold gZ at hgr
       rw[hgw,hk2,hlast,evN h1 (by omega)]at hgr
       simp at hgr
       exact ME sk0 hgr
      simp only[Bool.false_eq_true,if_false]
      rcases hO with rfl|rfl|rfl
      ·refine jd [[84,56]] sk0 (by rw[sk0];rfl) ?_
       rw[sk0];intro p hp
       simp[oT,dt,nu]at hp;subst hp
       exact h8
      ·refine jd [[84,56]] sk1 (by rw[sk1];rfl) ?_
       rw[sk1];intro p hp
       simp[oT,dt,nu]at hp;subst hp
       exact h8
      ·refine jd [[79,49],[73,50],[84,56]] sk2 (by rw[sk2];rfl) ?_
       rw[sk2];intro p hp
       simp[oT,dt,nu]at hp
       rcases hp with rfl|rfl|rfl
       ·rfl
       ·rfl
       ·exact h8
   rw[if_neg (fun c=>by rw[hc]at c;cases c.2)]
   rw[if_neg (fun c=>by simp[cT,hx,rsG]at c)]
 | li n=>
   simp only[okG]at hg
   have hc:(fH (bw e) (dt e.place (cM (aU (bw e))) (oT e.place v (.li n)))).isSome=true:=by
    have:bw e=28:=by unfold bw;rw[hx];rfl
    rw[this,k28]
    have:=List.all_eq_true.1 Rs n (List.mem_range.2 hg)
    simpa [oT,dt,nu] using this
   rw[if_neg (fun c=>by rw[hc]at c;cases c.2)]
   rw[if_neg (fun c=>by simp[cT,hx,rsG]at c)]
 | half k=>
   simp only[okG]at hg
   obtain⟨h1,h2,h3,h4⟩:=hF k hg
   rw[if_neg (fun c=>by simp[cz,hx,rsG]at c)]
   rw[if_neg]
   rintro ⟨_,c⟩
   simp[rsG,oT,tN,mL]at c
   omega
 | lwz k=>
   simp only[okG]at hg
   obtain⟨h1,h2,h3,h4⟩:=hF k hg
   have hc:(fH (bw e) (dt e.place (cM (aU (bw e))) (oT e.place v (.lwz k)))).isSome=true:=by
    have:bw e=52:=by unfold bw;rw[hx];rfl
    rw[this]
    refine jd [[68],[83,49,54],[65]] lk (by rw[lk];rfl) ?_
    rw[lk];intro p hp
    simp[oT,dt,nu]at hp
    rcases hp with rfl|rfl|rfl
    ·rfl
    ·exact RM (by omega)
    ·rfl
   rw[if_neg (fun c=>by rw[hc]at c;cases c.2)]
   rw[if_neg (fun c=>by simp[cT,hx,rsG]at c)]
 | al j=>
   rw[if_neg (fun c=>by simp[cz,hx,rsG]at c)]
   rw[if_neg (fun c=>by simp[cT,hx,rsG]at c)]
 | long k=>
   simp only[okG]at hg
   obtain⟨h1,h2,h3,h4⟩:=hF k hg
   rw[if_neg (fun c=>by simp[cz,hx,rsG]at c)]
   rw[if_neg]
   rintro ⟨_,c⟩
   simp[rsG,oT,tN,mL]at c
   omega
 | sp n=>
   rw[if_neg (fun c=>by simp[cz,hx,rsG]at c)]
   rw[if_neg (fun c=>by simp[cT,hx,rsG]at c)]
end
end
end Go.Proofs.YtbhphjpgjgigpaaGreatDoor.AL
namespace Go.Proofs.YtbhphjpgjgigpaaGreatDoor.AL
noncomputable section
section
variable [Tabs]
variable {N:Nat→Str}{e:En}{g:GL}{L:List GL}
def uZ (es:List En):List Str:=(es.map fun e=>e.x.2.lab).filter fun s=>decide (s≠[])
theorem F9:∀ (es:List En) (st:TwS),(∀ e∈es,e.x.2.kind≠9)→(uZ es).Nodup→(∀ s∈uZ es,(st.1 s).getD 0≤0)→st.2=[]→(es.foldl twE st).2=[]
 | [],st,_,_,_,h=>h
 | e::es,st,hk,hn,hz,h=>by
   rw[List.foldl_cons]
   have h1:twE st e=twN e st e.x.2.lab:=by
    unfold twE lg;rw[if_neg (hk e (.head _))];rfl
   rw[h1]
   by_cases hl:e.x.2.lab=[]
   ·have h2:twN e st e.x.2.lab=st:=by unfold twN;rw[if_pos hl]
    have h3:uZ (e::es)=uZ es:=by unfold uZ;rw[List.map_cons,List.filter_cons,if_neg (by simp[hl])]
    rw[h2];rw[h3]at hn hz
    exact F9 es st (fun x hx=>hk x (.tail _ hx)) hn hz h
   ·have h3:uZ (e::es)=e.x.2.lab::uZ es:=by unfold uZ;rw[List.map_cons,List.filter_cons,if_pos (by simp[hl])]
    rw[h3]at hn hz
    rw[List.nodup_cons]at hn
    have h0:=hz _ (.head _)
    have h2:twN e st e.x.2.lab=(upd st.1 e.x.2.lab ((st.1 e.x.2.lab).getD 0+1),st.2):=by
     unfold twN;rw[if_neg hl,if_neg (by omega)]
    rw[h2]
    refine F9 es _ (fun x hx=>hk x (.tail _ hx)) hn.2 (fun s hs=>?_) h
    have hne:s≠e.x.2.lab:=fun c=>hn.1 (c ▸ hs)
    simp only[upd,if_neg hne]
    exact hz s (.tail _ hs)
theorem P2 (n4:Nm4 N):∀ (es:List En) (L:List GL),es.map stE=L.map (rsG N)→(∀ g∈L,okG g)→uZ es=(L.filterMap CX).map N
 | [],[],_,_=>rfl
 | [],g::L,h,_=>by simp at h
 | e::es,[],h,_=>by simp at h
 | e::es,g::L,h,hg=>by
   simp only[List.map_cons,List.cons.injEq]at h
   have ih:=P2 n4 es L h.2 fun x hx=>hg x (.tail _ hx)
   have hx:e.x.2=rsG N g:=h.1
   unfold uZ at ih ⊢
   rw[List.map_cons,List.filter_cons,hx]
   cases g with
   | lab k=>
     have hk:k<4:=hg _ (.head _)
     rw[if_pos (show decide ((rsG N (.lab k)).lab≠[])=true from decide_eq_true (n4.ne k hk)),ih]
     rfl
   | _=>rw[if_neg (by simp[rsG]),ih];rfl
theorem UF (hg:okG g) (hx:e.x.2=rsG N g):szD f0 e=[]:=by
 have hb:wq f0 e=false:=by
  cases g with
  | al j=>
    simp only[okG]at hg
    have hlast:bn e=.num (2^(j+1)):=by unfold bn sG;rw[hx];rfl
    have hj:j=0∨j=1∨j=2∨j=3:=by omega
    unfold wq yg
    rw[hlast,hx]
    rcases hj with rfl|rfl|rfl|rfl<;>(rw[evI (by decide)];rfl)
  | sp n=>
    simp only[okG]at hg
    have hlast:bn e=.num (2*n):=by unfold bn sG;rw[hx];rfl
    unfold wq yg
    rw[hlast,hx,evI (by omega)]
    simp[rsG,mA]
    omega
  | _=>unfold wq;rw[hx];simp[rsG]
 unfold szD
 rw[hb];rfl
theorem CY {frags:List Fg}(hD:m7 frags=[]) (hE:(cw frags).map stE=L.map (rsG N)) (G:GoodL L) (n4:Nm4 N):il frags []=[]:=by
 have hf:gj []=f0:=rfl
 have hg:∀ es:List En,es.map stE=L.map (rsG N)→∀ e∈es,∃ g,okG g∧e.x.2=rsG N g:=fun es h e he=>by
  obtain⟨g,h1,h2⟩:=SZ h he
  exact⟨g,G.ok g h1,h2⟩
 have hk:∀ es:List En,es.map stE=L.map (rsG N)→∀ e∈es,e.x.2.kind≠9:=fun es h e he=>by
  obtain⟨g,_,h2⟩:=hg es h e he
  rw[h2];exact Ua
 have hT:qt f0 (cw frags)=[]:=by
  have hl:=P2 n4 _ L hE G.ok
  rw[G.labs]at hl
  unfold qt
  refine F9 _ _ (hk _ hE) ?_ (fun s _=>by simp[tw0,f0]) rfl
  rw[hl]
  simp only[List.map_cons,List.map_nil]
  simp only[List.nodup_cons,List.mem_cons,List.not_mem_nil,or_false,not_or,List.nodup_nil,and_true,not_false_eq_true]
  refine⟨⟨fun c=>?_,fun c=>?_,fun c=>?_⟩,⟨fun c=>?_,fun c=>?_⟩,fun c=>?_⟩
  all_goals (have:=n4.inj _ _ (by decide) (by decide) c;omega)
 have hS:(cw frags).flatMap (szD f0)=[]:=by
  rw[List.flatMap_eq_nil_iff]
  intro e he
  obtain⟨g,h1,h2⟩:=hg _ hE e he
  exact UF h1 h2
 obtain⟨es',e1,e2,e3⟩:=BQ stE (fun _ _=>rfl) (fun _=>rfl) f0 (cw frags).length (cw frags) List.countP_le_length
 have hP:cB frags []=bR f0 es':=by unfold cB;rw[hf];exact e1
 have hes:es'.map stE=L.map (rsG N):=by rw[e2];exact hE
 have hst:(bR f0 es').1.map stE=L.map (rsG N):=by rw[I8 stE (fun _ _=>rfl)];exact hes
 have I:PlI (es'.foldl (dx f0) ([],0)):=GZ es' ([],0) ⟨by simp,by simp,by simp⟩ (hg _ hes)
 have Iall:∀ e∈(bR f0 es').1,0≤e.place∧e.place%2=0∧e.place≤(bR f0 es').2.2:=I.all
 have hsum:(bR f0 es').2.2≤1500:=by
  have h1:(bR f0 es').2.2=rz f0 (bR f0 es').1:=vL f0 es' ([],0) rfl
  have h2:=LD (bR f0 es').1 L hst G.ok fun e he=>⟨(Iall e he).1,(Iall e he).2.1⟩
  have:=G.sum
  omega
 have hF:(bR f0 es').2.1=Bo f0 (bR f0 es').1:=J0 (hk _ hst) _ _
 have hv:∀ k,∃ v:Int,k<4→(bR f0 es').2.1 (N k)=some v∧0≤v∧v≤2000∧v%2=0:=fun k=>by
  by_cases hk4:k<4
  ·have hmem:=G.lab hk4
   have:rsG N (.lab k)∈(bR f0 es').1.map stE:=by rw[hst];exact List.mem_map.2 ⟨_,hmem,rfl⟩
   obtain⟨e,he,hh⟩:=List.mem_map.1 this
   obtain⟨v,h1,h2⟩:=D6 (s:=N k) (n4.ne k hk4) (P:=fun v=>0≤v∧v≤2000∧v%2=0) (bR f0 es').1 f0 (.inl ⟨e,he,by
    have hh:e.x.2=rsG N (.lab k):=hh
    rw[hh];rfl⟩) fun e he=>by have:=Iall e he;exact⟨this.1,by omega,this.2.1⟩
   exact⟨v,fun _=>⟨by rw[hF];exact h1,h2⟩⟩
  ·exact⟨0,fun h=>(hk4 h).elim⟩
 have hC:(bR f0 es').1.flatMap (chD (bR f0 es').2.1 (bR f0 es').1)=[]:=by
  rw[List.flatMap_eq_nil_iff]
  intro e he
  obtain⟨g,h1,h2⟩:=hg _ hst e he
  have hp:=Iall e he
  have hgr:=e3 e (by rw[e1];exact he)
  rw[e1]at hgr
  have:=Rn (es:=(bR f0 es').1) (F:=(bR f0 es').2.1) (v:=fun k=>Classical.choose (hv k)) h1 h2 (fun k hk=>Classical.choose_spec (hv k) hk) ⟨hp.1,by omega,hp.2.1⟩ hgr
  unfold chD
  rw[if_neg (by simp[this])]
 unfold il
 rw[hf,hD,hT,hS,hP,if_neg (by simp),if_neg (by simp),if_neg (by simp),if_neg (by omega),hC]
def jy (e:En):En:=⟨[],(0,e.x.2),e.place,e.grown⟩
theorem yE (f:Str→Option Int):∀ (es:List En) (st:List En×Int),(es.map jy).foldl (dx f) (st.1.map jy,st.2)=((es.foldl (dx f) st).1.map jy,(es.foldl (dx f) st).2)
 | [],st=>rfl
 | e::es,st=>by
   rw[List.map_cons,List.foldl_cons,List.foldl_cons,← yE f es]
   have:dx f (st.1.map jy,st.2) (jy e)=((dx f st e).1.map jy,(dx f st e).2):=by
    simp only[dx,List.map_append,List.map_cons,List.map_nil]
    rfl
   rw[this]
theorem Jb (f:Str→Option Int) (es:List En):Bo f (es.map jy)=Bo f es:=by
 unfold Bo
 rw[List.foldl_map]
 rfl
theorem CH (f:Str→Option Int) (es:List En):ik (es.map jy) f=ik es f:=by
 unfold ik
 rw[List.foldl_map]
 rfl
theorem yi (es:List En):∀ (n:Nat) (f:Str→Option Int),uE (es.map jy) n f=uE es n f
 | 0,f=>rfl
 | n+1,f=>by
   unfold uE
   rw[CH]
   split
   ·exact yi es n _
   ·rfl
theorem C9 (f:Str→Option Int) (es:List En):bR f (es.map jy)=((bR f es).1.map jy,(bR f es).2):=by
 have h:=yE f es ([],0)
 have h:cd f (es.map jy)=((cd f es).1.map jy,(cd f es).2):=h
 unfold bR
 rw[h]
 simp only
 rw[yi,Jb,List.length_map]
theorem yL (f:Str→Option Int):∀ (n:Nat) (es:List En),ew f n (es.map jy)=((ew f n es).1.map jy,(ew f n es).2)
 | 0,es=>C9 f es
 | n+1,es=>by
   unfold ew
   rw[C9]
   simp only
   have h1:((bR f es).1.map jy).any (gZ (bR f es).2.1)=(bR f es).1.any (gZ (bR f es).2.1):=by
    rw[List.any_map];rfl
   have h2:((bR f es).1.map jy).map (gD (bR f es).2.1)=((bR f es).1.map (gD (bR f es).2.1)).map jy:=by
    rw[List.map_map,List.map_map]
    refine List.map_congr_left fun e _=>?_
    simp only[Function.comp]
    have:gZ (bR f es).2.1 (jy e)=gZ (bR f es).2.1 e:=rfl
    unfold gD
    rw[this]
    split<;>rfl
   rw[h1,h2]
   split
   ·exact yL f n _
   ·rfl
def QN (s:RS):En:=⟨[],(0,s),0,false⟩
theorem Kg (frags:List Fg):(cw frags).map jy=((cw frags).map stE).map QN:=by
 rw[List.map_map]
 refine List.map_congr_left fun e he=>?_
 unfold cw rk at he
 obtain⟨x,_,hx⟩:=List.mem_flatMap.1 he
 obtain⟨s,_,rfl⟩:=List.mem_map.1 hx
 rfl
theorem yO (frags:List Fg):qj frags []=(ew f0 (cw frags).length (((cw frags).map stE).map QN)).1.flatMap (kG f0 (ew f0 (cw frags).length (((cw frags).map stE).map QN)).2.1):=by
 rw[← Kg,yL]
 simp only
 rw[List.flatMap_map]
 rfl
theorem Pm {a b:List Fg}(h:(cw a).map stE=(cw b).map stE):qj a []=qj b []:=by
 have hl:(cw a).length=(cw b).length:=by
  have:=congrArg List.length h
  simpa using this
 rw[yO,yO,h,hl]
end
end
end Go.Proofs.YtbhphjpgjgigpaaGreatDoor.AL
namespace Go.Proofs.YtbhphjpgjgigpaaGreatDoor.AL
noncomputable section
structure GI (m:Nat) (b:Int) (c:Nat) (M:List GL):Prop where
 ok:∀ g∈M,okG g
 labs:M.filterMap CX=List.range m
 sum:(M.map bnd).sum≤b
 len:M.length≤c
theorem GI.add {m c:Nat}{b b':Int}{M:List GL}{g:GL}(I:GI m b c M) (hg:okG g) (hl:CX g=none) (hb:b+bnd g≤b'):GI m b' (c+1) (M++[g]):=by
 refine⟨fun x hx=>?_,?_,?_,?_⟩
 ·rcases List.mem_append.1 hx with hx|hx
  ·exact I.ok x hx
  ·simp at hx;subst hx;exact hg
 ·rw[List.filterMap_append,I.labs];simp[hl]
 ·have:=I.sum
  rw[List.map_append,List.sum_append];simp;omega
 ·have:=I.len
  simp;omega
theorem GI.mono {m c c':Nat}{b b':Int}{M:List GL}(I:GI m b c M) (hb:b≤b') (hc:c≤c'):GI m b' c' M:=⟨I.ok,I.labs,by have:=I.sum;omega,by have:=I.len;omega⟩
theorem jv (N:Nat→Str) (M:List GL) (g:GL):aO N (M++[g])=aO N M++ff N g++[10]:=by simp[aO]
def labsL:List Str:=[[97],[98,49],[108,111,111,112],[120]]
def brL:List Str:=[[98,32],[98,108,32],[98,99,32,49,44,32,50,44,32]]
def alL:List Str:=[[50],[52],[56],[49,54]]
section
variable [Tabs]
variable {h h0:ab}{Q:QT}{K:AV→Prop}{next:NT}
theorem ng:qL bH:=KN Mz
theorem tQ (l:List Str) {n k:Nat}(hn:l.length=n) (hk:k<n) (q:∀ p,Pt h p [T ((l[k]?).getD [])]→K p):am 1 (.full n (l.map T)) (I (k:Nat)) K:=by
 have e:∀ l:List Str,l.map T=l.flatMap sE:=fun l=>by
  induction l with
  | nil=>rfl
  | cons a l ih=>rw[List.map_cons,ih];rfl
 have R:Row sE 1 h (.full l.length (l.flatMap sE)) l:=Row.full (enc:=sE) (sz:=1) (h:=h) (fun _=>rfl) l
 rw[e l,← hn]
 refine R.idx (fun _=>rfl) (j:=k) (by omega) fun p t=>q p ?_
 rw[List.getElem?_eq_getElem (by omega)]
 exact t
theorem GI.tlen {m c:Nat}{b:Int}{M:List GL}(I:GI m b c M) (hc:c≤200):(aO bH M).length≤8200:=by
 have:=wS ng I.ok
 have:=I.len
 omega
theorem Gc (k:Nat):((labsL[k]?).getD []).length≤4:=by
 by_cases hk:k<4
 ·have:k=0∨k=1∨k=2∨k=3:=by omega
  rcases this with rfl|rfl|rfl|rfl<;>decide
 ·rw[List.getElem?_eq_none (by show 4≤k;omega)];simp
theorem TJ (k:Nat):((brL[k]?).getD []).length≤9:=by
 by_cases hk:k<3
 ·have:k=0∨k=1∨k=2:=by omega
  rcases this with rfl|rfl|rfl<;>decide
 ·rw[List.getElem?_eq_none (by show 3≤k;omega)];simp
theorem Tm (k:Nat):((alL[k]?).getD []).length≤4:=by
 by_cases hk:k<4
 ·have:k=0∨k=1∨k=2∨k=3:=by omega
  rcases this with rfl|rfl|rfl|rfl<;>decide
 ·rw[List.getElem?_eq_none (by show 4≤k;omega)];simp
theorem JU {n d:Int}(hn:inI n) (hd:d=8∨d=32):inI (n.tdiv d):=by
 rcases hd with rfl|rfl
 ·have:(n.tdiv 8).natAbs=n.natAbs / 8:=by rw[Int.natAbs_tdiv];rfl
  unfold inI at hn ⊢;omega
 ·have:(n.tdiv 32).natAbs=n.natAbs / 32:=by rw[Int.natAbs_tdiv];rfl
  unfold inI at hn ⊢;omega
theorem xR {n:Int}{m:Nat}(hm:0<m):∃ r:Nat,n%(m:Int)=r∧r<m:=by
 obtain⟨r,hr⟩:=Int.eq_ofNat_of_zero_le (Int.emod_nonneg n (show (m:Int)≠0 by omega))
 exact⟨r,hr,by have:=Int.emod_lt_of_pos n (show (0:Int)<m by omega);omega⟩
abbrev S9:AV:=.full 4 (labsL.map T)
theorem Mk {q:Int}{p:AV}{pre x:Str}{l:List Str}{k:Nat}(hl:l.length=4) (hq:inI q) (t:Pt h p [T x]) (hp:pre.length≤10000) (hx:∀ k:Nat,((l[k]?).getD ([]:Str)).length≤4) (hk:k≤1000)
  (kk:∀ r:Nat,r<4→q%4=(r:Nat)→next [T (pre++(l[r]?).getD []++[10]),I ((k+1:Nat):Int)] h):mG (I q) h p (T x) (.full 4 (l.map T)) (T pre) (I (k:Nat)) next:=by
 unfold mG
 refine c9 (by decide) (by decide) hq ⟨aD t rfl,?_⟩
 obtain⟨r,hr,hr4⟩:=xR (n:=q) (m:=4) (by decide)
 have hr:q%4=(r:Nat):=hr
 rw[hr]
 refine tQ l hl hr4 fun p2 t2=>aD t2 ?_
 have:=hx r
 refine ey (by omega) (ey (by simp;omega) (aJ (by omega) ?_))
 exact kk r hr4 hr
theorem F6 {n:Int}{m c k r:Nat}{b:Int}{M:List GL}(I0:GI m b c M) (hc:c≤100) (hn:inI n) (hr:n%8=(r:Nat)) (hr3:r<3) (hk:k≤1000)
  (kk:∀ M' h',GI m (b+19) (c+2) M'→Fr [] h h'→next [T (aO bH M'),I ((k+1:Nat):Int)] h'):eW (B true) (I (r:Nat)) (I n) (T (aO bH M)) (I (k:Nat)) S9 h next:=by
 unfold eW
 refine af (fun _=>?_) (fun h=>by cases h)
 refine aF rfl rfl ?_
 have hq:=JU hn (.inl (rfl:(8:Int)=8))
 refine mc (by decide) hq ?_
 refine c9 (by decide) (by decide) hn ?_
 rw[hr]
 refine tQ (h:=h) brL (n:=3) rfl hr3 fun p t=>aD t ?_
 have hM:=I0.tlen (by omega)
 have hb:=TJ r
 refine ey (by omega) ?_
 refine Mk (l:=labsL) rfl hq t (by simp;omega) Gc hk fun j hj _=>?_
 have e:aO bH M++(brL[r]?).getD []++(labsL[j]?).getD []++[10]=aO bH (M++[.br r j]):=by
  rw[jv];simp[ff,brT,bH,brL,labsL]
 rw[e]
 exact kk _ _ ((I0.add (b':=b+19) (g:=.br r j) ⟨hr3,hj⟩ rfl (by simp[bnd])).mono (Int.le_refl _) (by omega)) (Fr.refl _ _)
theorem Rl {n:Int}{m c k r:Nat}{b:Int}{M:List GL}(I0:GI m b c M) (hc:c≤100) (hn:inI n) (hr:n%8=(r:Nat)) (hr3:3≤r) (hk:k≤1000)
  (kk:∀ M' h',GI m (b+19) (c+2) M'→Fr [] h h'→next [T (aO bH M'),I ((k+1:Nat):Int)] h'):eW (B false) (I (r:Nat)) (I n) (T (aO bH M)) (I (k:Nat)) S9 h next:=by
 unfold eW
 refine af (fun h=>by cases h) (fun _=>?_)
 have hq:=JU hn (.inl (rfl:(8:Int)=8))
 have hM:=I0.tlen (by omega)
 refine aA (af (fun _=>?_) (fun _=>?_))
 ·refine ey (by simp;omega) (mc (by decide) hq ?_)
  refine c9 (by decide) (by decide) hq ?_
  obtain⟨x,hx,hx2⟩:=xR (n:=n.tdiv 8) (m:=128) (by decide)
  have hx:n.tdiv 8%128=(x:Nat):=hx
  rw[hx]
  refine tY 2 x (by omega) (by decide) _ _ fun h1 f1=>?_
  have hd:=pS 3 x
  refine ey (by simp;omega) (ey (by simp;omega) (aJ (by omega) ?_))
  have e:aO bH M++[115,101,95,108,105,32,114,51,44,32]++AX 3 x++[10]=aO bH (M++[.li x]):=by
   rw[jv];simp[ff]
  rw[e]
  exact kk _ _ ((I0.add (b':=b+19) (g:=.li x) hx2 rfl (by simp[bnd])).mono (Int.le_refl _) (by omega)) f1
 obtain⟨j,hj,hj4⟩:=xR (n:=n.tdiv 8) (m:=4) (by decide)
 have hj:n.tdiv 8%4=(j:Nat):=hj
 have hl:=Gc j
 refine aA (af (fun _=>?_) (fun _=>?_))
 ·refine ey (by simp;omega) (mc (by decide) hq ?_)
  refine c9 (by decide) (by decide) hq ?_
  rw[hj]
  refine tQ (h:=h) labsL rfl hj4 fun p t=>aD t ?_
  refine ey (by simp;omega) (ey (by simp;omega) (aJ (by omega) ?_))
  have e:aO bH M++[46,104,97,108,102,32]++(labsL[j]?).getD []++[44,32,55,10]=aO bH (M++[.half j]):=by
   rw[jv];simp[ff,bH,labsL]
  rw[e]
  exact kk _ _ ((I0.add (b':=b+19) (g:=.half j) hj4 rfl (by simp[bnd])).mono (Int.le_refl _) (by omega)) (Fr.refl _ _)
 refine aA (af (fun _=>?_) (fun _=>?_))
 ·refine ey (by simp;omega) (mc (by decide) hq (aF rfl rfl ?_))
  have hq2:=JU hn (.inr (rfl:(32:Int)=32))
  refine mc (by decide) hq2 ?_
  refine c9 (by decide) (by decide) hq ?_
  rw[hj]
  refine tQ (h:=h) labsL rfl hj4 fun p t=>aD t ?_
  refine ey (by simp;omega) (ey (by simp;omega) ?_)
  refine Mk (l:=alL) rfl hq2 t (by simp;omega) Tm hk fun x hx _=>?_
  have e:aO bH M++[101,95,108,119,122,32,114,49,44,32]++(labsL[j]?).getD []++[44,32,114,50,10,46,97,108,105,103,110,32]++(alL[x]?).getD []++[10]=aO bH ((M++[.lwz j])++[.al x]):=by
   rw[jv,jv];simp[ff,bH,labsL,alT,alL]
  rw[e]
  exact kk _ _ ((I0.add (b':=b+4) (g:=.lwz j) hj4 rfl (by simp[bnd])).add (b':=b+19) (g:=.al x) hx rfl (by simp[bnd];omega)) (Fr.refl _ _)
 refine aA (af (fun _=>?_) (fun _=>?_))
 ·refine ey (by simp;omega) (mc (by decide) hq ?_)
  refine c9 (by decide) (by decide) hq ?_
  rw[hj]
  refine tQ (h:=h) labsL rfl hj4 fun p t=>aD t ?_
  refine ey (by simp;omega) (ey (by simp;omega) (aJ (by omega) ?_))
  have e:aO bH M++[46,108,111,110,103,32]++(labsL[j]?).getD []++[32,45,32,46,10]=aO bH (M++[.long j]):=by
   rw[jv];simp[ff,bH,labsL]
  rw[e]
  exact kk _ _ ((I0.add (b':=b+19) (g:=.long j) hj4 rfl (by simp[bnd])).mono (Int.le_refl _) (by omega)) (Fr.refl _ _)
 ·exact aJ (by omega) (kk _ _ (I0.mono (by omega) (by omega)) (Fr.refl _ _))
theorem H5 {n:Int}{m c k:Nat}{b:Int}{M:List GL}(I0:GI m b c M) (hc:c≤100) (hn:inI n) (hk:k≤1000)
  (kk:∀ M' h',GI m (b+19) (c+2) M'→Fr [] h h'→next [T (aO bH M'),I ((k+1:Nat):Int)] h'):lu (I n) (T (aO bH M)) (I (k:Nat)) S9 h next:=by
 unfold lu
 refine c9 (by decide) (by decide) hn ?_
 obtain⟨r,hr,hr8⟩:=xR (n:=n) (m:=8) (by decide)
 have hr:n%8=(r:Nat):=hr
 rw[hr]
 refine aA (af (fun h0=>?_) (fun h0=>?_))
 ·have:=of_decide_eq_true h0
  rw[h0]
  exact F6 I0 hc hn hr (by omega) hk kk
 have h0:=of_decide_eq_false h0
 refine aA (af (fun h1=>?_) (fun h1=>?_))
 ·have:=of_decide_eq_true h1
  rw[h1]
  exact F6 I0 hc hn hr (by omega) hk kk
 have h1:=of_decide_eq_false h1
 refine aA ?_
 by_cases h2:(r:Int)=2
 ·rw[decide_eq_true h2]
  exact F6 I0 hc hn hr (by omega) hk kk
 ·rw[decide_eq_false h2]
  exact Rl I0 hc hn hr (by omega) hk kk
theorem SH {ns sp:List Int}{v1 v2:AV}(hn:∀ n∈ns,inI n) (hs:∀ n∈sp,inI n) (r1:∀ h,Row (fun n:Int=>[I n]) 1 h v1 ns) (r2:∀ h,Row (fun n:Int=>[I n]) 1 h v2 sp)
  (q:∀ L h',GoodL L→Fr [] h h'→Q (.full 1 [T [102],T (aO bH L)]) h'):C qf [v1,v2] h Q:=by
 refine Eo _ _ _ _ ?_
 unfold DE
 refine Al _ _ ?_
 unfold yp
 refine aF rfl rfl ?_
 refine aP (fun f vs h'=>∃ (i:Nat) (M:List GL),vs=[T (aO bH M),I (i:Nat)]∧f+i=4∧GI i (375*i) (20*i) M∧Fr [] h h') 4 ⟨0,[],rfl,rfl,(⟨(fun g hg=>by cases hg),rfl,by simp,by simp⟩:GI 0 _ _ []),Fr.refl _ _⟩ ?_
 rintro f vs h1 ⟨i,M,rfl,hf,I0,f1⟩
 unfold uN
 have hM:=I0.tlen (by omega)
 refine aL (af (fun hb=>?_) (fun hb=>?_))
 ·have hi:i<4:=by have:=of_decide_eq_true hb;omega
  refine tQ (h:=h1) labsL (n:=4) rfl hi fun p t=>aD t ?_
  have hl:=Gc i
  refine ey (by omega) (ey (by simp;omega) ?_)
  have e:aO bH M++(labsL[i]?).getD []++[58,10]=aO bH (M++[.lab i]):=by
   rw[jv];simp[ff,bH,labsL]
  rw[e]
  have I1:GI (i+1) (375*i) (20*i+1) (M++[.lab i]):=by
   refine⟨fun x hx=>?_,?_,?_,?_⟩
   ·rcases List.mem_append.1 hx with hx|hx
    ·exact I0.ok x hx
    ·simp at hx;subst hx;exact hi
   ·rw[List.filterMap_append,I0.labs,List.range_succ];rfl
   ·have:=I0.sum
    rw[List.map_append,List.sum_append];simp[bnd];omega
   ·have:=I0.len
    simp;omega
  refine aP (fun f2 vs h'=>∃ (k:Nat) (M:List GL),vs=[T (aO bH M),I (k:Nat)]∧f2+k=4∧GI (i+1) (375*i+19*k) (20*i+1+2*k) M∧Fr [] h h') 4 ⟨0,_,rfl,rfl,I1.mono (by omega) (by omega),f1⟩ ?_
  rintro f2 vs h2 ⟨k,M2,rfl,hf2,I2,g2⟩
  unfold uJ
  have hM2:=I2.tlen (by omega)
  refine aL (af (fun hb2=>?_) (fun hb2=>?_))
  ·have hk:k<4:=by have:=of_decide_eq_true hb2;omega
   have nx:∀ M' h',GI (i+1) (375*i+19*k+19) (20*i+1+2*k+2) M'→Fr [] h2 h'→∃ m,m<f2∧∃ (k_1:Nat) (M:List GL),[T (aO bH M'),I ((k+1:Nat):Int)]=[T (aO bH M),I (k_1:Nat)]∧m+k_1=4∧GI (i+1) (375*i+19*k_1) (20*i+1+2*k_1) M∧Fr [] h h':=fun M' h' I' f'=>
    ⟨f2-1,by omega,k+1,M',rfl,by omega,I'.mono (by omega) (by omega),g2.trans f' (by simp)⟩
   refine aJ (by omega) (x9 (by omega) (aJ (by omega) ?_))
   refine (r1 h2).len (aL (af (fun hb3=>?_) (fun _=>?_)))
   ·have hlt:4*i+k<ns.length:=by have:=of_decide_eq_true hb3;omega
    refine x9 (by omega) (aJ (by omega) ?_)
    rw[show (4:Int)*(i:Nat)+(k:Nat)=((4*i+k:Nat):Int) by omega]
    refine (r1 h2).idx (fun _=>rfl) hlt fun p t=>aD t ?_
    exact H5 I2 (by omega) (hn _ (List.getElem_mem hlt)) (by omega) nx
   ·exact H5 I2 (by omega) (by unfold inI;omega) (by omega) nx
  ·have hk:k=4:=by have:=of_decide_eq_false hb2;omega
   subst hk
   have fin:∀ M' h',GI (i+1) (375*i+375) (20*i+20) M'→Fr [] h h'→lq (T (aO bH M')) (I (i:Nat)) h' (fun vs' h'=>∃ m,m<f∧∃ (i:Nat) (M:List GL),vs'=[T (aO bH M),I (i:Nat)]∧m+i=4∧GI i (375*i) (20*i) M∧Fr [] h h'):=fun M' h' I' f'=>by
    unfold lq uK
    refine aJ (by omega) ?_
    exact⟨f-1,by omega,i+1,M',rfl,by omega,I'.mono (by omega) (by omega),f'⟩
   refine (r2 h2).len (aL (af (fun hb3=>?_) (fun _=>fin _ _ (I2.mono (by omega) (by omega)) g2)))
   have hlt:i<sp.length:=by have:=of_decide_eq_true hb3;omega
   refine ey (by simp;omega) ?_
   refine (r2 h2).idx (fun _=>rfl) hlt fun p t=>aD t ?_
   refine c9 (by decide) (by decide) (hs _ (List.getElem_mem hlt)) ?_
   obtain⟨x,hx,hx2⟩:=xR (n:=sp[i]) (m:=140) (by decide)
   have hx:sp[i]%140=(x:Nat):=hx
   rw[hx]
   refine x9 (by omega) ?_
   rw[show (2:Int)*(x:Nat)=((2*x:Nat):Int) by omega]
   refine tY 2 (2*x) (by omega) (by decide) _ _ fun h3 f3=>?_
   have hd:=pS 3 (2*x)
   refine ey (by simp;omega) (ey (by simp;omega) ?_)
   have e:aO bH M2++[46,115,112,97,99,101,32]++AX 3 (2*x)++[10]=aO bH (M2++[.sp x]):=by
    rw[jv];simp[ff]
   rw[e]
   exact fin _ _ ((I2.add (b':=375*i+375) (g:=.sp x) hx2 rfl (by simp[bnd];omega)).mono (Int.le_refl _) (by omega)) (g2.trans f3 (by simp))
 ·have hi:i=4:=by have:=of_decide_eq_false hb;omega
  subst hi
  refine aK rfl (aF rfl rfl ?_)
  exact q M _ ⟨I0.ok,I0.labs,by have:=I0.sum;omega,by have:=I0.len;omega⟩ f1
end
end
end Go.Proofs.YtbhphjpgjgigpaaGreatDoor.AL
namespace Go.Proofs.YtbhphjpgjgigpaaGreatDoor.AL
noncomputable section
def N4:Ex→Bool
 | .neg e=>N4 e
 | .bin k a b=>(Nat.ble 5 k&&Nat.ble k 11)&&(N4 a&&N4 b)
 | _=>true
theorem zL:∀ {e:Ex},N4 e=true→okE e
 | .none,_=>trivial
 | .num _,_=>trivial
 | .name _,_=>trivial
 | .here,_=>trivial
 | .neg e,h=>zL (e:=e) h
 | .bin k a b,h=>by
   simp only[N4,Bool.and_eq_true]at h
   exact⟨⟨Nat.le_of_ble_eq_true h.1.1,Nat.le_of_ble_eq_true h.1.2⟩,zL h.2.1,zL h.2.2⟩
def O8 (a b:Bool):Bool:=match a with|true=>b|false=>true
theorem zJ {a b:Bool}(h:O8 a b=true) (ha:a=true):b=true:=by subst ha;exact h
def Sz (x:RS):Bool:=
 O8 (Nat.beq x.kind 1) (Nat.ble (x.op+1) tbl.length&&Nat.ble (cM (aU x.op)).length x.args.length)&&
 (O8 (Nat.beq x.kind 2) (Nat.ble (x.op+1) 3&&(Nat.ble (cM (aU (gb x.op))).length x.args.length&&Nat.ble (cM (aU (lr x.op))).length x.args.length))&&
 (O8 (Nat.ble 3 x.kind) (O8 (!Nat.beq x.kind 6) (!x.args.isEmpty))&&
 (Nat.ble x.kind 9&&(Nat.ble x.args.length 999999999&&(Nat.ble x.text.length 999999999&&
 x.args.all fun a=>N4 a.e&&(Nat.ble (io a.e) 999999&&decide (a.reg<1000)))))))
theorem Ll {x:RS}(h:Sz x=true):WfS x:=by
 unfold Sz at h
 simp only[Bool.and_eq_true]at h
 obtain⟨h1,h2,h3,h4,h5,h6,h7⟩:=h
 refine⟨fun hk=>?_,fun hk=>?_,fun hk hn=>?_,Nat.le_of_ble_eq_true h4,by have:=Nat.le_of_ble_eq_true h5;omega,by have:=Nat.le_of_ble_eq_true h6;omega,fun a ha=>?_⟩
 ·have:=zJ h1 (by rw[hk];rfl)
  simp only[Bool.and_eq_true]at this
  exact⟨Nat.le_of_ble_eq_true this.1,Nat.le_of_ble_eq_true this.2⟩
 ·have:=zJ h2 (by rw[hk];rfl)
  simp only[Bool.and_eq_true]at this
  exact⟨Nat.le_of_ble_eq_true this.1,Nat.le_of_ble_eq_true this.2.1,Nat.le_of_ble_eq_true this.2.2⟩
 ·have:=zJ (zJ h3 (Nat.ble_eq_true_of_le hk)) (by
   cases hb:Nat.beq x.kind 6 with
   | true=>exact (hn (Nat.eq_of_beq_eq_true hb)).elim
   | false=>rfl)
  intro he;rw[he]at this;cases this
 ·have:=List.all_eq_true.1 h7 a ha
  simp only[Bool.and_eq_true,decide_eq_true_eq]at this
  exact⟨zL this.1,by have:=Nat.le_of_ble_eq_true this.2.1;omega,this.2.2⟩
section
variable [Tabs]
def NR (frags:List Fg) (syms:List Sy):Bool:=
 Nat.ble frags.length 999&&(Nat.ble syms.length 999&&(Nat.ble (cw frags).length 99999&&(Nat.ble (m7 frags).length 999999&&((frags.all fun x=>Nat.ble x.2.length 999999)&&(cw frags).all fun e=>Sz e.x.2))))
theorem zC {frags:List Fg}{syms:List Sy}(h:NR frags syms=true):Few frags syms:=by
 unfold NR at h
 simp only[Bool.and_eq_true]at h
 obtain⟨h1,h2,h3,h4,h5,h6⟩:=h
 refine⟨by have:=Nat.le_of_ble_eq_true h1;omega,by have:=Nat.le_of_ble_eq_true h2;omega,by have:=Nat.le_of_ble_eq_true h3;omega,by have:=Nat.le_of_ble_eq_true h4;omega,fun x hx=>?_,fun e he=>Ll (List.all_eq_true.1 h6 e he)⟩
 have:=Nat.le_of_ble_eq_true (List.all_eq_true.1 h5 x hx);omega
variable {h:ab}{Q:QT}{K:AV→Prop}
abbrev Pi:Str:=[103,111,58,32,98,32,103,111]
abbrev GG:Str:=[103,111,58,32,98,32,103,111,10,46,98,121,116,101,32,107]
theorem TO:(NR [] []&&(il [] []).isEmpty&&(qj [] []).isEmpty)=true:=by kernel_rfl
theorem R7:NR [([97],GG)] [([107],7)]=true:=by kernel_rfl
theorem RJ:il [([97],GG)] [([107],7)]=[]:=by kernel_rfl
theorem RP:qj [([97],GG)] [([107],7)]=[232,0,7]:=by kernel_rfl
theorem Sw:NR [([97],[110,111,112])] []=true:=by kernel_rfl
theorem Mf:il [([97],[110,111,112])] []=[([97],1,1)]:=by kernel_rfl
theorem RR:NR [([97],Pi)] []=true:=by kernel_rfl
theorem Sp:il [([97],Pi)] []=[]:=by kernel_rfl
theorem SA:Bz [([97],Pi)] []=[2]:=by kernel_rfl
theorem CM (hF:cg) (hI:fl) (hA:gS) (hL:da) (k:∀ h',Fr [] h h'→Q (B true) h'):C ly [] h Q:=by
 refine CC _ _ ?_
 unfold BE
 have k1:=TO
 simp only[Bool.and_eq_true,List.isEmpty_iff]at k1
 refine lH hF hI hA hL (frags:=[]) (syms:=[]) .nil .nil (zC k1.1.1) (fun hn=>(hn k1.1.2).elim) fun _ h1 f1=>?_
 rw[k1.2]
 refine aw rfl (aw rfl (aK rfl (aF rfl rfl (aK rfl (aF rfl rfl ?_)))))
 refine lH hF hI hA hL (frags:=[([97],GG)]) (syms:=[([107],7)]) (Row.full (enc:=frE) (fun _=>rfl) [([97],GG)]) (Row.full (enc:=syE) (fun _=>rfl) [([107],7)]) (zC R7) (fun hn=>(hn RJ).elim) fun _ h2 f2=>?_
 rw[RP]
 refine aw rfl (aw rfl (aK rfl (aF rfl rfl ?_)))
 refine lH hF hI hA hL (frags:=[([97],[110,111,112])]) (syms:=[]) (Row.full (enc:=frE) (fun _=>rfl) [([97],[110,111,112])]) .nil (zC Sw) (fun _ h3 f3=>?_) (fun hn=>by rw[Mf]at hn;cases hn)
 rw[Mf]
 refine aw rfl (aw rfl (aK rfl (aF rfl rfl ?_)))
 refine QU hF hI hA hL (frags:=[([97],Pi)]) (syms:=[]) (Row.full (enc:=frE) (fun _=>rfl) [([97],Pi)]) .nil (zC RR) (fun hn=>(hn Sp).elim) fun _ h4 f4=>?_
 rw[SA]
 refine aw rfl (aw rfl ?_)
 refine dr (aA (af (fun _=>?_) (fun h=>by cases h)))
 refine eu (aA (af (fun _=>?_) (fun h=>by cases h)))
 refine eu (aA (af (fun _=>?_) (fun h=>by cases h)))
 refine dr (aA (af (fun _=>?_) (fun h=>by cases h)))
 have rb:Row bE 1 h4 (.snap ([232,0,7]:List Int).length (([232,0,7]:List Int).flatMap bE)) [232,0,7]:=Row.snap (enc:=bE) (fun _=>rfl) _
 refine rb.idx (j:=0) (fun _=>rfl) (by decide) fun p t=>?_
 refine aD t (aA (af (fun _=>?_) (fun h=>by cases h)))
 refine rb.idx (j:=2) (fun _=>rfl) (by decide) fun p t=>?_
 refine aD t (aA (af (fun _=>?_) (fun h=>by cases h)))
 have rd:Row dE 3 h4 (.snap ([([97],1,1)]:List Dg).length (([([97],1,1)]:List Dg).flatMap dE)) [([97],1,1)]:=Row.snap (enc:=dE) (fun _=>rfl) _
 refine dr (aA (af (fun _=>?_) (fun h=>by cases h)))
 refine rd.idx (j:=0) (fun _=>rfl) (by decide) fun p t=>?_
 refine F4 t (by decide) fun p2 t2=>?_
 refine aD t2 (aA (af (fun _=>?_) (fun h=>by cases h)))
 refine af (fun _=>?_) (fun h=>by cases h)
 refine dr (aA (af (fun _=>?_) (fun h=>by cases h)))
 have rg:Row iE 1 h4 (.snap ([2]:List Int).length (([2]:List Int).flatMap iE)) [2]:=Row.snap (enc:=iE) (fun _=>rfl) _
 refine rg.idx (j:=0) (fun _=>rfl) (by decide) fun p t=>?_
 refine aD t (aA ?_)
 exact k h4 (((f1.trans f2 (by simp)).trans f3 (by simp)).trans f4 (by simp))
end
end
end Go.Proofs.YtbhphjpgjgigpaaGreatDoor.AL
namespace Go.Proofs.YtbhphjpgjgigpaaGreatDoor.AL
noncomputable section
section
variable [Tabs]
variable {h h0:ab}{Q:QT}{K:AV→Prop}{N:Nat→Str}{L:List GL}
theorem A8:∀ l:List Int,nQ (l.flatMap bE)=some (l.map fun n=>UInt8.ofNat n.toNat)
 | []=>rfl
 | a::l=>by
   rw[List.flatMap_cons]
   show (match nQ (l.flatMap bE) with|some r=>some (UInt8.ofNat a.toNat::r)|none=>none)=_
   rw[A8 l];rfl
theorem Dx {l:List Int}(k:K (T (l.map fun n=>UInt8.ofNat n.toNat))):ia (.snap l.length (l.flatMap bE)) h K:=⟨by
 have r:Row bE 1 h (.snap l.length (l.flatMap bE)) l:=Row.snap (enc:=bE) (sz:=1) (fun _=>rfl) l
 unfold eJ
 rw[if_pos r.1,r.2]
 simp only
 rw[A8]
 exact k⟩
theorem Qf:allG.all (fun g=>Sz (rsG bH g))=true:=by kernel_rfl
theorem S4 {frags:List Fg}(hf:frags.length≤100) (ht:∀ x∈frags,x.2.length≤100000) (hD:m7 frags=[]) (hE:(cw frags).map stE=L.map (rsG bH)) (G:GoodL L):Few frags []:=by
 refine⟨by omega,by simp,?_,by rw[hD];simp,fun x hx=>by have:=ht x hx;omega,fun e he=>?_⟩
 ·have:=congrArg List.length hE
  simp only[List.length_map]at this
  have:=G.len
  omega
 ·obtain⟨g,h1,h2⟩:=SZ hE he
  rw[h2]
  exact Ll (List.all_eq_true.1 Qf g (Ib (G.ok g h1)))
theorem wZ (hN:qL N) (n:Str) (hL:∀ g∈L,okG g):(rk (n,aO N L)).map stE=L.map (rsG N)∧uB (n,aO N L)=[]:=by
 obtain⟨h1,h2⟩:=Ja hN hL
 unfold rk uB
 simp only
 rw[h1,h2,List.map_map]
 exact⟨by
  rw[← Rb N L 0]
  exact List.map_congr_left fun x _=>rfl,rfl⟩
theorem Bp (hF:cg) (hI:fl) (hA:gS) (hL:da) (G:GoodL L) {k:Nat}(hk:k≤(aO bH L).length) (hc:k=0∨k=(aO bH L).length∨(aO bH L)[k-1]?=some 10)
  (q:∀ h',Q (B true) h'):fE (T (aO bH L)) [I (k:Nat)] (.full 1 [T [102],T (aO bH L)]) h Q:=by
 obtain⟨A,C',hL',hA1,hB1⟩:=HO ng G.ok k hk hc
 have okA:∀ g∈A,okG g:=fun g hg=>G.ok g (by rw[hL'];exact List.mem_append_left _ hg)
 have okB:∀ g∈C',okG g:=fun g hg=>G.ok g (by rw[hL'];exact List.mem_append_right _ hg)
 have tl:(aO bH L).length≤4100:=by have:=wS ng G.ok;have:=G.len;omega
 unfold fE
 refine lm (by omega) (by omega) (aK rfl ?_)
 refine ft (by omega) (by omega) (aK rfl (aF rfl rfl ?_))
 simp only[Int.toNat_natCast]
 rw[hA1,hB1]
 have n4:Nm4 bH:=⟨fun k hk=>by
  have:k=0∨k=1∨k=2∨k=3:=by omega
  rcases this with rfl|rfl|rfl|rfl<;>decide,fun j k hj hk e=>by
  have h1:j=0∨j=1∨j=2∨j=3:=by omega
  have h2:k=0∨k=1∨k=2∨k=3:=by omega
  rcases h1 with rfl|rfl|rfl|rfl<;>rcases h2 with rfl|rfl|rfl|rfl<;>first|rfl|(exact absurd e (by decide))⟩
 obtain⟨e1,d1⟩:=wZ ng [102] G.ok
 obtain⟨e2,d2⟩:=wZ ng [97] okA
 obtain⟨e3,d3⟩:=wZ ng [98] okB
 have E1:(cw [([102],aO bH L)]).map stE=L.map (rsG bH):=by unfold cw;simpa using e1
 have D1:m7 [([102],aO bH L)]=[]:=by unfold m7;simpa using d1
 have E2:(cw [([97],aO bH A),([98],aO bH C')]).map stE=L.map (rsG bH):=by
  unfold cw
  simp only[List.flatMap_cons,List.flatMap_nil,List.append_nil,List.map_append]
  rw[e2,e3,hL',List.map_append]
 have D2:m7 [([97],aO bH A),([98],aO bH C')]=[]:=by
  unfold m7
  simp only[List.flatMap_cons,List.flatMap_nil,List.append_nil]
  rw[d2,d3];rfl
 have lA:(aO bH A).length≤4100:=by rw[← hA1,List.length_take];omega
 have lB:(aO bH C').length≤4100:=by rw[← hB1,List.length_drop];omega
 have F1:=S4 (by simp) (fun x hx=>by simp at hx;subst hx;simp only;omega) D1 E1 G
 have F2:=S4 (by simp) (fun x hx=>by simp at hx;rcases hx with rfl|rfl<;>simp only<;>omega) D2 E2 G
 have M1:=CY D1 E1 G n4
 have M2:=CY D2 E2 G n4
 have IM:qj [([102],aO bH L)] []=qj [([97],aO bH A),([98],aO bH C')] []:=Pm (by rw[E1,E2])
 have R1:Row frE 2 h (.full 1 [T [102],T (aO bH L)]) [([102],aO bH L)]:=Row.full (enc:=frE) (sz:=2) (h:=h) (fun _=>rfl) [([102],aO bH L)]
 have R2:∀ h,Row frE 2 h (.full 2 [T [97],T (aO bH A),T [98],T (aO bH C')]) [([97],aO bH A),([98],aO bH C')]:=fun h=>Row.full (enc:=frE) (sz:=2) (h:=h) (fun _=>rfl) [([97],aO bH A),([98],aO bH C')]
 refine lH hF hI hA hL (frags:=[([102],aO bH L)]) (syms:=[]) R1 Row.nil F1 (fun hne=>(hne M1).elim) fun _ h1 f1=>?_
 refine aw rfl (aw rfl ?_)
 refine lH hF hI hA hL (frags:=[([97],aO bH A),([98],aO bH C')]) (syms:=[]) (R2 _) Row.nil F2 (fun hne=>(hne M2).elim) fun _ h2 f2=>?_
 refine aw rfl (aw rfl ?_)
 refine eu (aA (af (fun _=>?_) (fun h=>by simp at h)))
 refine eu (aA (af (fun _=>?_) (fun h=>by simp at h)))
 refine Dx (Dx (be ?_))
 rw[IM,decide_eq_true rfl]
 exact q _
theorem Og (hk:∀ (h:ab) (Q:QT),(∀ h',Fr [] h h'→Q (B true) h')→C ly [] h Q) (hF:cg) (hI:fl) (hA:gS) (hL:da) {ns sp:List Int}{cut:Int}(hn:∀ n∈ns,inI n) (hs:∀ n∈sp,inI n) (hc:inI cut) (q:∀ h',Q (B true) h'):
  C kH [.snap ns.length (ns.flatMap fun n=>[I n]),.snap sp.length (sp.flatMap fun n=>[I n]),I cut] h Q:=by
 refine xB _ _ _ _ _ ?_
 unfold u2
 refine hk _ _ fun h1 f1=>dy (af (fun h=>by cases h) (fun _=>?_))
 have RI:∀ (l:List Int) h,Row (fun n:Int=>[I n]) 1 h (.snap l.length (l.flatMap fun n=>[I n])) l:=fun l h=>Row.snap (enc:=fun n:Int=>[I n]) (sz:=1) (fun _=>rfl) l
 refine SH hn hs (RI ns) (RI sp) fun L h2 G f2=>?_
 have tl:(aO bH L).length≤4100:=by have:=wS ng G.ok;have:=G.len;omega
 have RG:Row frE 2 h2 (.full 1 [T [102],T (aO bH L)]) [([102],aO bH L)]:=Row.full (enc:=frE) (sz:=2) (h:=h2) (fun _=>rfl) [([102],aO bH L)]
 refine RG.idx (fun _=>rfl) (j:=0) (by simp) fun p t=>?_
 refine F4 t (by simp[frE]) fun p t=>?_
 have t:Pt h2 p [T (aO bH L)]:=t
 refine aD t (bz (aJ (by omega) ?_))
 obtain⟨k0,hk0,hk1⟩:=xR (n:=cut) (m:=(aO bH L).length+1) (by omega)
 refine c9 (by omega) (by omega) hc ?_
 rw[show ((aO bH L).length:Int)+1=(((aO bH L).length+1:Nat):Int) by omega,hk0]
 refine aP (fun f vs h'=>∃ k:Nat,vs=[I (k:Nat)]∧f+k=(aO bH L).length) ((aO bH L).length-k0) ⟨k0,rfl,by omega⟩ ?_
 rintro f vs h3 ⟨k,rfl,hf⟩
 unfold oB
 refine bz (aL (af (fun hb=>?_) (fun hb=>?_)))
 ·have hlt:k<(aO bH L).length:=by have:=of_decide_eq_true hb;omega
  refine cH (af (fun hb2=>?_) (fun hb2=>?_))
  ·have hk:0<k:=by have:=of_decide_eq_true hb2;omega
   refine dh (by omega) ?_
   rw[show ((k:Nat):Int)-1=((k-1:Nat):Int) by omega]
   have hlt2:k-1<(aO bH L).length:=by omega
   refine ig hlt2 ?_
   refine cr (af (fun hb3=>?_) (fun hb3=>?_))
   ·refine aJ (by omega) ?_
    exact⟨f-1,by omega,k+1,rfl,by omega⟩
   ·have h10:=of_decide_eq_false hb3
    refine Bp hF hI hA hL G (by omega) (.inr (.inr ?_)) q
    rw[List.getElem?_eq_getElem hlt2]
    congr 1
    have h10:(((aO bH L)[k-1]'hlt2).toNat:Int)=10:=Classical.not_not.1 h10
    have:((aO bH L)[k-1]'hlt2).toNat=10:=by omega
    rw[← UInt8.ofNat_toNat (x:=(aO bH L)[k-1]'hlt2),this]
    rfl
  ·have hk:k=0:=by have:=of_decide_eq_false hb2;omega
   exact Bp hF hI hA hL G (by omega) (.inl hk) q
 ·have hk:k=(aO bH L).length:=by have:=of_decide_eq_false hb;omega
  exact Bp hF hI hA hL G (by omega) (.inr (.inl hk)) q
end
end
end Go.Proofs.YtbhphjpgjgigpaaGreatDoor.AL
namespace Go.Proofs.YtbhphjpgjgigpaaGreatDoor.AL
noncomputable section
variable [Tabs5]
theorem B6 {ns sp:List Int}(z0:ns.length≤maxLen) (w0:∀ x∈ns,(Lit.int .i64 x).wf=true) (z1:sp.length≤maxLen) (w1:∀ x∈sp,(Lit.int .i64 x).wf=true) {c:Int}(w2:-9223372036854775808≤c∧c≤9223372036854775807) {h:ab}{Q:QT}(k:∀ h',Q (B true) h'):C kH [.snap ns.length (ns.map fun n=>.lit (.int .i64 n)),.snap sp.length (sp.map fun n=>.lit (.int .i64 n)),I c] h Q:=by
 have e:∀ ns:List Int,(ns.map fun n=>AV.lit (.int .i64 n))=ns.flatMap fun n=>[I n]:=fun ns=>by
  induction ns with
  | nil=>rfl
  | cons a l ih=>simp[ih]
 have b:∀ l:List Int,(∀ x∈l,(Lit.int .i64 x).wf=true)→∀ x∈l,inI x:=fun l w x hx=>by have:=w x hx;simp only[Lit.wf,Bool.and_eq_true,decide_eq_true_eq]at this;exact this
 rw[e,e]
 exact Og (fun h Q q=>CM IX Ls OT LW q) IX Ls OT LW (b _ w0) (b _ w1) w2 k
