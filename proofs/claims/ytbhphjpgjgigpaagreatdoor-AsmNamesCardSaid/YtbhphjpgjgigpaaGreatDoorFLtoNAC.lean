import Derived.Test.YtbhphjpgjgigpaaGreatDoorF9
import Derived.Test.YtbhphjpgjgigpaaGreatDoorAA13toSC
import Derived.KernelRfl
import Derived.Test.YtbhphjpgjgigpaaGreatDoorAL32toAL34
set_option linter.all false
set_option autoImplicit true
set_option relaxedAutoImplicit true
set_option maxRecDepth 100000

namespace Go.Proofs.YtbhphjpgjgigpaaGreatDoor.AL
noncomputable section
def zp:Nat→Nat→Str
 | 0,_=>[]
 | f+1,n=>if n<10 then [UInt8.ofNat (48+n)] else zp f (n / 10)++zp f (n%10)
theorem nl:∀ f n,(zp f n).length≤2^f
 | 0,_=>by simp[zp]
 | f+1,n=>by
   have h1:=nl f (n / 10)
   have h2:=nl f (n%10)
   have:1≤2^f:=Nat.one_le_two_pow
   unfold zp
   split
   ·simp[Nat.pow_succ];omega
   ·rw[List.length_append,Nat.pow_succ];omega
section
variable [Tabs]
variable {h:ab}{Q:QT}{K:AV→Prop}
theorem NQ {c:Int}(k:K (T [UInt8.ofNat c.toNat])):hZ (.full 1 [.lit (.int .u8 c)]) h K:=⟨k⟩
theorem dL {a n:Int}(hn:0<n) (hn2:n≤1000000000000000000) (ha:-9223372036854775808≤a∧a≤9223372036854775807) (k:Q (I (a%n)) h):C cL [I a,I n] h Q:=by
 refine Ao _ _ _ _ ?_
 unfold y2
 refine pa (by omega) ?_
 have h1:=Int.tmod_lt_of_pos a hn
 have h0:=Int.emod_nonneg a (show n≠0 by omega)
 have h4:=Int.emod_lt_of_pos a hn
 have h3:(a.tmod n=a%n∧0≤a.tmod n)∨(a.tmod n=a%n-n∧a.tmod n<0):=by
  rw[Int.tmod_eq_emod]
  have hab:(n.natAbs:Int)=n:=by omega
  split
  ·exact .inl ⟨by omega,by omega⟩
  ·right;rw[hab];exact⟨rfl,by omega⟩
 refine aP ?_
 refine ag (fun hb=>?_) (fun hb=>?_)<;>simp only[za,zb,zc,zd,ze,zf,zg,zh,zi,u8i,zj,zk,zl]at hb
 ·refine aH (by omega) ?_
  rw[show a.tmod n+n=a%n by omega]
  exact k
 ·rw[← show a.tmod n=a%n by omega]at k
  exact k
theorem pH:∀ (f n:Nat),n<10^(f+1)→f≤9→∀ (h:ab) (Q:QT),(∀ h',Fr [] h h'→Q (T (zp (f+1) n)) h')→C dR [I (n:Nat)] h Q
 | f,n,hn,hf,h,Q,k=>by
   refine BR _ _ _ ?_
   unfold yw
   have hp:(10:Nat)^(f+1)≤10^10:=Nat.pow_le_pow_right (by decide) (by omega)
   have hpw:(10:Nat)^(f+1)=10^f*10:=Nat.pow_succ ..
   unfold zp at k
   refine aP ?_
   refine ag (fun hb=>(by exfalso;first|(simp at hb;done)|(simp at hb;omega)|(revert hb;decide)|omega)) (fun _=>?_)
   refine cy ?_
   refine ag (fun hb=>?_) (fun hb=>?_)<;>simp only[za,zb,zc,zd,ze,zf,zg,zh,zi,u8i,zj,zk,zl]at hb
   ·have hb:10≤n:=by omega
    rw[if_neg (by omega)]at k
    obtain⟨f,rfl⟩:∃ g,f=g+1:=by
     cases f with
     | zero=>simp at hn;omega
     | succ g=>exact⟨g,rfl⟩
    refine mi (by decide) ?_ ?_
    ·rw[Int.tdiv_eq_ediv_of_nonneg (by omega)];omega
    rw[Int.tdiv_eq_ediv_of_nonneg (by omega),show ((n:Nat):Int) / 10=((n / 10:Nat):Int) by omega]
    refine pH f (n / 10) (by omega) (by omega) h _ fun h1 f1=>?_
    refine pa (by decide) ?_
    rw[Int.tmod_eq_emod_of_nonneg (by omega),show ((n:Nat):Int)%10=((n%10:Nat):Int) by omega]
    have h10:10≤10^(f+1):=by rw[Nat.pow_succ];have:=Nat.one_le_pow f 10 (by decide);omega
    refine pH f (n%10) (by omega) (by omega) h1 _ fun h2 f2=>?_
    have l1:=nl (f+1) (n / 10)
    have l2:=nl (f+1) (n%10)
    have l3:2^(f+1)≤2^10:=Nat.pow_le_pow_right (by decide) (by omega)
    refine dS (by omega) ?_
    exact k h2 (f1.trans f2 (by simp))
   ·have hb:n<10:=by omega
    rw[if_pos hb]at k
    refine aH (by omega) ?_
    refine eG ?_
    refine aG rfl rfl ?_
    have hw:IntKind.u8.wrap (48+(n:Nat))=((48+n:Nat):Int):=by
     have:n=0∨n=1∨n=2∨n=3∨n=4∨n=5∨n=6∨n=7∨n=8∨n=9:=by omega
     rcases this with h|h|h|h|h|h|h|h|h|h<;>subst h<;>decide
    rw[hw]
    refine NQ ?_
    exact k h (Fr.refl _ _)
end
end
end Go.Proofs.YtbhphjpgjgigpaaGreatDoor.AL
namespace Go.Proofs.YtbhphjpgjgigpaaGreatDoor.AL
noncomputable section
inductive GL where
 | lab (k:Nat)
 | br (o k:Nat)
 | li (n:Nat)
 | half (k:Nat)
 | lwz (k:Nat)
 | al (j:Nat)
 | long (k:Nat)
 | sp (n:Nat)
def okG:GL→Prop
 | .lab k=>k<4
 | .br o k=>o<3∧k<4
 | .li n=>n<128
 | .half k=>k<4
 | .lwz k=>k<4
 | .al j=>j<4
 | .long k=>k<4
 | .sp n=>n<140
def allG:List GL:=(List.range 4).map .lab++((List.range 3).flatMap fun o=>(List.range 4).map (.br o))++(List.range 128).map .li++(List.range 4).map .half++(List.range 4).map .lwz++(List.range 4).map .al++(List.range 4).map .long++(List.range 140).map .sp
theorem wx {g:GL}(h:okG g):g∈allG:=by
 unfold allG
 cases g<;>simp only[okG]at h<;>simp[h]
def dh (k:Nat):Str:=([[97],[98,49],[108,111,111,112],[120]][k]?).getD []
def kU (k:Nat):Str:=[111,116,104,101,114,95]++zp 1 k
def brT (o:Nat):Str:=([[98,32],[98,108,32],[98,99,32,49,44,32,50,44,32]][o]?).getD []
def alT (j:Nat):Str:=([[50],[52],[56],[49,54]][j]?).getD []
def iT (N:Nat→Str):GL→Str
 | .lab k=>N k++[58]
 | .br o k=>brT o++N k
 | .li n=>[115,101,95,108,105,32,114,51,44,32]++zp 3 n
 | .half k=>[46,104,97,108,102,32]++N k++[44,32,55]
 | .lwz k=>[101,95,108,119,122,32,114,49,44,32]++N k++[44,32,114,50]
 | .al j=>[46,97,108,105,103,110,32]++alT j
 | .long k=>[46,108,111,110,103,32]++N k++[32,45,32,46]
 | .sp n=>[46,115,112,97,99,101,32]++zp 3 (2*n)
def aN (s:Str):Ar:=⟨-1,.name s⟩
def aI (n:Nat):Ar:=⟨-1,.num n⟩
def rsG (N:Nat→Str):GL→RS
 | .lab k=>⟨N k,0,0,[],[]⟩
 | .br o k=>⟨[],2,o,[],if o=2 then [aI 1,aI 2,aN (N k)] else [aN (N k)]⟩
 | .li n=>⟨[],1,28,[],[⟨3,.none⟩,aI n]⟩
 | .half k=>⟨[],4,0,[],[aN (N k),aI 7]⟩
 | .lwz k=>⟨[],1,52,[],[⟨1,.none⟩,aN (N k),⟨2,.none⟩]⟩
 | .al j=>⟨[],7,0,[],[aI (2^(j+1))]⟩
 | .long k=>⟨[],5,0,[],[⟨-1,.bin 6 (.name (N k)) .here⟩]⟩
 | .sp n=>⟨[],8,0,[],[aI (2*n)]⟩
section
variable [Tabs]
def eqS (x:Option (Option RS)) (r:RS):Bool:=match x with
 | some (some s)=>decide (s.lab=r.lab)&&(decide (s.kind=r.kind)&&(decide (s.op=r.op)&&(decide (s.text=r.text)&&decide (s.args=r.args))))
 | _=>false
theorem TV {x:Option (Option RS)}{r:RS}(h:eqS x r=true):x=some (some r):=by
 unfold eqS at h
 split at h
 ·rename_i s
  simp only[Bool.and_eq_true,decide_eq_true_eq]at h
  obtain⟨h1,h2,h3,h4,h5⟩:=h
  cases s;cases r
  simp only at h1 h2 h3 h4 h5
  subst h1 h2 h3 h4 h5
  rfl
 ·cases h
def Gu (N:Nat→Str) (g:GL):Bool:=!(iT N g).contains 10&&(eqS (Gd (iT N g)) (rsG N g)&&decide ((iT N g).length≤40))
theorem OJ:allG.all (Gu dh)=true:=by kernel_rfl
end
end
end Go.Proofs.YtbhphjpgjgigpaaGreatDoor.AL
namespace Go.Proofs.YtbhphjpgjgigpaaGreatDoor.AL
noncomputable section
def bn (N:Nat→Str) (L:List GL):Str:=L.flatMap fun g=>iT N g++[10]
def ixl {α:Type}(f:Str→Nat→List α):Nat→List Str→List α
 | _,[]=>[]
 | i,x::r=>f x i++ixl f (i+1) r
theorem Ru {α:Type}(f:Str→Nat→List α):∀ (ls:List Str) (i:Nat),(List.range ls.length).flatMap (fun j=>f ((ls[j]?).getD []) (i+j))=ixl f i ls
 | [],i=>rfl
 | x::r,i=>by
   rw[List.length_cons,List.range_succ_eq_map,List.flatMap_cons,List.flatMap_map]
   unfold ixl
   rw[← Ru f r (i+1)]
   simp only[Nat.succ_eq_add_one,List.getElem?_cons_zero,List.getElem?_cons_succ,Option.getD_some,Nat.add_zero]
   congr 2
   funext j
   rw[show i+(j+1)=i+1+j by omega]
def stL (N:Nat→Str):Nat→List GL→List Sm
 | _,[]=>[]
 | i,g::r=>(i+1,rsG N g)::stL N (i+1) r
theorem Rh (N:Nat→Str):∀ (L:List GL) (i:Nat),(stL N i L).map (·.2)=L.map (rsG N)
 | [],i=>rfl
 | g::L,i=>by simp[stL,Rh N L]
section
variable [Tabs]
def qr (N:Nat→Str):Prop:=∀ g,okG g→(10∉iT N g)∧Gd (iT N g)=some (some (rsG N g))∧(iT N g).length≤40
theorem AU {N:Nat→Str}(h:allG.all (Gu N)=true):qr N:=fun g hg=>by
 have:=List.all_eq_true.1 h g (wx hg)
 unfold Gu at this
 simp only[Bool.and_eq_true,Bool.not_eq_true',decide_eq_true_eq]at this
 exact⟨by simpa using this.1,TV this.2.1,this.2.2⟩
theorem Bu {N:Nat→Str}(hN:qr N):∀ {L:List GL},(∀ g∈L,okG g)→bM 10 (bn N L)=L.map (iT N)++[[]]
 | [],_=>rfl
 | g::L,h=>by
   unfold bn
   rw[List.flatMap_cons,List.append_assoc,List.singleton_append,rh (hN g (h g (.head _))).1]
   have:=Bu hN (L:=L) fun x hx=>h x (.tail _ hx)
   unfold bn at this
   rw[this];rfl
theorem SJ:Gd []=some none:=by kernel_rfl
theorem Ky {N:Nat→Str}(hN:qr N) {L:List GL}(h:∀ g∈L,okG g):ng (bn N L)=stL N 0 L∧nD (bn N L)=[]:=by
 unfold ng nD yb
 rw[Bu hN h]
 have e:∀ {α:Type} (f:Str→Nat→List α) (ls:List Str),(List.range ls.length).flatMap (fun j=>f ((ls[j]?).getD []) j)=ixl f 0 ls:=fun f ls=>by
  have:=Ru f ls 0
  simpa using this
 rw[e,e]
 have go:∀ (L:List GL) (i:Nat),(∀ g∈L,okG g)→ixl stm i (L.map (iT N)++[[]])=stL N i L∧ixl x7 i (L.map (iT N)++[[]])=[]:=fun L=>by
  induction L with
  | nil=>
    intro i _
    simp only[List.map_nil,List.nil_append,ixl,stL,stm,x7,SJ]
    simp
  | cons g L ih=>
    intro i h
    obtain⟨h1,h2⟩:=ih (i+1) fun x hx=>h x (.tail _ hx)
    have ho:=(hN g (h g (.head _))).2.1
    simp only[List.map_cons,List.cons_append,ixl,stL,stm,x7,ho]
    rw[h1,h2]
    simp
 exact go L 0 h
theorem w7 {N:Nat→Str}(hN:qr N):∀ {L:List GL},(∀ g∈L,okG g)→(bn N L).length≤L.length*41
 | [],_=>by simp[bn]
 | g::L,h=>by
   have:=w7 hN (L:=L) fun x hx=>h x (.tail _ hx)
   have h2:=(hN g (h g (.head _))).2.2
   unfold bn at this ⊢
   rw[List.flatMap_cons,List.length_append,List.length_append]
   simp only[List.length_cons,List.length_nil,Nat.add_mul]
   omega
end
end
end Go.Proofs.YtbhphjpgjgigpaaGreatDoor.AL
namespace Go.Proofs.YtbhphjpgjgigpaaGreatDoor.AL
noncomputable section
def f0:Str→Option Int:=fun _=>none
def bnd:GL→Int
 | .lab _=>0
 | .br _ _=>4
 | .li _=>2
 | .half _=>4
 | .lwz _=>4
 | .al _=>15
 | .long _=>4
 | .sp n=>2*n
def Dy:GL→Option Nat
 | .lab k=>some k
 | _=>none
structure GoodL (L:List GL):Prop where
 ok:∀ g∈L,okG g
 labs:L.filterMap Dy=[0,1,2,3]
 sum:(L.map bnd).sum≤1500
 len:L.length≤100
theorem GoodL.lab {L:List GL}(h:GoodL L) {k:Nat}(hk:k<4):.lab k∈L:=by
 have:k∈L.filterMap Dy:=by rw[h.labs];have:k=0∨k=1∨k=2∨k=3:=by omega
                           rcases this with rfl|rfl|rfl|rfl<;>decide
 obtain⟨g,hg,he⟩:=List.mem_filterMap.1 this
 cases g<;>simp[Dy]at he
 subst he;exact hg
section
variable [Tabs]
variable {N:Nat→Str}{e:En}{g:GL}
theorem Ii (hg:okG g) (hx:e.x.2=rsG N g) (hp:0≤e.place) (h2:e.place%2=0):0≤eW f0 e∧eW f0 e≤bnd g∧eW f0 e%2=0:=by
 unfold eW bm pQ
 rw[hx]
 cases g with
 | lab k=>simp[rsG,bnd]
 | br o k=>simp only[rsG,bnd];simp;split<;>simp
 | li n=>simp[rsG,bnd,show jt 28=2 from rfl]
 | half k=>simp[rsG,bnd]
 | lwz k=>simp[rsG,bnd,show jt 52=4 from rfl]
 | al j=>
   simp only[okG]at hg
   have hj:j=0∨j=1∨j=2∨j=3:=by omega
   have ev:∀ n:Nat,n≤100→(aX 0 f0 (.num n)).1=n:=fun n hn=>by
    unfold aX dn;rw[if_neg (by omega)]
   rcases hj with rfl|rfl|rfl|rfl
   all_goals
    simp[rsG,bnd,aI,ev 2 (by decide),ev 4 (by decide),ev 8 (by decide),ev 16 (by decide)]
    rw[Int.tmod_eq_emod_of_nonneg hp]
    rw[Int.tmod_eq_emod_of_nonneg (by omega)]
    omega
 | long k=>simp[rsG,bnd]
 | sp n=>
   simp only[okG]at hg
   have:(aX 0 f0 (.num (2*n))).1=2*n:=by unfold aX dn;rw[if_neg (by omega)];simp
   simp[rsG,bnd,aI,this]
   omega
theorem HZ {α:Type}(q:En→α) (h1:∀ e a,q (nM e a)=q e) (f:Str→Option Int):∀ (es:List En) (st:List En×Int),(es.foldl (cW f) st).1.map q=st.1.map q++es.map q
 | [],st=>by simp
 | e::es,st=>by rw[List.foldl_cons,HZ q h1 f es];simp[cW,h1]
theorem Ji {α:Type}(q:En→α) (h1:∀ e a,q (nM e a)=q e) (f:Str→Option Int) (es:List En):(bH f es).1.map q=es.map q:=by
 unfold bH bV
 simp only
 rw[HZ q h1];simp
theorem AX {α:Type}(q:En→α) (h1:∀ e a,q (nM e a)=q e) (h2:∀ e,q (Ku e)=q e) (f:Str→Option Int):∀ (n:Nat) (es:List En),es.countP unG≤n→∃ es',dk f n es=bH f es'∧es'.map q=es.map q∧∀ e∈(dk f n es).1,eF (dk f n es).2.1 e=false
 | 0,es,hn=>⟨es,rfl,rfl,fun e he=>by
   have hc:(bH f es).1.countP unG=0:=by
    unfold bH bV
    simp only
    rw[qF];simpa using hn
   have:=List.countP_eq_zero.1 hc e he
   unfold unG at this
   unfold eF
   simp only[Bool.and_eq_true,not_and,Bool.not_eq_true,decide_eq_true_eq]at this
   cases hk:decide (e.x.2.kind=2) with
   | false=>rfl
   | true=>
     have:=this (of_decide_eq_true hk)
     simp at this
     simp[this]⟩
 | n+1,es,hn=>by
   unfold dk
   split
   ·rename_i h
    have hc:(bH f es).1.countP unG=es.countP unG:=by
     unfold bH bV
     simp only
     rw[qF];simp
    have:=xF h
    obtain⟨es',e1,e2,e3⟩:=AX q h1 h2 f n ((bH f es).1.map (fu (bH f es).2.1)) (by omega)
    refine⟨es',e1,?_,e3⟩
    rw[e2,List.map_map]
    have:(q ∘ fu (bH f es).2.1)=q:=by
     funext e
     simp only[Function.comp,fu]
     split
     ·exact h2 e
     ·rfl
    rw[this,Ji q h1]
   ·rename_i h
    exact⟨es,rfl,rfl,fun e he=>by
     cases hb:eF (bH f es).2.1 e with
     | false=>rfl
     | true=>exact absurd (List.any_eq_true.2 ⟨e,he,hb⟩) h⟩
abbrev stE (e:En):RS:=e.x.2
theorem O1 {es:List En}{L:List GL}(h:es.map stE=L.map (rsG N)) {e:En}(he:e∈es):∃ g∈L,e.x.2=rsG N g:=by
 have:stE e∈L.map (rsG N):=by rw[← h];exact List.mem_map.2 ⟨e,he,rfl⟩
 obtain⟨g,hg,hh⟩:=List.mem_map.1 this
 exact⟨g,hg,hh.symm⟩
structure PlI (st:List En×Int):Prop where
 lo:0≤st.2
 ev:st.2%2=0
 all:∀ e∈st.1,0≤e.place∧e.place%2=0∧e.place≤st.2
theorem I3:∀ (es:List En) (st:List En×Int),PlI st→(∀ e∈es,∃ g,okG g∧e.x.2=rsG N g)→PlI (es.foldl (cW f0) st)
 | [],st,h,_=>h
 | e::es,st,h,he=>by
   rw[List.foldl_cons]
   refine I3 es _ ?_ fun x hx=>he x (.tail _ hx)
   obtain⟨g,hg,hx⟩:=he e (.head _)
   have hb:=Ii (e:=nM e st.2) hg hx h.lo h.ev
   refine⟨by simp only[cW];have:=h.lo;omega,by simp only[cW];have:=h.ev;omega,fun x hx=>?_⟩
   simp only[cW,List.mem_append,List.mem_singleton]at hx ⊢
   rcases hx with hx|rfl
   ·have:=h.all x hx;omega
   ·exact⟨h.lo,h.ev,by show st.2≤_;omega⟩
theorem LS:∀ (es:List En) (L:List GL),es.map stE=L.map (rsG N)→(∀ g∈L,okG g)→(∀ e∈es,0≤e.place∧e.place%2=0)→rJ f0 es≤(L.map bnd).sum
 | [],[],_,_,_=>by simp[rJ]
 | [],g::L,h,_,_=>by simp at h
 | e::es,[],h,_,_=>by simp at h
 | e::es,g::L,h,hL,hp=>by
   simp only[List.map_cons,List.cons.injEq]at h
   have ih:=LS es L h.2 (fun x hx=>hL x (.tail _ hx)) fun x hx=>hp x (.tail _ hx)
   obtain⟨p1,p2⟩:=hp e (.head _)
   have:=(Ii (hL g (.head _)) h.1 p1 p2).2.1
   simp only[rJ,List.map_cons,List.sum_cons]at ih ⊢
   omega
theorem vD {es:List En}(h:∀ e∈es,e.x.2.kind≠9):∀ (n:Nat) (f:Str→Option Int),uV es n f=f:=fun n f=>by
 have go:∀ (es:List En),(∀ e∈es,e.x.2.kind≠9)→es.foldl dG (f,false)=(f,false):=fun es=>by
  induction es with
  | nil=>exact fun _=>rfl
  | cons e es ih=>
    intro h
    rw[List.foldl_cons]
    have:dG (f,false) e=(f,false):=by unfold dG;rw[if_neg fun c=>h e (.head _) c.1]
    rw[this]
    exact ih fun x hx=>h x (.tail _ hx)
 cases n with
 | zero=>rfl
 | succ n=>unfold uV im;rw[go es h];simp
theorem Dh {s:Str}(hs:s≠[]) {P:Int→Prop}:∀ (es:List En) (f:Str→Option Int),((∃ e∈es,e.x.2.lab=s)∨∃ v,f s=some v∧P v)→(∀ e∈es,P e.place)→∃ v,vr f es s=some v∧P v
 | [],f,h,_=>by
   rcases h with ⟨e,he,_⟩|h
   ·cases he
   ·exact h
 | e::es,f,h,hp=>by
   show ∃ v,vr (y7 f e) es s=some v∧P v
   refine Dh hs es _ ?_ fun x hx=>hp x (.tail _ hx)
   unfold y7
   by_cases hl:e.x.2.lab=s
   ·right
    rw[if_pos (by rw[hl];exact hs)]
    exact⟨e.place,by unfold upd;rw[if_pos hl.symm],hp e (.head _)⟩
   ·rcases h with ⟨x,hx,hh⟩|⟨v,hv,hh⟩
    ·rcases List.mem_cons.1 hx with rfl|hx
     ·exact (hl hh).elim
     ·exact .inl ⟨x,hx,hh⟩
    ·right
     refine⟨v,?_,hh⟩
     split
     ·unfold upd;rw[if_neg fun c=>hl c.symm];exact hv
     ·exact hv
theorem TB {g:GL}:(rsG N g).kind≠9:=by cases g<;>simp[rsG]
end
end
end Go.Proofs.YtbhphjpgjgigpaaGreatDoor.AL
namespace Go.Proofs.YtbhphjpgjgigpaaGreatDoor.AL
noncomputable section
structure Nm4 (N:Nat→Str):Prop where
 ne:∀ k,k<4→N k≠[]
 inj:∀ j k,j<4→k<4→N j=N k→j=k
section
variable [Tabs]
variable {N:Nat→Str}{e:En}{g:GL}
theorem yF:∀ (ks:List Str) (vs:List Int) (b:Int),(∀ p∈ks.zip vs,(iM p.1 p.2).isSome=true)→(ll ks vs b).isSome=true
 | [],_,b,_=>by simp[ll]
 | k::ks,[],b,_=>by simp[ll]
 | k::ks,v::vs,b,h=>by
   have h1:=h (k,v) (by simp)
   simp only at h1
   unfold ll
   cases hp:iM k v with
   | none=>rw[hp]at h1;cases h1
   | some n=>exact yF ks vs _ fun p hp=>h p (by simp[hp])
theorem ju {op:Nat}{vs:List Int}(ks:List Str) (hk:cS (aZ op)=ks) (hl:ks.length=vs.length) (h:∀ p∈ks.zip vs,(iM p.1 p.2).isSome=true):(fM op vs).isSome=true:=by
 unfold fM
 rw[hk,if_pos hl]
 exact yF _ _ _ h
theorem Nk {op:Nat}{v:Int}{k:Str}(hk:cS (aZ op)=[k]) (h:(fM op [v]).isSome=true):(iM k v).isSome=true:=by
 unfold fM at h
 rw[hk,if_pos (show [k].length=[v].length from rfl)]at h
 unfold ll at h
 cases hp:iM k v with
 | none=>rw[hp]at h;cases h
 | some n=>rfl
theorem Fl {v:Int}{b:Nat}(h1:-(2^b:Nat)≤v) (h2:v<(2^b:Nat)):Bo v b=true:=by
 unfold Bo;simp only[Bool.and_eq_true,decide_eq_true_eq];exact⟨h1,h2⟩
theorem Qm {v:Int}{k:Str}(hk:k=[84,50,52]∨k=[84,49,53]) (h2:v%2=0) (h:-2000≤v∧v≤2000):(iM k v).isSome=true:=by
 have e:v.tmod 2=0:=Int.tmod_eq_zero_of_dvd (Int.dvd_of_emod_eq_zero h2)
 rcases hk with rfl|rfl
 ·show (tP 24 v).isSome=true
  unfold tP;rw[if_pos e,if_pos (Fl (by omega) (by omega))];rfl
 ·show (tP 15 v).isSome=true
  unfold tP;rw[if_pos e,if_pos (Fl (by omega) (by omega))];rfl
theorem R4 {v:Int}(h:-2000≤v∧v≤2000):(iM [83,49,54] v).isSome=true:=by
 show (RZ v).isSome=true
 unfold RZ;rw[if_pos (Fl (by omega) (by omega))];rfl
theorem Ss:(List.range 128).all (fun n=>(fM 28 [3,(n:Int)]).isSome)=true:=by kernel_rfl
theorem sk0:cS (aZ (fD 0))=[[84,56]]:=by kernel_rfl
theorem sk1:cS (aZ (fD 1))=[[84,56]]:=by kernel_rfl
theorem sk2:cS (aZ (fD 2))=[[79,49],[73,50],[84,56]]:=by kernel_rfl
theorem gk0:cS (aZ (lr 0))=[[84,50,52]]:=by kernel_rfl
theorem gk1:cS (aZ (lr 1))=[[84,50,52]]:=by kernel_rfl
theorem gk2:cS (aZ (lr 2))=[[79,50],[73,52],[84,49,53]]:=by kernel_rfl
theorem lk:cS (aZ 52)=[[68],[83,49,54],[65]]:=by kernel_rfl
theorem k28:cS (aZ 28)=[[88],[85,55]]:=by kernel_rfl
theorem evN {here:Int}{F:Str→Option Int}{s:Str}{v:Int}(h:F s=some v) (hv:-2000≤v∧v≤2000):aX here F (.name s)=(v,0):=by
 unfold aX dn;rw[h];simp only;rw[if_neg (by omega)]
theorem evI {here:Int}{F:Str→Option Int}{n:Nat}(h:n≤2000):aX here F (.num n)=((n:Int),0):=by
 unfold aX dn;rw[if_neg (by omega)]
theorem US:∀ vs:List Int,vs.map (Prod.fst ∘ fun v=>(v,(0:Int)))=vs
 | []=>rfl
 | v::vs=>by rw[List.map_cons,US vs];rfl
theorem Sv {here:Int}{F:Str→Option Int}{az:List Ar}{vs:List Int}(h:az.map (fg here F)=vs.map fun v=>(v,0)):aU here F az=(vs,0):=by
 unfold aU
 have hn:az.find? (fun a=>decide ((fg here F a).2≠0))=none:=by
  rw[List.find?_eq_none]
  intro a ha
  have:fg here F a∈vs.map fun v=>(v,(0:Int)):=by rw[← h];exact List.mem_map.2 ⟨a,ha,rfl⟩
  obtain⟨v,_,hv⟩:=List.mem_map.1 this
  rw[← hv];simp
 rw[hn]
 simp only
 have:(az.map fun a=>(fg here F a).1)=(az.map (fg here F)).map Prod.fst:=by rw[List.map_map];rfl
 rw[this,h,List.map_map,US]
def oZ (place:Int) (v:Nat→Int):GL→List Int
 | .lab _=>[]
 | .br o k=>if o=2 then [1,2,v k] else [v k]
 | .li n=>[3,n]
 | .half k=>[v k,7]
 | .lwz k=>[1,v k,2]
 | .al j=>[2^(j+1)]
 | .long k=>[v k-place]
 | .sp n=>[2*n]
theorem TK {F:Str→Option Int}{v:Nat→Int}{place:Int}(hg:okG g) (hF:∀ k,k<4→F (N k)=some (v k)∧-2000≤v k∧v k≤2000) (hp:0≤place∧place≤2000):aU place F (rsG N g).args=(oZ place v g,0):=by
 have aNv:∀ k,k<4→fg place F (aN (N k))=(v k,0):=fun k hk=>by
  unfold fg aN;rw[if_pos (show (-1:Int)<0 by decide)];exact evN (hF k hk).1 (hF k hk).2
 have aIv:∀ n:Nat,n≤2000→fg place F (aI n)=((n:Int),0):=fun n hn=>by
  unfold fg aI;rw[if_pos (show (-1:Int)<0 by decide)];exact evI hn
 have rg:∀ n:Nat,fg place F ⟨(n:Int),.none⟩=((n:Int),0):=fun n=>by
  unfold fg;rw[if_neg (by simp)]
 refine Sv ?_
 cases g with
 | lab k=>rfl
 | br o k=>
   simp only[okG]at hg
   simp only[rsG,oZ]
   split
   ·simp only[List.map_cons,List.map_nil];rw[aIv 1 (by decide),aIv 2 (by decide),aNv k hg.2];rfl
   ·simp only[List.map_cons,List.map_nil];rw[aNv k hg.2]
 | li n=>
   simp only[okG]at hg
   simp only[rsG,oZ,List.map_cons,List.map_nil]
   rw[show ({ reg:=3,e:=.none }:Ar)=⟨((3:Nat):Int),.none⟩ from rfl,rg,aIv n (by omega)];rfl
 | half k=>
   simp only[okG]at hg
   simp only[rsG,oZ,List.map_cons,List.map_nil]
   rw[aNv k hg,aIv 7 (by decide)];rfl
 | lwz k=>
   simp only[okG]at hg
   simp only[rsG,oZ,List.map_cons,List.map_nil]
   rw[show ({ reg:=1,e:=.none }:Ar)=⟨((1:Nat):Int),.none⟩ from rfl,show ({ reg:=2,e:=.none }:Ar)=⟨((2:Nat):Int),.none⟩ from rfl,rg,rg,aNv k hg];rfl
 | al j=>
   simp only[okG]at hg
   simp only[rsG,oZ,List.map_cons,List.map_nil]
   have hj:j=0∨j=1∨j=2∨j=3:=by omega
   rcases hj with rfl|rfl|rfl|rfl<;>(rw[aIv _ (by decide)];rfl)
 | long k=>
   simp only[okG]at hg
   simp only[rsG,oZ,List.map_cons,List.map_nil]
   obtain⟨h1,h2⟩:=hF k hg
   unfold fg
   rw[if_pos (show (-1:Int)<0 by decide)]
   simp only[aX,h1]
   have b1:dn (v k)=(v k,0):=by unfold dn;rw[if_neg (by omega)]
   have b2:dn place=(place,0):=by unfold dn;rw[if_neg (by omega)]
   rw[b1,b2]
   simp only[wJ,dn]
   simp
   omega
 | sp n=>
   simp only[okG]at hg
   simp only[rsG,oZ,List.map_cons,List.map_nil]
   rw[aIv _ (by omega)];simp
theorem R7 {F:Str→Option Int}{v:Nat→Int}{es:List En}(hg:okG g) (hx:e.x.2=rsG N g) (hF:∀ k,k<4→F (N k)=some (v k)∧0≤v k∧v k≤2000∧v k%2=0) (hp:0≤e.place∧e.place≤2000∧e.place%2=0) (hgr:eF F e=false):vO F es e=0:=by
 have hv:=TK (N:=N) (F:=F) (v:=v) (place:=e.place) hg (fun k hk=>⟨(hF k hk).1,by have:=hF k hk;omega,(hF k hk).2.2.1⟩) ⟨hp.1,hp.2.1⟩
 have hev:e.place.tmod 2=0:=Int.tmod_eq_zero_of_dvd (Int.dvd_of_emod_eq_zero hp.2.2)
 unfold vO
 rw[if_neg (fun c=>c.2 hev),hx,hv]
 simp only[ne_eq,not_true_eq_false,if_false]
 rw[if_neg (fun c=>absurd c.1 (by decide))]
 cases g with
 | lab k=>simp[cm,cC,hx,rsG]
 | br o k=>
   simp only[okG]at hg
   obtain⟨h1,h2,h3,h4⟩:=hF k hg.2
   have hc:(fM (bt e) (dx e.place (cS (aZ (bt e))) (oZ e.place v (.br o k)))).isSome=true:=by
    have hO:o=0∨o=1∨o=2:=by omega
    have hlast:bm e=.name (N k):=by
     unfold bm pQ;rw[hx]
     rcases hO with rfl|rfl|rfl<;>rfl
    have hk2:e.x.2.kind=2:=by rw[hx];rfl
    have hop:e.x.2.op=o:=by rw[hx];rfl
    unfold bt
    rw[if_neg (by rw[hk2];decide),hop]
    cases hgw:e.grown with
    | true=>
      simp only[if_true]
      have ht:-2000≤v k-e.place∧v k-e.place≤2000:=by omega
      rcases hO with rfl|rfl|rfl
      ·refine ju [[84,50,52]] gk0 (by rw[gk0];rfl) ?_
       rw[gk0];intro p hp
       simp[oZ,dx,nL]at hp;subst hp
       exact Qm (.inl rfl) (by omega) ht
      ·refine ju [[84,50,52]] gk1 (by rw[gk1];rfl) ?_
       rw[gk1];intro p hp
       simp[oZ,dx,nL]at hp;subst hp
       exact Qm (.inl rfl) (by omega) ht
      ·refine ju [[79,50],[73,52],[84,49,53]] gk2 (by rw[gk2];rfl) ?_
       rw[gk2];intro p hp
       simp[oZ,dx,nL]at hp
       rcases hp with rfl|rfl|rfl
       ·rfl
       ·rfl
       ·exact Qm (.inr rfl) (by omega) ht
    | false=>
      have h8:(iM [84,56] (v k-e.place)).isSome=true:=by
       unfold eF at hgr
       rw[hgw,hk2,hlast,evN h1 (by omega)]at hgr
       simp at hgr
       exact Nk sk0 hgr
      simp only[Bool.false_eq_true,if_false]
      rcases hO with rfl|rfl|rfl
      ·refine ju [[84,56]] sk0 (by rw[sk0];rfl) ?_
       rw[sk0];intro p hp
       simp[oZ,dx,nL]at hp;subst hp
       exact h8
      ·refine ju [[84,56]] sk1 (by rw[sk1];rfl) ?_
       rw[sk1];intro p hp
       simp[oZ,dx,nL]at hp;subst hp
       exact h8
      ·refine ju [[79,49],[73,50],[84,56]] sk2 (by rw[sk2];rfl) ?_
       rw[sk2];intro p hp
       simp[oZ,dx,nL]at hp
       rcases hp with rfl|rfl|rfl
       ·rfl
       ·rfl
       ·exact h8
   rw[if_neg (fun c=>by rw[hc]at c;cases c.2)]
   rw[if_neg (fun c=>by simp[cC,hx,rsG]at c)]
 | li n=>
   simp only[okG]at hg
   have hc:(fM (bt e) (dx e.place (cS (aZ (bt e))) (oZ e.place v (.li n)))).isSome=true:=by
    have:bt e=28:=by unfold bt;rw[hx];rfl
    rw[this,k28]
    have:=List.all_eq_true.1 Ss n (List.mem_range.2 hg)
    simpa [oZ,dx,nL] using this
   rw[if_neg (fun c=>by rw[hc]at c;cases c.2)]
   rw[if_neg (fun c=>by simp[cC,hx,rsG]at c)]
 | half k=>
   simp only[okG]at hg
   obtain⟨h1,h2,h3,h4⟩:=hF k hg
   rw[if_neg (fun c=>by simp[cm,hx,rsG]at c)]
   rw[if_neg]
   rintro ⟨_,c⟩
   simp[rsG,oZ,uc,mU]at c
   omega
 | lwz k=>
   simp only[okG]at hg
   obtain⟨h1,h2,h3,h4⟩:=hF k hg
   have hc:(fM (bt e) (dx e.place (cS (aZ (bt e))) (oZ e.place v (.lwz k)))).isSome=true:=by
    have:bt e=52:=by unfold bt;rw[hx];rfl
    rw[this]
    refine ju [[68],[83,49,54],[65]] lk (by rw[lk];rfl) ?_
    rw[lk];intro p hp
    simp[oZ,dx,nL]at hp
    rcases hp with rfl|rfl|rfl
    ·rfl
    ·exact R4 (by omega)
    ·rfl
   rw[if_neg (fun c=>by rw[hc]at c;cases c.2)]
   rw[if_neg (fun c=>by simp[cC,hx,rsG]at c)]
 | al j=>
   rw[if_neg (fun c=>by simp[cm,hx,rsG]at c)]
   rw[if_neg (fun c=>by simp[cC,hx,rsG]at c)]
 | long k=>
   simp only[okG]at hg
   obtain⟨h1,h2,h3,h4⟩:=hF k hg
   rw[if_neg (fun c=>by simp[cm,hx,rsG]at c)]
   rw[if_neg]
   rintro ⟨_,c⟩
   simp[rsG,oZ,uc,mU]at c
   omega
 | sp n=>
   rw[if_neg (fun c=>by simp[cm,hx,rsG]at c)]
   rw[if_neg (fun c=>by simp[cC,hx,rsG]at c)]
end
end
end Go.Proofs.YtbhphjpgjgigpaaGreatDoor.AL
namespace Go.Proofs.YtbhphjpgjgigpaaGreatDoor.AL
noncomputable section
section
variable [Tabs]
variable {N:Nat→Str}{e:En}{g:GL}{L:List GL}
def vc (es:List En):List Str:=(es.map fun e=>e.x.2.lab).filter fun s=>decide (s≠[])
theorem Gi:∀ (es:List En) (st:TwS),(∀ e∈es,e.x.2.kind≠9)→(vc es).Nodup→(∀ s∈vc es,(st.1 s).getD 0≤0)→st.2=[]→(es.foldl twE st).2=[]
 | [],st,_,_,_,h=>h
 | e::es,st,hk,hn,hz,h=>by
   rw[List.foldl_cons]
   have h1:twE st e=twN e st e.x.2.lab:=by
    unfold twE lu;rw[if_neg (hk e (.head _))];rfl
   rw[h1]
   by_cases hl:e.x.2.lab=[]
   ·have h2:twN e st e.x.2.lab=st:=by unfold twN;rw[if_pos hl]
    have h3:vc (e::es)=vc es:=by unfold vc;rw[List.map_cons,List.filter_cons,if_neg (by simp[hl])]
    rw[h2];rw[h3]at hn hz
    exact Gi es st (fun x hx=>hk x (.tail _ hx)) hn hz h
   ·have h3:vc (e::es)=e.x.2.lab::vc es:=by unfold vc;rw[List.map_cons,List.filter_cons,if_pos (by simp[hl])]
    rw[h3]at hn hz
    rw[List.nodup_cons]at hn
    have h0:=hz _ (.head _)
    have h2:twN e st e.x.2.lab=(upd st.1 e.x.2.lab ((st.1 e.x.2.lab).getD 0+1),st.2):=by
     unfold twN;rw[if_neg hl,if_neg (by omega)]
    rw[h2]
    refine Gi es _ (fun x hx=>hk x (.tail _ hx)) hn.2 (fun s hs=>?_) h
    have hne:s≠e.x.2.lab:=fun c=>hn.1 (c ▸ hs)
    simp only[upd,if_neg hne]
    exact hz s (.tail _ hs)
theorem Pd (n4:Nm4 N):∀ (es:List En) (L:List GL),es.map stE=L.map (rsG N)→(∀ g∈L,okG g)→vc es=(L.filterMap Dy).map N
 | [],[],_,_=>rfl
 | [],g::L,h,_=>by simp at h
 | e::es,[],h,_=>by simp at h
 | e::es,g::L,h,hg=>by
   simp only[List.map_cons,List.cons.injEq]at h
   have ih:=Pd n4 es L h.2 fun x hx=>hg x (.tail _ hx)
   have hx:e.x.2=rsG N g:=h.1
   unfold vc at ih ⊢
   rw[List.map_cons,List.filter_cons,hx]
   cases g with
   | lab k=>
     have hk:k<4:=hg _ (.head _)
     rw[if_pos (show decide ((rsG N (.lab k)).lab≠[])=true from decide_eq_true (n4.ne k hk)),ih]
     rfl
   | _=>rw[if_neg (by simp[rsG]),ih];rfl
theorem U7 (hg:okG g) (hx:e.x.2=rsG N g):szD f0 e=[]:=by
 have hb:xc f0 e=false:=by
  cases g with
  | al j=>
    simp only[okG]at hg
    have hlast:bm e=.num (2^(j+1)):=by unfold bm pQ;rw[hx];rfl
    have hj:j=0∨j=1∨j=2∨j=3:=by omega
    unfold xc yX
    rw[hlast,hx]
    rcases hj with rfl|rfl|rfl|rfl<;>(rw[evI (by decide)];rfl)
  | sp n=>
    simp only[okG]at hg
    have hlast:bm e=.num (2*n):=by unfold bm pQ;rw[hx];rfl
    unfold xc yX
    rw[hlast,hx,evI (by omega)]
    simp[rsG,mu]
    omega
  | _=>unfold xc;rw[hx];simp[rsG]
 unfold szD
 rw[hb];rfl
theorem Dl {frags:List Fg}(hD:mw frags=[]) (hE:(ck frags).map stE=L.map (rsG N)) (G:GoodL L) (n4:Nm4 N):ix frags []=[]:=by
 have hf:gv []=f0:=rfl
 have hg:∀ es:List En,es.map stE=L.map (rsG N)→∀ e∈es,∃ g,okG g∧e.x.2=rsG N g:=fun es h e he=>by
  obtain⟨g,h1,h2⟩:=O1 h he
  exact⟨g,G.ok g h1,h2⟩
 have hk:∀ es:List En,es.map stE=L.map (rsG N)→∀ e∈es,e.x.2.kind≠9:=fun es h e he=>by
  obtain⟨g,_,h2⟩:=hg es h e he
  rw[h2];exact TB
 have hT:qO f0 (ck frags)=[]:=by
  have hl:=Pd n4 _ L hE G.ok
  rw[G.labs]at hl
  unfold qO
  refine Gi _ _ (hk _ hE) ?_ (fun s _=>by simp[tw0,f0]) rfl
  rw[hl]
  simp only[List.map_cons,List.map_nil]
  simp only[List.nodup_cons,List.mem_cons,List.not_mem_nil,or_false,not_or,List.nodup_nil,and_true,not_false_eq_true]
  refine⟨⟨fun c=>?_,fun c=>?_,fun c=>?_⟩,⟨fun c=>?_,fun c=>?_⟩,fun c=>?_⟩
  all_goals (have:=n4.inj _ _ (by decide) (by decide) c;omega)
 have hS:(ck frags).flatMap (szD f0)=[]:=by
  rw[List.flatMap_eq_nil_iff]
  intro e he
  obtain⟨g,h1,h2⟩:=hg _ hE e he
  exact U7 h1 h2
 obtain⟨es',e1,e2,e3⟩:=AX stE (fun _ _=>rfl) (fun _=>rfl) f0 (ck frags).length (ck frags) List.countP_le_length
 have hP:cG frags []=bH f0 es':=by unfold cG;rw[hf];exact e1
 have hes:es'.map stE=L.map (rsG N):=by rw[e2];exact hE
 have hst:(bH f0 es').1.map stE=L.map (rsG N):=by rw[Ji stE (fun _ _=>rfl)];exact hes
 have I:PlI (es'.foldl (cW f0) ([],0)):=I3 es' ([],0) ⟨by simp,by simp,by simp⟩ (hg _ hes)
 have Iall:∀ e∈(bH f0 es').1,0≤e.place∧e.place%2=0∧e.place≤(bH f0 es').2.2:=I.all
 have hsum:(bH f0 es').2.2≤1500:=by
  have h1:(bH f0 es').2.2=rJ f0 (bH f0 es').1:=vI f0 es' ([],0) rfl
  have h2:=LS (bH f0 es').1 L hst G.ok fun e he=>⟨(Iall e he).1,(Iall e he).2.1⟩
  have:=G.sum
  omega
 have hF:(bH f0 es').2.1=vr f0 (bH f0 es').1:=vD (hk _ hst) _ _
 have hv:∀ k,∃ v:Int,k<4→(bH f0 es').2.1 (N k)=some v∧0≤v∧v≤2000∧v%2=0:=fun k=>by
  by_cases hk4:k<4
  ·have hmem:=G.lab hk4
   have:rsG N (.lab k)∈(bH f0 es').1.map stE:=by rw[hst];exact List.mem_map.2 ⟨_,hmem,rfl⟩
   obtain⟨e,he,hh⟩:=List.mem_map.1 this
   obtain⟨v,h1,h2⟩:=Dh (s:=N k) (n4.ne k hk4) (P:=fun v=>0≤v∧v≤2000∧v%2=0) (bH f0 es').1 f0 (.inl ⟨e,he,by
    have hh:e.x.2=rsG N (.lab k):=hh
    rw[hh];rfl⟩) fun e he=>by have:=Iall e he;exact⟨this.1,by omega,this.2.1⟩
   exact⟨v,fun _=>⟨by rw[hF];exact h1,h2⟩⟩
  ·exact⟨0,fun h=>(hk4 h).elim⟩
 have hC:(bH f0 es').1.flatMap (chD (bH f0 es').2.1 (bH f0 es').1)=[]:=by
  rw[List.flatMap_eq_nil_iff]
  intro e he
  obtain⟨g,h1,h2⟩:=hg _ hst e he
  have hp:=Iall e he
  have hgr:=e3 e (by rw[e1];exact he)
  rw[e1]at hgr
  have:=R7 (es:=(bH f0 es').1) (F:=(bH f0 es').2.1) (v:=fun k=>Classical.choose (hv k)) h1 h2 (fun k hk=>Classical.choose_spec (hv k) hk) ⟨hp.1,by omega,hp.2.1⟩ hgr
  unfold chD
  rw[if_neg (by simp[this])]
 unfold ix
 rw[hf,hD,hT,hS,hP,if_neg (by simp),if_neg (by simp),if_neg (by simp),if_neg (by omega),hC]
def jK (e:En):En:=⟨[],(0,e.x.2),e.place,e.grown⟩
theorem yV (f:Str→Option Int):∀ (es:List En) (st:List En×Int),(es.map jK).foldl (cW f) (st.1.map jK,st.2)=((es.foldl (cW f) st).1.map jK,(es.foldl (cW f) st).2)
 | [],st=>rfl
 | e::es,st=>by
   rw[List.map_cons,List.foldl_cons,List.foldl_cons,← yV f es]
   have:cW f (st.1.map jK,st.2) (jK e)=((cW f st e).1.map jK,(cW f st e).2):=by
    simp only[cW,List.map_append,List.map_cons,List.map_nil]
    rfl
   rw[this]
theorem Kc (f:Str→Option Int) (es:List En):vr f (es.map jK)=vr f es:=by
 unfold vr
 rw[List.foldl_map]
 rfl
theorem C2 (f:Str→Option Int) (es:List En):im (es.map jK) f=im es f:=by
 unfold im
 rw[List.foldl_map]
 rfl
theorem yJ (es:List En):∀ (n:Nat) (f:Str→Option Int),uV (es.map jK) n f=uV es n f
 | 0,f=>rfl
 | n+1,f=>by
   unfold uV
   rw[C2]
   split
   ·exact yJ es n _
   ·rfl
theorem Ed (f:Str→Option Int) (es:List En):bH f (es.map jK)=((bH f es).1.map jK,(bH f es).2):=by
 have h:=yV f es ([],0)
 have h:bV f (es.map jK)=((bV f es).1.map jK,(bV f es).2):=h
 unfold bH
 rw[h]
 simp only
 rw[yJ,Kc,List.length_map]
theorem yH (f:Str→Option Int):∀ (n:Nat) (es:List En),dk f n (es.map jK)=((dk f n es).1.map jK,(dk f n es).2)
 | 0,es=>Ed f es
 | n+1,es=>by
   unfold dk
   rw[Ed]
   simp only
   have h1:((bH f es).1.map jK).any (eF (bH f es).2.1)=(bH f es).1.any (eF (bH f es).2.1):=by
    rw[List.any_map];rfl
   have h2:((bH f es).1.map jK).map (fu (bH f es).2.1)=((bH f es).1.map (fu (bH f es).2.1)).map jK:=by
    rw[List.map_map,List.map_map]
    refine List.map_congr_left fun e _=>?_
    simp only[Function.comp]
    have:eF (bH f es).2.1 (jK e)=eF (bH f es).2.1 e:=rfl
    unfold fu
    rw[this]
    split<;>rfl
   rw[h1,h2]
   split
   ·exact yH f n _
   ·rfl
def LZ (s:RS):En:=⟨[],(0,s),0,false⟩
theorem Kx (frags:List Fg):(ck frags).map jK=((ck frags).map stE).map LZ:=by
 rw[List.map_map]
 refine List.map_congr_left fun e he=>?_
 unfold ck rn at he
 obtain⟨x,_,hx⟩:=List.mem_flatMap.1 he
 obtain⟨s,_,rfl⟩:=List.mem_map.1 hx
 rfl
theorem yL (frags:List Fg):qL frags []=(dk f0 (ck frags).length (((ck frags).map stE).map LZ)).1.flatMap (gz f0 (dk f0 (ck frags).length (((ck frags).map stE).map LZ)).2.1):=by
 rw[← Kx,yH]
 simp only
 rw[List.flatMap_map]
 rfl
end
end
end Go.Proofs.YtbhphjpgjgigpaaGreatDoor.AL
namespace Go.Proofs.YtbhphjpgjgigpaaGreatDoor.AL
noncomputable section
structure GI (m:Nat) (b:Int) (c:Nat) (M:List GL):Prop where
 ok:∀ g∈M,okG g
 labs:M.filterMap Dy=List.range m
 sum:(M.map bnd).sum≤b
 len:M.length≤c
theorem GI.add {m c:Nat}{b b':Int}{M:List GL}{g:GL}(I:GI m b c M) (hg:okG g) (hl:Dy g=none) (hb:b+bnd g≤b'):GI m b' (c+1) (M++[g]):=by
 refine⟨fun x hx=>?_,?_,?_,?_⟩
 ·rcases List.mem_append.1 hx with hx|hx
  ·exact I.ok x hx
  ·simp at hx;subst hx;exact hg
 ·rw[List.filterMap_append,I.labs];simp[hl]
 ·have:=I.sum
  rw[List.map_append,List.sum_append];simp;omega
 ·have:=I.len
  simp;omega
theorem GI.mono {m c c':Nat}{b b':Int}{M:List GL}(I:GI m b c M) (hb:b≤b') (hc:c≤c'):GI m b' c' M:=⟨I.ok,I.labs,by have:=I.sum;omega,by have:=I.len;omega⟩
theorem jN (N:Nat→Str) (M:List GL) (g:GL):bn N (M++[g])=bn N M++iT N g++[10]:=by simp[bn]
def labsL:List Str:=[[97],[98,49],[108,111,111,112],[120]]
def brL:List Str:=[[98,32],[98,108,32],[98,99,32,49,44,32,50,44,32]]
def alL:List Str:=[[50],[52],[56],[49,54]]
section
variable [Tabs]
variable {h h0:ab}{Q:QT}{K:AV→Prop}{next:NT}
theorem Ca:qr dh:=AU OJ
theorem qE (l:List Str) {n k:Nat}(hn:l.length=n) (hk:k<n) (q:∀ p,Pt h p [T ((l[k]?).getD [])]→K p):ao 1 (.full n (l.map T)) (I (k:Nat)) K:=by
 have e:∀ l:List Str,l.map T=l.flatMap sE:=fun l=>by
  induction l with
  | nil=>rfl
  | cons a l ih=>rw[List.map_cons,ih];rfl
 have R:Row sE 1 h (.full l.length (l.flatMap sE)) l:=Row.full (enc:=sE) (sz:=1) (h:=h) (fun _=>rfl) l
 rw[e l,← hn]
 refine R.idx (fun _=>rfl) (j:=k) (by omega) fun p t=>q p ?_
 rw[List.getElem?_eq_getElem (by omega)]
 exact t
theorem GI.tlen {m c:Nat}{b:Int}{M:List GL}(I:GI m b c M) (hc:c≤200):(bn dh M).length≤8200:=by
 have:=w7 Ca I.ok
 have:=I.len
 omega
theorem zO (k:Nat):((labsL[k]?).getD []).length≤4:=by
 by_cases hk:k<4
 ·have:k=0∨k=1∨k=2∨k=3:=by omega
  rcases this with rfl|rfl|rfl|rfl<;>decide
 ·rw[List.getElem?_eq_none (by show 4≤k;omega)];simp
theorem T6 (k:Nat):((brL[k]?).getD []).length≤9:=by
 by_cases hk:k<3
 ·have:k=0∨k=1∨k=2:=by omega
  rcases this with rfl|rfl|rfl<;>decide
 ·rw[List.getElem?_eq_none (by show 3≤k;omega)];simp
theorem T0 (k:Nat):((alL[k]?).getD []).length≤4:=by
 by_cases hk:k<4
 ·have:k=0∨k=1∨k=2∨k=3:=by omega
  rcases this with rfl|rfl|rfl|rfl<;>decide
 ·rw[List.getElem?_eq_none (by show 4≤k;omega)];simp
theorem JD {n d:Int}(hn:inI n) (hd:d=8∨d=32):inI (n.tdiv d):=by
 rcases hd with rfl|rfl
 ·have:(n.tdiv 8).natAbs=n.natAbs / 8:=by rw[Int.natAbs_tdiv];rfl
  unfold inI at hn ⊢;omega
 ·have:(n.tdiv 32).natAbs=n.natAbs / 32:=by rw[Int.natAbs_tdiv];rfl
  unfold inI at hn ⊢;omega
theorem Ch {n:Int}{m:Nat}(hm:0<m):∃ r:Nat,n%(m:Int)=r∧r<m:=by
 obtain⟨r,hr⟩:=Int.eq_ofNat_of_zero_le (Int.emod_nonneg n (show (m:Int)≠0 by omega))
 exact⟨r,hr,by have:=Int.emod_lt_of_pos n (show (0:Int)<m by omega);omega⟩
abbrev T9:AV:=.full 4 (labsL.map T)
theorem Mo {q:Int}{p:AV}{pre x:Str}{l:List Str}{k:Nat}(hl:l.length=4) (hq:inI q) (t:Pt h p [T x]) (hp:pre.length≤10000) (hx:∀ k:Nat,((l[k]?).getD ([]:Str)).length≤4) (hk:k≤1000)
  (kk:∀ r:Nat,r<4→q%4=(r:Nat)→next [T (pre++(l[r]?).getD []++[10]),I ((k+1:Nat):Int)] h):mS (I q) h p (T x) (.full 4 (l.map T)) (T pre) (I (k:Nat)) next:=by
 unfold mS
 refine dL (by decide) (by decide) hq ⟨aE t rfl,?_⟩
 obtain⟨r,hr,hr4⟩:=Ch (n:=q) (m:=4) (by decide)
 have hr:q%4=(r:Nat):=hr
 rw[hr]
 refine qE l hl hr4 fun p2 t2=>aE t2 ?_
 have:=hx r
 refine dS (by omega) (dS (by simp;omega) (aH (by omega) ?_))
 exact kk r hr4 hr
theorem FF {n:Int}{m c k r:Nat}{b:Int}{M:List GL}(I0:GI m b c M) (hc:c≤100) (hn:inI n) (hr:n%8=(r:Nat)) (hr3:r<3) (hk:k≤1000)
  (kk:∀ M' h',GI m (b+19) (c+2) M'→Fr [] h h'→next [T (bn dh M'),I ((k+1:Nat):Int)] h'):fj (B true) (I (r:Nat)) (I n) (T (bn dh M)) (I (k:Nat)) T9 h next:=by
 unfold fj
 refine ag (fun _=>?_) (fun h=>by cases h)
 refine aG rfl rfl ?_
 have hq:=JD hn (.inl (rfl:(8:Int)=8))
 refine mi (by decide) hq ?_
 refine dL (by decide) (by decide) hn ?_
 rw[hr]
 refine qE (h:=h) brL (n:=3) rfl hr3 fun p t=>aE t ?_
 have hM:=I0.tlen (by omega)
 have hb:=T6 r
 refine dS (by omega) ?_
 refine Mo (l:=labsL) rfl hq t (by simp;omega) zO hk fun j hj _=>?_
 have e:bn dh M++(brL[r]?).getD []++(labsL[j]?).getD []++[10]=bn dh (M++[.br r j]):=by
  rw[jN];simp[iT,brT,dh,brL,labsL]
 rw[e]
 exact kk _ _ ((I0.add (b':=b+19) (g:=.br r j) ⟨hr3,hj⟩ rfl (by simp[bnd])).mono (Int.le_refl _) (by omega)) (Fr.refl _ _)
theorem SP {n:Int}{m c k r:Nat}{b:Int}{M:List GL}(I0:GI m b c M) (hc:c≤100) (hn:inI n) (hr:n%8=(r:Nat)) (hr3:3≤r) (hk:k≤1000)
  (kk:∀ M' h',GI m (b+19) (c+2) M'→Fr [] h h'→next [T (bn dh M'),I ((k+1:Nat):Int)] h'):fj (B false) (I (r:Nat)) (I n) (T (bn dh M)) (I (k:Nat)) T9 h next:=by
 unfold fj
 refine ag (fun h=>by cases h) (fun _=>?_)
 have hq:=JD hn (.inl (rfl:(8:Int)=8))
 have hM:=I0.tlen (by omega)
 refine aB (ag (fun _=>?_) (fun _=>?_))
 ·refine dS (by simp;omega) (mi (by decide) hq ?_)
  refine dL (by decide) (by decide) hq ?_
  obtain⟨x,hx,hx2⟩:=Ch (n:=n.tdiv 8) (m:=128) (by decide)
  have hx:n.tdiv 8%128=(x:Nat):=hx
  rw[hx]
  refine pH 2 x (by omega) (by decide) _ _ fun h1 f1=>?_
  have hd:=nl 3 x
  refine dS (by simp;omega) (dS (by simp;omega) (aH (by omega) ?_))
  have e:bn dh M++[115,101,95,108,105,32,114,51,44,32]++zp 3 x++[10]=bn dh (M++[.li x]):=by
   rw[jN];simp[iT]
  rw[e]
  exact kk _ _ ((I0.add (b':=b+19) (g:=.li x) hx2 rfl (by simp[bnd])).mono (Int.le_refl _) (by omega)) f1
 obtain⟨j,hj,hj4⟩:=Ch (n:=n.tdiv 8) (m:=4) (by decide)
 have hj:n.tdiv 8%4=(j:Nat):=hj
 have hl:=zO j
 refine aB (ag (fun _=>?_) (fun _=>?_))
 ·refine dS (by simp;omega) (mi (by decide) hq ?_)
  refine dL (by decide) (by decide) hq ?_
  rw[hj]
  refine qE (h:=h) labsL rfl hj4 fun p t=>aE t ?_
  refine dS (by simp;omega) (dS (by simp;omega) (aH (by omega) ?_))
  have e:bn dh M++[46,104,97,108,102,32]++(labsL[j]?).getD []++[44,32,55,10]=bn dh (M++[.half j]):=by
   rw[jN];simp[iT,dh,labsL]
  rw[e]
  exact kk _ _ ((I0.add (b':=b+19) (g:=.half j) hj4 rfl (by simp[bnd])).mono (Int.le_refl _) (by omega)) (Fr.refl _ _)
 refine aB (ag (fun _=>?_) (fun _=>?_))
 ·refine dS (by simp;omega) (mi (by decide) hq (aG rfl rfl ?_))
  have hq2:=JD hn (.inr (rfl:(32:Int)=32))
  refine mi (by decide) hq2 ?_
  refine dL (by decide) (by decide) hq ?_
  rw[hj]
  refine qE (h:=h) labsL rfl hj4 fun p t=>aE t ?_
  refine dS (by simp;omega) (dS (by simp;omega) ?_)
  refine Mo (l:=alL) rfl hq2 t (by simp;omega) T0 hk fun x hx _=>?_
  have e:bn dh M++[101,95,108,119,122,32,114,49,44,32]++(labsL[j]?).getD []++[44,32,114,50,10,46,97,108,105,103,110,32]++(alL[x]?).getD []++[10]=bn dh ((M++[.lwz j])++[.al x]):=by
   rw[jN,jN];simp[iT,dh,labsL,alT,alL]
  rw[e]
  exact kk _ _ ((I0.add (b':=b+4) (g:=.lwz j) hj4 rfl (by simp[bnd])).add (b':=b+19) (g:=.al x) hx rfl (by simp[bnd];omega)) (Fr.refl _ _)
 refine aB (ag (fun _=>?_) (fun _=>?_))
 ·refine dS (by simp;omega) (mi (by decide) hq ?_)
  refine dL (by decide) (by decide) hq ?_
  rw[hj]
  refine qE (h:=h) labsL rfl hj4 fun p t=>aE t ?_
  refine dS (by simp;omega) (dS (by simp;omega) (aH (by omega) ?_))
  have e:bn dh M++[46,108,111,110,103,32]++(labsL[j]?).getD []++[32,45,32,46,10]=bn dh (M++[.long j]):=by
   rw[jN];simp[iT,dh,labsL]
  rw[e]
  exact kk _ _ ((I0.add (b':=b+19) (g:=.long j) hj4 rfl (by simp[bnd])).mono (Int.le_refl _) (by omega)) (Fr.refl _ _)
 ·exact aH (by omega) (kk _ _ (I0.mono (by omega) (by omega)) (Fr.refl _ _))
theorem H6 {n:Int}{m c k:Nat}{b:Int}{M:List GL}(I0:GI m b c M) (hc:c≤100) (hn:inI n) (hk:k≤1000)
  (kk:∀ M' h',GI m (b+19) (c+2) M'→Fr [] h h'→next [T (bn dh M'),I ((k+1:Nat):Int)] h'):lx (I n) (T (bn dh M)) (I (k:Nat)) T9 h next:=by
 unfold lx
 refine dL (by decide) (by decide) hn ?_
 obtain⟨r,hr,hr8⟩:=Ch (n:=n) (m:=8) (by decide)
 have hr:n%8=(r:Nat):=hr
 rw[hr]
 refine aB (ag (fun h0=>?_) (fun h0=>?_))
 ·have:=of_decide_eq_true h0
  rw[h0]
  exact FF I0 hc hn hr (by omega) hk kk
 have h0:=of_decide_eq_false h0
 refine aB (ag (fun h1=>?_) (fun h1=>?_))
 ·have:=of_decide_eq_true h1
  rw[h1]
  exact FF I0 hc hn hr (by omega) hk kk
 have h1:=of_decide_eq_false h1
 refine aB ?_
 by_cases h2:(r:Int)=2
 ·rw[decide_eq_true h2]
  exact FF I0 hc hn hr (by omega) hk kk
 ·rw[decide_eq_false h2]
  exact SP I0 hc hn hr (by omega) hk kk
theorem Sf {ns sp:List Int}{v1 v2:AV}(hn:∀ n∈ns,inI n) (hs:∀ n∈sp,inI n) (r1:∀ h,Row (fun n:Int=>[I n]) 1 h v1 ns) (r2:∀ h,Row (fun n:Int=>[I n]) 1 h v2 sp)
  (q:∀ L h',GoodL L→Fr [] h h'→Q (.full 1 [T [102],T (bn dh L)]) h'):C qM [v1,v2] h Q:=by
 refine Fc _ _ _ _ ?_
 unfold Eo
 refine tq _ _ ?_
 unfold te
 refine aG rfl rfl ?_
 refine aR (fun f vs h'=>∃ (i:Nat) (M:List GL),vs=[T (bn dh M),I (i:Nat)]∧f+i=4∧GI i (375*i) (20*i) M∧Fr [] h h') 4 ⟨0,[],rfl,rfl,(⟨(fun g hg=>by cases hg),rfl,by simp,by simp⟩:GI 0 _ _ []),Fr.refl _ _⟩ ?_
 rintro f vs h1 ⟨i,M,rfl,hf,I0,f1⟩
 unfold uQ
 have hM:=I0.tlen (by omega)
 refine aP (ag (fun hb=>?_) (fun hb=>?_))
 ·have hi:i<4:=by have:=of_decide_eq_true hb;omega
  refine qE (h:=h1) labsL (n:=4) rfl hi fun p t=>aE t ?_
  have hl:=zO i
  refine dS (by omega) (dS (by simp;omega) ?_)
  have e:bn dh M++(labsL[i]?).getD []++[58,10]=bn dh (M++[.lab i]):=by
   rw[jN];simp[iT,dh,labsL]
  rw[e]
  have I1:GI (i+1) (375*i) (20*i+1) (M++[.lab i]):=by
   refine⟨fun x hx=>?_,?_,?_,?_⟩
   ·rcases List.mem_append.1 hx with hx|hx
    ·exact I0.ok x hx
    ·simp at hx;subst hx;exact hi
   ·rw[List.filterMap_append,I0.labs,List.range_succ];rfl
   ·have:=I0.sum
    rw[List.map_append,List.sum_append];simp[bnd];omega
   ·have:=I0.len
    simp;omega
  refine aR (fun f2 vs h'=>∃ (k:Nat) (M:List GL),vs=[T (bn dh M),I (k:Nat)]∧f2+k=4∧GI (i+1) (375*i+19*k) (20*i+1+2*k) M∧Fr [] h h') 4 ⟨0,_,rfl,rfl,I1.mono (by omega) (by omega),f1⟩ ?_
  rintro f2 vs h2 ⟨k,M2,rfl,hf2,I2,g2⟩
  unfold u7
  have hM2:=I2.tlen (by omega)
  refine aP (ag (fun hb2=>?_) (fun hb2=>?_))
  ·have hk:k<4:=by have:=of_decide_eq_true hb2;omega
   have nx:∀ M' h',GI (i+1) (375*i+19*k+19) (20*i+1+2*k+2) M'→Fr [] h2 h'→∃ m,m<f2∧∃ (k_1:Nat) (M:List GL),[T (bn dh M'),I ((k+1:Nat):Int)]=[T (bn dh M),I (k_1:Nat)]∧m+k_1=4∧GI (i+1) (375*i+19*k_1) (20*i+1+2*k_1) M∧Fr [] h h':=fun M' h' I' f'=>
    ⟨f2-1,by omega,k+1,M',rfl,by omega,I'.mono (by omega) (by omega),g2.trans f' (by simp)⟩
   refine aH (by omega) (xm (by omega) (aH (by omega) ?_))
   refine (r1 h2).len (aP (ag (fun hb3=>?_) (fun _=>?_)))
   ·have hlt:4*i+k<ns.length:=by have:=of_decide_eq_true hb3;omega
    refine xm (by omega) (aH (by omega) ?_)
    rw[show (4:Int)*(i:Nat)+(k:Nat)=((4*i+k:Nat):Int) by omega]
    refine (r1 h2).idx (fun _=>rfl) hlt fun p t=>aE t ?_
    exact H6 I2 (by omega) (hn _ (List.getElem_mem hlt)) (by omega) nx
   ·exact H6 I2 (by omega) (by unfold inI;omega) (by omega) nx
  ·have hk:k=4:=by have:=of_decide_eq_false hb2;omega
   subst hk
   have fin:∀ M' h',GI (i+1) (375*i+375) (20*i+20) M'→Fr [] h h'→ly (T (bn dh M')) (I (i:Nat)) h' (fun vs' h'=>∃ m,m<f∧∃ (i:Nat) (M:List GL),vs'=[T (bn dh M),I (i:Nat)]∧m+i=4∧GI i (375*i) (20*i) M∧Fr [] h h'):=fun M' h' I' f'=>by
    unfold ly uM
    refine aH (by omega) ?_
    exact⟨f-1,by omega,i+1,M',rfl,by omega,I'.mono (by omega) (by omega),f'⟩
   refine (r2 h2).len (aP (ag (fun hb3=>?_) (fun _=>fin _ _ (I2.mono (by omega) (by omega)) g2)))
   have hlt:i<sp.length:=by have:=of_decide_eq_true hb3;omega
   refine dS (by simp;omega) ?_
   refine (r2 h2).idx (fun _=>rfl) hlt fun p t=>aE t ?_
   refine dL (by decide) (by decide) (hs _ (List.getElem_mem hlt)) ?_
   obtain⟨x,hx,hx2⟩:=Ch (n:=sp[i]) (m:=140) (by decide)
   have hx:sp[i]%140=(x:Nat):=hx
   rw[hx]
   refine xm (by omega) ?_
   rw[show (2:Int)*(x:Nat)=((2*x:Nat):Int) by omega]
   refine pH 2 (2*x) (by omega) (by decide) _ _ fun h3 f3=>?_
   have hd:=nl 3 (2*x)
   refine dS (by simp;omega) (dS (by simp;omega) ?_)
   have e:bn dh M2++[46,115,112,97,99,101,32]++zp 3 (2*x)++[10]=bn dh (M2++[.sp x]):=by
    rw[jN];simp[iT]
   rw[e]
   exact fin _ _ ((I2.add (b':=375*i+375) (g:=.sp x) hx2 rfl (by simp[bnd];omega)).mono (Int.le_refl _) (by omega)) (g2.trans f3 (by simp))
 ·have hi:i=4:=by have:=of_decide_eq_false hb;omega
  subst hi
  refine aO rfl (aG rfl rfl ?_)
  exact q M _ ⟨I0.ok,I0.labs,by have:=I0.sum;omega,by have:=I0.len;omega⟩ f1
end
end
end Go.Proofs.YtbhphjpgjgigpaaGreatDoor.AL
namespace Go.Proofs.YtbhphjpgjgigpaaGreatDoor.AL
noncomputable section
def Nn:Ex→Bool
 | .neg e=>Nn e
 | .bin k a b=>(Nat.ble 5 k&&Nat.ble k 11)&&(Nn a&&Nn b)
 | _=>true
theorem zP:∀ {e:Ex},Nn e=true→okE e
 | .none,_=>trivial
 | .num _,_=>trivial
 | .name _,_=>trivial
 | .here,_=>trivial
 | .neg e,h=>zP (e:=e) h
 | .bin k a b,h=>by
   simp only[Nn,Bool.and_eq_true]at h
   exact⟨⟨Nat.le_of_ble_eq_true h.1.1,Nat.le_of_ble_eq_true h.1.2⟩,zP h.2.1,zP h.2.2⟩
def PV (a b:Bool):Bool:=match a with|true=>b|false=>true
theorem zR {a b:Bool}(h:PV a b=true) (ha:a=true):b=true:=by subst ha;exact h
def Rp (x:RS):Bool:=
 PV (Nat.beq x.kind 1) (Nat.ble (x.op+1) tbl.length&&Nat.ble (cS (aZ x.op)).length x.args.length)&&
 (PV (Nat.beq x.kind 2) (Nat.ble (x.op+1) 3&&(Nat.ble (cS (aZ (fD x.op))).length x.args.length&&Nat.ble (cS (aZ (lr x.op))).length x.args.length))&&
 (PV (Nat.ble 3 x.kind) (PV (!Nat.beq x.kind 6) (!x.args.isEmpty))&&
 (Nat.ble x.kind 9&&(Nat.ble x.args.length 999999999&&(Nat.ble x.text.length 999999999&&
 x.args.all fun a=>Nn a.e&&(Nat.ble (iw a.e) 999999&&decide (a.reg<1000)))))))
theorem Fm {x:RS}(h:Rp x=true):WfS x:=by
 unfold Rp at h
 simp only[Bool.and_eq_true]at h
 obtain⟨h1,h2,h3,h4,h5,h6,h7⟩:=h
 refine⟨fun hk=>?_,fun hk=>?_,fun hk hn=>?_,Nat.le_of_ble_eq_true h4,by have:=Nat.le_of_ble_eq_true h5;omega,by have:=Nat.le_of_ble_eq_true h6;omega,fun a ha=>?_⟩
 ·have:=zR h1 (by rw[hk];rfl)
  simp only[Bool.and_eq_true]at this
  exact⟨Nat.le_of_ble_eq_true this.1,Nat.le_of_ble_eq_true this.2⟩
 ·have:=zR h2 (by rw[hk];rfl)
  simp only[Bool.and_eq_true]at this
  exact⟨Nat.le_of_ble_eq_true this.1,Nat.le_of_ble_eq_true this.2.1,Nat.le_of_ble_eq_true this.2.2⟩
 ·have:=zR (zR h3 (Nat.ble_eq_true_of_le hk)) (by
   cases hb:Nat.beq x.kind 6 with
   | true=>exact (hn (Nat.eq_of_beq_eq_true hb)).elim
   | false=>rfl)
  intro he;rw[he]at this;cases this
 ·have:=List.all_eq_true.1 h7 a ha
  simp only[Bool.and_eq_true,decide_eq_true_eq]at this
  exact⟨zP this.1,by have:=Nat.le_of_ble_eq_true this.2.1;omega,this.2.2⟩
section
variable [Tabs]
def OB (frags:List Fg) (syms:List Sy):Bool:=
 Nat.ble frags.length 999&&(Nat.ble syms.length 999&&(Nat.ble (ck frags).length 99999&&(Nat.ble (mw frags).length 999999&&((frags.all fun x=>Nat.ble x.2.length 999999)&&(ck frags).all fun e=>Rp e.x.2))))
theorem zK {frags:List Fg}{syms:List Sy}(h:OB frags syms=true):Few frags syms:=by
 unfold OB at h
 simp only[Bool.and_eq_true]at h
 obtain⟨h1,h2,h3,h4,h5,h6⟩:=h
 refine⟨by have:=Nat.le_of_ble_eq_true h1;omega,by have:=Nat.le_of_ble_eq_true h2;omega,by have:=Nat.le_of_ble_eq_true h3;omega,by have:=Nat.le_of_ble_eq_true h4;omega,fun x hx=>?_,fun e he=>Fm (List.all_eq_true.1 h6 e he)⟩
 have:=Nat.le_of_ble_eq_true (List.all_eq_true.1 h5 x hx);omega
variable {h:ab}{Q:QT}{K:AV→Prop}
abbrev Qx:Str:=[103,111,58,32,98,32,103,111]
abbrev GS:Str:=[103,111,58,32,98,32,103,111,10,46,98,121,116,101,32,107]
theorem T8:(OB [] []&&(ix [] []).isEmpty&&(qL [] []).isEmpty)=true:=by kernel_rfl
theorem SB:OB [([97],GS)] [([107],7)]=true:=by kernel_rfl
theorem Td:ix [([97],GS)] [([107],7)]=[]:=by kernel_rfl
theorem SK:qL [([97],GS)] [([107],7)]=[232,0,7]:=by kernel_rfl
theorem SA:OB [([97],[110,111,112])] []=true:=by kernel_rfl
theorem Mr:ix [([97],[110,111,112])] []=[([97],1,1)]:=by kernel_rfl
theorem RR:OB [([97],Qx)] []=true:=by kernel_rfl
theorem Tc:ix [([97],Qx)] []=[]:=by kernel_rfl
theorem Tl:Cn [([97],Qx)] []=[2]:=by kernel_rfl
theorem Ct (hF:ct) (hI:gf) (hA:iG) (hL:dq) (k:∀ h',Fr [] h h'→Q (B true) h'):C lq [] h Q:=by
 refine Cs _ _ ?_
 unfold A3
 have k1:=T8
 simp only[Bool.and_eq_true,List.isEmpty_iff]at k1
 refine lH hF hI hA hL (frags:=[]) (syms:=[]) .nil .nil (zK k1.1.1) (fun hn=>(hn k1.1.2).elim) fun _ h1 f1=>?_
 rw[k1.2]
 refine ax rfl (ax rfl (aO rfl (aG rfl rfl (aO rfl (aG rfl rfl ?_)))))
 refine lH hF hI hA hL (frags:=[([97],GS)]) (syms:=[([107],7)]) (Row.full (enc:=frE) (fun _=>rfl) [([97],GS)]) (Row.full (enc:=syE) (fun _=>rfl) [([107],7)]) (zK SB) (fun hn=>(hn Td).elim) fun _ h2 f2=>?_
 rw[SK]
 refine ax rfl (ax rfl (aO rfl (aG rfl rfl ?_)))
 refine lH hF hI hA hL (frags:=[([97],[110,111,112])]) (syms:=[]) (Row.full (enc:=frE) (fun _=>rfl) [([97],[110,111,112])]) .nil (zK SA) (fun _ h3 f3=>?_) (fun hn=>by rw[Mr]at hn;cases hn)
 rw[Mr]
 refine ax rfl (ax rfl (aO rfl (aG rfl rfl ?_)))
 refine RQ hF hI hA hL (frags:=[([97],Qx)]) (syms:=[]) (Row.full (enc:=frE) (fun _=>rfl) [([97],Qx)]) .nil (zK RR) (fun hn=>(hn Tc).elim) fun _ h4 f4=>?_
 rw[Tl]
 refine ax rfl (ax rfl ?_)
 refine dy (aB (ag (fun _=>?_) (fun h=>by cases h)))
 refine ep (aB (ag (fun _=>?_) (fun h=>by cases h)))
 refine ep (aB (ag (fun _=>?_) (fun h=>by cases h)))
 refine dy (aB (ag (fun _=>?_) (fun h=>by cases h)))
 have rb:Row bE 1 h4 (.snap ([232,0,7]:List Int).length (([232,0,7]:List Int).flatMap bE)) [232,0,7]:=Row.snap (enc:=bE) (fun _=>rfl) _
 refine rb.idx (j:=0) (fun _=>rfl) (by decide) fun p t=>?_
 refine aE t (aB (ag (fun _=>?_) (fun h=>by cases h)))
 refine rb.idx (j:=2) (fun _=>rfl) (by decide) fun p t=>?_
 refine aE t (aB (ag (fun _=>?_) (fun h=>by cases h)))
 have rd:Row dE 3 h4 (.snap ([([97],1,1)]:List Dg).length (([([97],1,1)]:List Dg).flatMap dE)) [([97],1,1)]:=Row.snap (enc:=dE) (fun _=>rfl) _
 refine dy (aB (ag (fun _=>?_) (fun h=>by cases h)))
 refine rd.idx (j:=0) (fun _=>rfl) (by decide) fun p t=>?_
 refine Fy t (by decide) fun p2 t2=>?_
 refine aE t2 (aB (ag (fun _=>?_) (fun h=>by cases h)))
 refine ag (fun _=>?_) (fun h=>by cases h)
 refine dy (aB (ag (fun _=>?_) (fun h=>by cases h)))
 have rg:Row iE 1 h4 (.snap ([2]:List Int).length (([2]:List Int).flatMap iE)) [2]:=Row.snap (enc:=iE) (fun _=>rfl) _
 refine rg.idx (j:=0) (fun _=>rfl) (by decide) fun p t=>?_
 refine aE t (aB ?_)
 exact k h4 (((f1.trans f2 (by simp)).trans f3 (by simp)).trans f4 (by simp))
end
end
end Go.Proofs.YtbhphjpgjgigpaaGreatDoor.AL
namespace Go.Proofs.YtbhphjpgjgigpaaGreatDoor.AL
noncomputable section
section
variable [Tabs]
variable {h h0:ab}{Q:QT}{K:AV→Prop}{N:Nat→Str}{L:List GL}
theorem BC:∀ l:List Int,oe (l.flatMap bE)=some (l.map fun n=>UInt8.ofNat n.toNat)
 | []=>rfl
 | a::l=>by
   rw[List.flatMap_cons]
   show (match oe (l.flatMap bE) with|some r=>some (UInt8.ofNat a.toNat::r)|none=>none)=_
   rw[BC l];rfl
theorem DA {l:List Int}(k:K (T (l.map fun n=>UInt8.ofNat n.toNat))):hZ (.snap l.length (l.flatMap bE)) h K:=⟨by
 have r:Row bE 1 h (.snap l.length (l.flatMap bE)) l:=Row.snap (enc:=bE) (sz:=1) (fun _=>rfl) l
 unfold eO
 rw[if_pos r.1,r.2]
 simp only
 rw[BC]
 exact k⟩
theorem Q3:allG.all (fun g=>Rp (rsG dh g))=true:=by kernel_rfl
theorem UB {frags:List Fg}(hf:frags.length≤100) (ht:∀ x∈frags,x.2.length≤100000) (hD:mw frags=[]) (hE:(ck frags).map stE=L.map (rsG dh)) (G:GoodL L):Few frags []:=by
 refine⟨by omega,by simp,?_,by rw[hD];simp,fun x hx=>by have:=ht x hx;omega,fun e he=>?_⟩
 ·have:=congrArg List.length hE
  simp only[List.length_map]at this
  have:=G.len
  omega
 ·obtain⟨g,h1,h2⟩:=O1 hE he
  rw[h2]
  exact Fm (List.all_eq_true.1 Q3 g (wx (G.ok g h1)))
theorem Ec (hN:qr N) (n:Str) (hL:∀ g∈L,okG g):(rn (n,bn N L)).map stE=L.map (rsG N)∧uP (n,bn N L)=[]:=by
 obtain⟨h1,h2⟩:=Ky hN hL
 unfold rn uP
 simp only
 rw[h1,h2,List.map_map]
 exact⟨by
  rw[← Rh N L 0]
  exact List.map_congr_left fun x _=>rfl,rfl⟩
end
end
end Go.Proofs.YtbhphjpgjgigpaaGreatDoor.AL
namespace Go.Proofs.YtbhphjpgjgigpaaGreatDoor.AL
noncomputable section
def isW (c:UInt8):Bool:=(decide (97≤c.toNat)&&decide (c.toNat≤122))||((decide (48≤c.toNat)&&decide (c.toNat≤57))||(decide (c.toNat=95)||decide (c.toNat=46)))
def I4 (w:Str):Str:=if w=dh 0 then kU 0 else if w=dh 1 then kU 1 else if w=dh 2 then kU 2 else if w=dh 3 then kU 3 else w
def trW:Str→Str→Str
 | w,[]=>I4 w
 | w,c::r=>if isW c=true then trW (w++[c]) r else I4 w++c::trW [] r
theorem Ml (w:Str):trW w []=I4 w:=by rw[trW]
theorem rZ (w:Str) (c:UInt8) (r:Str):trW w (c::r)=if isW c=true then trW (w++[c]) r else I4 w++c::trW [] r:=by rw[trW]
theorem FO {c:UInt8}(hc:isW c=false) (r:Str):∀ (a w:Str),trW w (a++c::r)=trW w a++c::trW [] r
 | [],w=>by rw[List.nil_append,rZ,hc,Ml];rfl
 | x::a,w=>by
   rw[List.cons_append,rZ,rZ]
   split
   ·exact FO hc r a _
   ·rw[FO hc r a []];simp
abbrev Cg:=GL×Int×Bool
def ent (N:Nat→Str) (c:Cg):En:=⟨[],(0,rsG N c.1),c.2.1,c.2.2⟩
section
variable [Tabs]
theorem OA:allG.all (Gu kU)=true:=by kernel_rfl
theorem GP:qr kU:=AU OA
theorem P0:allG.all (fun g=>decide (trW [] (iT dh g)=iT kU g))=true:=by kernel_rfl
theorem Mn:∀ {L:List GL},(∀ g∈L,okG g)→trW [] (bn dh L)=bn kU L
 | [],_=>by decide
 | g::L,h=>by
   have e:∀ N,bn N (g::L)=iT N g++10::bn N L:=fun N=>by simp[bn]
   rw[e,e,FO (by decide),Mn fun x hx=>h x (.tail _ hx)]
   have:=List.all_eq_true.1 P0 g (wx (h g (.head _)))
   rw[of_decide_eq_true this]
theorem T2:allG.all (fun g=>Rp (rsG kU g))=true:=by kernel_rfl
theorem QM:Nm4 dh:=⟨fun k hk=>by
  have:k=0∨k=1∨k=2∨k=3:=by omega
  rcases this with rfl|rfl|rfl|rfl<;>decide,fun j k hj hk e=>by
  have h1:j=0∨j=1∨j=2∨j=3:=by omega
  have h2:k=0∨k=1∨k=2∨k=3:=by omega
  rcases h1 with rfl|rfl|rfl|rfl<;>rcases h2 with rfl|rfl|rfl|rfl<;>first|rfl|(exact absurd e (by decide))⟩
theorem QU:Nm4 kU:=⟨fun k hk=>by
  have:k=0∨k=1∨k=2∨k=3:=by omega
  rcases this with rfl|rfl|rfl|rfl<;>decide,fun j k hj hk e=>by
  have h1:j=0∨j=1∨j=2∨j=3:=by omega
  have h2:k=0∨k=1∨k=2∨k=3:=by omega
  rcases h1 with rfl|rfl|rfl|rfl<;>rcases h2 with rfl|rfl|rfl|rfl<;>first|rfl|(exact absurd e (by decide))⟩
variable {N N':Nat→Str}{c:Cg}
theorem Hk (N N':Nat→Str) (c:Cg):eW f0 (ent N c)=eW f0 (ent N' c):=by
 obtain⟨g,p,b⟩:=c
 cases g<;>rfl
def my (N:Nat→Str) (st:List Cg×Int) (c:Cg):List Cg×Int:=(st.1++[(c.1,st.2,c.2.2)],st.2+eW f0 (ent N (c.1,st.2,c.2.2)))
theorem Fx (N:Nat→Str):∀ (cs:List Cg) (st:List Cg×Int),(cs.map (ent N)).foldl (cW f0) (st.1.map (ent N),st.2)=((cs.foldl (my N) st).1.map (ent N),(cs.foldl (my N) st).2)
 | [],st=>rfl
 | c::cs,st=>by
   rw[List.map_cons,List.foldl_cons,List.foldl_cons,← Fx N cs]
   have:cW f0 (st.1.map (ent N),st.2) (ent N c)=((my N st c).1.map (ent N),(my N st c).2):=by
    simp only[cW,my,List.map_append,List.map_cons,List.map_nil]
    rfl
   rw[this]
theorem MH (N N':Nat→Str):my N=my N':=by
 funext st c
 unfold my
 rw[Hk N N']
theorem UJ:∀ (cs:List Cg) (st:List Cg×Int),(∀ c∈st.1,okG c.1)→(∀ c∈cs,okG c.1)→∀ c∈(cs.foldl (my N) st).1,okG c.1
 | [],st,h,_=>h
 | c::cs,st,h,hc=>by
   rw[List.foldl_cons]
   refine UJ cs _ (fun x hx=>?_) fun x hx=>hc x (.tail _ hx)
   simp only[my,List.mem_append,List.mem_singleton]at hx
   rcases hx with hx|rfl
   ·exact h x hx
   ·exact hc c (.head _)
theorem MB (n4:Nm4 N) (n4':Nm4 N'):∀ (cs:List Cg) (f f':Str→Option Int),(∀ c∈cs,okG c.1)→(∀ k,k<4→f (N k)=f' (N' k))→∀ k,k<4→vr f (cs.map (ent N)) (N k)=vr f' (cs.map (ent N')) (N' k)
 | [],f,f',_,h=>h
 | c::cs,f,f',hc,h=>by
   intro k hk
   show vr (y7 f (ent N c)) (cs.map (ent N)) (N k)=vr (y7 f' (ent N' c)) (cs.map (ent N')) (N' k)
   refine MB n4 n4' cs _ _ (fun x hx=>hc x (.tail _ hx)) (fun j hj=>?_) k hk
   obtain⟨g,p,b⟩:=c
   cases g with
   | lab i=>
     have hi:i<4:=hc _ (.head _)
     have e1:y7 f (ent N (.lab i,p,b))=upd f (N i) p:=by unfold y7;rw[if_pos (by exact n4.ne i hi)];rfl
     have e2:y7 f' (ent N' (.lab i,p,b))=upd f' (N' i) p:=by unfold y7;rw[if_pos (by exact n4'.ne i hi)];rfl
     rw[e1,e2]
     unfold upd
     by_cases hij:j=i
     ·subst hij;rw[if_pos rfl,if_pos rfl]
     ·rw[if_neg (fun e=>hij (n4.inj _ _ hj hi e)),if_neg (fun e=>hij (n4'.inj _ _ hj hi e))];exact h j hj
   | _=>exact h j hj
theorem Mz (n4:Nm4 N) (n4':Nm4 N') {cs:List Cg}(hc:∀ c∈cs,okG c.1):∃ cs':List Cg,(∀ c∈cs',okG c.1)∧(bH f0 (cs.map (ent N))).1=cs'.map (ent N)∧(bH f0 (cs.map (ent N'))).1=cs'.map (ent N')∧∀ k,k<4→(bH f0 (cs.map (ent N))).2.1 (N k)=(bH f0 (cs.map (ent N'))).2.1 (N' k):=by
 have p1:bV f0 (cs.map (ent N))=((cs.foldl (my N) ([],0)).1.map (ent N),(cs.foldl (my N) ([],0)).2):=Fx N cs ([],0)
 have p2:bV f0 (cs.map (ent N'))=((cs.foldl (my N') ([],0)).1.map (ent N'),(cs.foldl (my N') ([],0)).2):=Fx N' cs ([],0)
 rw[MH N' N]at p2
 have hok:=UJ (N:=N) cs ([],0) (by simp) hc
 refine⟨(cs.foldl (my N) ([],0)).1,hok,by unfold bH;rw[p1],by unfold bH;rw[p2],fun k hk=>?_⟩
 unfold bH
 rw[p1,p2]
 simp only
 have kn:∀ (M:Nat→Str),∀ e∈(cs.foldl (my N) ([],0)).1.map (ent M),e.x.2.kind≠9:=fun M e he=>by
  obtain⟨c,_,rfl⟩:=List.mem_map.1 he
  exact TB
 rw[vD (kn N),vD (kn N')]
 exact MB n4 n4' _ _ _ hok (fun _ _=>rfl) k hk
def gB (kind:Nat) (gr:Bool) (ev:Ev) (pl:Int):Bool:=decide (kind=2)&&(!gr&&(decide (ev.2=0)&&!(fM (fD 0) [ev.1-pl]).isSome))
theorem IW (F:Str→Option Int) (e:En):eF F e=gB e.x.2.kind e.grown (aX e.place F (bm e)) e.place:=rfl
theorem TD {kind:Nat}(h:kind≠2) (gr:Bool) (ev:Ev) (pl:Int):gB kind gr ev pl=false:=by unfold gB;rw[decide_eq_false h];rfl
theorem Pz (c:Cg):(ent N c).x.2.kind=(ent N' c).x.2.kind:=by obtain⟨g,p,b⟩:=c;cases g<;>rfl
theorem Qs {F F':Str→Option Int}(hF:∀ k,k<4→F (N k)=F' (N' k)) (hc:okG c.1):eF F (ent N c)=eF F' (ent N' c):=by
 rw[IW,IW,← Pz (N:=N) (N':=N') c]
 by_cases hk2:(ent N c).x.2.kind=2
 ·obtain⟨g,p,b⟩:=c
  cases g with
  | br o k=>
    have hk:k<4:=hc.2
    have ho:o=0∨o=1∨o=2:=by have:=hc.1;omega
    have l1:bm (ent N (.br o k,p,b))=.name (N k):=by unfold bm pQ ent;rcases ho with rfl|rfl|rfl<;>rfl
    have l2:bm (ent N' (.br o k,p,b))=.name (N' k):=by unfold bm pQ ent;rcases ho with rfl|rfl|rfl<;>rfl
    have e:aX p F (.name (N k))=aX p F' (.name (N' k)):=by unfold aX;rw[hF k hk]
    rw[l1,l2]
    show gB _ b (aX p F (.name (N k))) p=gB _ b (aX p F' (.name (N' k))) p
    rw[e]
  | _=>simp[ent,rsG]at hk2
 ·rw[TD hk2,TD hk2]
theorem Du (n4:Nm4 N) (n4':Nm4 N'):∀ (n:Nat) (cs:List Cg),(∀ c∈cs,okG c.1)→∃ cs':List Cg,(∀ c∈cs',okG c.1)∧(dk f0 n (cs.map (ent N))).1=cs'.map (ent N)∧(dk f0 n (cs.map (ent N'))).1=cs'.map (ent N')∧∀ k,k<4→(dk f0 n (cs.map (ent N))).2.1 (N k)=(dk f0 n (cs.map (ent N'))).2.1 (N' k)
 | 0,cs,hc=>Mz n4 n4' hc
 | n+1,cs,hc=>by
   obtain⟨cs',ok,e1,e2,hF⟩:=Mz n4 n4' hc
   unfold dk
   have ha:∀ x∈cs',eF (bH f0 (cs.map (ent N))).2.1 (ent N x)=eF (bH f0 (cs.map (ent N'))).2.1 (ent N' x):=fun x hx=>Qs hF (ok x hx)
   rw[e1,e2,List.any_map,List.any_map]
   have hany:(cs'.any (eF (bH f0 (cs.map (ent N))).2.1 ∘ ent N))=(cs'.any (eF (bH f0 (cs.map (ent N'))).2.1 ∘ ent N')):=by
    rw[Bool.eq_iff_iff,List.any_eq_true,List.any_eq_true]
    exact⟨fun ⟨x,hx,h⟩=>⟨x,hx,by simpa [ha x hx] using h⟩,fun ⟨x,hx,h⟩=>⟨x,hx,by simpa [ha x hx] using h⟩⟩
   rw[← hany]
   split
   ·let gr:Cg→Cg:=fun x=>if eF (bH f0 (cs.map (ent N))).2.1 (ent N x)=true then (x.1,x.2.1,true) else x
    have g1:(cs'.map (ent N)).map (fu (bH f0 (cs.map (ent N))).2.1)=(cs'.map gr).map (ent N):=by
     rw[List.map_map,List.map_map]
     refine List.map_congr_left fun x hx=>?_
     simp only[Function.comp,fu,gr]
     split<;>rfl
    have g2:(cs'.map (ent N')).map (fu (bH f0 (cs.map (ent N'))).2.1)=(cs'.map gr).map (ent N'):=by
     rw[List.map_map,List.map_map]
     refine List.map_congr_left fun x hx=>?_
     simp only[Function.comp,fu,gr]
     rw[ha x hx]
     split<;>rfl
    rw[g1,g2]
    refine Du n4 n4' n _ fun x hx=>?_
    obtain⟨y,hy,rfl⟩:=List.mem_map.1 hx
    simp only[gr]
    split
    ·exact ok y hy
    ·exact ok y hy
   ·exact⟨cs',ok,e1,e2,hF⟩
theorem Qb {here:Int}{F F':Str→Option Int}{az bz:List Ar}(h:az.map (fg here F)=bz.map (fg here F')):aU here F az=aU here F' bz:=by
 let vf:List Ev→List Int×Int:=fun es=>match es.find? (fun e=>decide (e.2≠0)) with
  | some e=>([],e.2)
  | none=>(es.map (·.1),0)
 have key:∀ (F:Str→Option Int) (az:List Ar),aU here F az=vf (az.map (fg here F)):=fun F az=>by
  simp only[vf]
  unfold aU
  rw[List.find?_map]
  simp only[Function.comp_def]
  cases az.find? (fun a=>decide ((fg here F a).2≠0)) with
  | none=>simp
  | some a=>rfl
 rw[key,key,h]
theorem RA {F F':Str→Option Int}(hF:∀ k,k<4→F (N k)=F' (N' k)) {g:GL}(hg:okG g) (here:Int):(rsG N g).args.map (fg here F)=(rsG N' g).args.map (fg here F'):=by
 have aNv:∀ k,k<4→fg here F (aN (N k))=fg here F' (aN (N' k)):=fun k hk=>by
  unfold fg aN
  simp only[aX,hF k hk]
 cases g with
 | br o k=>
   have hk:k<4:=hg.2
   simp only[rsG]
   split
   ·simp only[List.map_cons,List.map_nil,aNv k hk];rfl
   ·simp only[List.map_cons,List.map_nil,aNv k hk]
 | half k=>simp only[rsG,List.map_cons,List.map_nil,aNv k hg];rfl
 | lwz k=>simp only[rsG,List.map_cons,List.map_nil,aNv k hg];rfl
 | long k=>
   have hk:k<4:=hg
   have e0:aX here F (.name (N k))=aX here F' (.name (N' k)):=by unfold aX;rw[hF k hk]
   have e:aX here F (.bin 6 (.name (N k)) .here)=aX here F' (.bin 6 (.name (N' k)) .here):=by
    have u:∀ (F:Str→Option Int) (a b:Ex),aX here F (.bin 6 a b)=if (aX here F a).2≠0 then (0,(aX here F a).2) else if (aX here F b).2≠0 then (0,(aX here F b).2) else wJ 6 (aX here F a).1 (aX here F b).1:=fun F a b=>by rw[aX]
    have v:aX here F .here=aX here F' .here:=rfl
    rw[u,u,e0,v]
   simp only[rsG,List.map_cons,List.map_nil,fg]
   rw[e]
 | _=>rfl
theorem Of {F F':Str→Option Int}(hF:∀ k,k<4→F (N k)=F' (N' k)) (hc:okG c.1):gz f0 F (ent N c)=gz f0 F' (ent N' c):=by
 have hv:aU (ent N c).place F (ent N c).x.2.args=aU (ent N' c).place F' (ent N' c).x.2.args:=Qb (RA hF hc _)
 have hk:(ent N c).x.2.kind=(ent N' c).x.2.kind:=by obtain⟨g,p,b⟩:=c;cases g<;>rfl
 have ho:bt (ent N c)=bt (ent N' c):=by obtain⟨g,p,b⟩:=c;cases g<;>rfl
 have ht:(ent N c).x.2.text=(ent N' c).x.2.text:=by obtain⟨g,p,b⟩:=c;cases g<;>rfl
 have hi:cm (ent N c)↔cm (ent N' c):=by unfold cm;rw[hk]
 have hd:cC (ent N c)↔cC (ent N' c):=by unfold cC;rw[hk]
 have hp:(ent N c).place=(ent N' c).place:=rfl
 unfold gz
 rw[hv,ho,hp,Hk N N',ht,hk]
 simp only[hi,hd]
theorem Ou (n4:Nm4 N) (n4':Nm4 N') {a b:List Fg}{L:List GL}(hL:∀ g∈L,okG g) (ha:(ck a).map stE=L.map (rsG N)) (hb:(ck b).map stE=L.map (rsG N')):qL a []=qL b []:=by
 have hl:(ck a).length=(ck b).length:=by
  have h1:=congrArg List.length ha
  have h2:=congrArg List.length hb
  simp only[List.length_map]at h1 h2
  omega
 rw[yL,yL,ha,hb,hl]
 have z:∀ M:Nat→Str,(L.map (rsG M)).map LZ=(L.map fun g=>((g,0,false):Cg)).map (ent M):=fun M=>by
  rw[List.map_map,List.map_map];rfl
 rw[z N,z N']
 obtain⟨cs',ok,e1,e2,hF⟩:=Du n4 n4' (ck b).length (L.map fun g=>((g,0,false):Cg)) (fun c hc=>by
  obtain⟨g,hg,rfl⟩:=List.mem_map.1 hc
  exact hL g hg)
 rw[e1,e2,List.flatMap_map,List.flatMap_map]
 have:∀ (l:List Cg),(∀ c∈l,okG c.1)→(l.flatMap fun c=>gz f0 (dk f0 (ck b).length ((L.map fun g=>((g,0,false):Cg)).map (ent N))).2.1 (ent N c))=l.flatMap fun c=>gz f0 (dk f0 (ck b).length ((L.map fun g=>((g,0,false):Cg)).map (ent N'))).2.1 (ent N' c):=fun l=>by
  induction l with
  | nil=>exact fun _=>rfl
  | cons x l ih=>
    intro h
    rw[List.flatMap_cons,List.flatMap_cons,ih fun y hy=>h y (.tail _ hy),Of hF (h x (.head _))]
 exact this cs' ok
end
end
end Go.Proofs.YtbhphjpgjgigpaaGreatDoor.AL
namespace Go.Proofs.YtbhphjpgjgigpaaGreatDoor.AL
noncomputable section
section
variable [Tabs]
variable {h h0:ab}{Q:QT}{K:AV→Prop}{next:NT}
theorem UK {frags:List Fg}{L:List GL}(hf:frags.length≤100) (ht:∀ x∈frags,x.2.length≤100000) (hD:mw frags=[]) (hE:(ck frags).map stE=L.map (rsG kU)) (G:GoodL L):Few frags []:=by
 refine⟨by omega,by simp,?_,by rw[hD];simp,fun x hx=>by have:=ht x hx;omega,fun e he=>?_⟩
 ·have:=congrArg List.length hE
  simp only[List.length_map]at this
  have:=G.len
  omega
 ·obtain⟨g,h1,h2⟩:=O1 hE he
  rw[h2]
  exact Fm (List.all_eq_true.1 T2 g (wx (G.ok g h1)))
theorem ND {t w s:Str}{i:Nat}(hl:t.length≤100000) (hs:s.length≤10000000) (hw:w.length≤100000) (hi:i≤t.length)
  (q1:∀ h',Fr [] h h'→i<t.length→next [T (s++I4 w++[t[i]?.getD 0]),I ((i+1:Nat):Int),I ((i+1:Nat):Int)] h') (q2:∀ h',Fr [] h h'→¬ i<t.length→next [T (s++I4 w),I ((i+1:Nat):Int),I ((i+1:Nat):Int)] h'):
  bG [T w,I 0] h fun vs5 h next5=>aA (T s) (I (i:Nat)) (T t) next vs5 h next5:=by
 have fin:∀ (w':Str) (h':ab),Fr [] h h'→w'=I4 w→w'.length≤100000→gM (T w') (T s) (I (i:Nat)) (T t) h' next:=fun w' h' f' e hl'=>by
  subst e
  unfold gM p8
  refine dS (by omega) (bD (aP (ag (fun hb=>?_) (fun hb=>?_))))
  ·have hlt:i<t.length:=by have:=of_decide_eq_true hb;omega
   refine aH (by omega) (JI (by omega) (by omega) (by omega) ?_)
   have e:((t.drop ((i:Nat):Int).toNat).take ((((i:Nat):Int)+1).toNat-((i:Nat):Int).toNat))=[t[i]?.getD 0]:=by
    rw[Int.toNat_natCast,show (((i:Nat):Int)+1).toNat-i=1 by omega,List.drop_eq_getElem_cons hlt,List.take_succ_cons,List.take_zero,List.getElem?_eq_getElem hlt]
    rfl
   rw[e]
   refine dS (by simp;omega) ?_
   unfold iq ak il
   exact aH (by omega) (aH (by omega) (q1 h' f' hlt))
  ·have hlt:¬ i<t.length:=by have:=of_decide_eq_false hb;omega
   unfold iq ak il
   exact aH (by omega) (aH (by omega) (q2 h' f' hlt))
 refine aR (fun f vs h'=>∃ k:Nat,vs=[T w,I (k:Nat)]∧f+k=4∧Fr [] h h'∧∀ j,j<k→w≠dh j) 4 ⟨0,rfl,rfl,Fr.refl _ _,fun j hj=>by omega⟩ ?_
 rintro f vs h1 ⟨k,rfl,hf,f1,hn⟩
 unfold aA
 refine aP (ag (fun hb=>?_) (fun hb=>?_))
 ·have hk:k<4:=by have:=of_decide_eq_true hb;omega
  refine tq _ _ ?_
  unfold te
  refine aG rfl rfl ?_
  refine qE (h:=h1) labsL (n:=4) rfl hk fun p t2=>aE t2 ?_
  have hll:=zO k
  refine bi (ag (fun he=>?_) (fun he=>?_))
  ·have he:w=dh k:=of_decide_eq_true he
   refine pH 0 k (by omega) (by decide) _ _ fun h2 f2=>?_
   have hd:=nl 1 k
   refine dS (by simp;omega) ?_
   refine fin _ h2 (f1.trans f2 (by simp)) ?_ (by simp;omega)
   rw[he]
   have:k=0∨k=1∨k=2∨k=3:=by omega
   rcases this with rfl|rfl|rfl|rfl<;>decide
  ·have he:¬ w=dh k:=of_decide_eq_false he
   refine aH (by omega) ?_
   refine⟨f-1,by omega,k+1,rfl,by omega,f1,fun j hj=>?_⟩
   by_cases hjk:j=k
   ·subst hjk;exact he
   ·exact hn j (by omega)
 ·have hk:k=4:=by have:=of_decide_eq_false hb;omega
  subst hk
  refine fin w h1 f1 ?_ hw
  unfold I4
  rw[if_neg (hn 0 (by decide)),if_neg (hn 1 (by decide)),if_neg (hn 2 (by decide)),if_neg (hn 3 (by decide))]
theorem OG (hk:∀ (h:ab) (Q:QT),(∀ h',Fr [] h h'→Q (B true) h')→C lq [] h Q) (hF:ct) (hI:gf) (hA:iG) (hL:dq) {ns sp:List Int}(hn:∀ n∈ns,inI n) (hs:∀ n∈sp,inI n) (q:∀ h',Q (B true) h'):
  C kM [.snap ns.length (ns.flatMap fun n=>[I n]),.snap sp.length (sp.flatMap fun n=>[I n])] h Q:=by
 refine xr _ _ _ _ ?_
 unfold uU
 refine hk _ _ fun h1 f1=>dA (ag (fun h=>by cases h) (fun _=>?_))
 have RI:∀ (l:List Int) h,Row (fun n:Int=>[I n]) 1 h (.snap l.length (l.flatMap fun n=>[I n])) l:=fun l h=>Row.snap (enc:=fun n:Int=>[I n]) (sz:=1) (fun _=>rfl) l
 refine Sf hn hs (RI ns) (RI sp) fun L h2 G f2=>?_
 have tl:(bn dh L).length≤4100:=by have:=w7 Ca G.ok;have:=G.len;omega
 have tl2:(bn kU L).length≤4100:=by have:=w7 GP G.ok;have:=G.len;omega
 have RG:∀ h2,Row frE 2 h2 (.full 1 [T [102],T (bn dh L)]) [([102],bn dh L)]:=fun h2=>Row.full (enc:=frE) (sz:=2) (h:=h2) (fun _=>rfl) [([102],bn dh L)]
 refine (RG h2).idx (fun _=>rfl) (j:=0) (by simp) fun p t=>?_
 refine Fy t (by simp[frE]) fun p t=>?_
 have t:Pt h2 p [T (bn dh L)]:=t
 refine aE t ?_
 have htr:=Mn G.ok
 generalize hT:bn dh L=tx at tl htr RG
 refine aR (fun f vs h'=>∃ (s:Str) (at_ i:Nat),vs=[T s,I (at_:Nat),I (i:Nat)]∧f+i=tx.length+1∧((i≤tx.length∧at_≤i∧s++trW ((tx.drop at_).take (i-at_)) (tx.drop i)=bn kU L)∨(i=tx.length+1∧s=bn kU L))) (tx.length+1) ⟨[],0,0,rfl,rfl,.inl ⟨by omega,by omega,by simpa using htr⟩⟩ ?_
 rintro f vs h3 ⟨s,at_,i,rfl,hf,hst⟩
 unfold nG
 refine bD (mf (ag (fun hb=>?_) (fun hb=>?_)))
 ·have hi:i≤tx.length:=by have:=of_decide_eq_true hb;omega
  obtain⟨_,hai,hst⟩:=hst.resolve_right (by omega)
  have hsl:s.length≤4100:=by
   have:=congrArg List.length hst
   rw[List.length_append]at this
   omega
  have hwl:((tx.drop at_).take (i-at_)).length=i-at_:=by rw[List.length_take,List.length_drop];omega
  have cut:∀ (h':ab),(i<tx.length→isW (tx[i]?.getD 0)=false)→aM (T tx) (some (I (at_:Nat))) (some (I (i:Nat))) fun t74=>bG [t74,I 0] h' fun vs h next5=>aA (T s) (I (i:Nat)) (T tx) (fun vs' h'=>∃ m,m<f∧∃ (s:Str) (at_ i:Nat),vs'=[T s,I (at_:Nat),I (i:Nat)]∧m+i=tx.length+1∧((i≤tx.length∧at_≤i∧s++trW ((tx.drop at_).take (i-at_)) (tx.drop i)=bn kU L)∨(i=tx.length+1∧s=bn kU L))) vs h next5:=fun h' hW=>by
   refine JI (by omega) (by omega) (by omega) ?_
   rw[Int.toNat_natCast,Int.toNat_natCast]
   refine ND (by omega) (by omega) (by omega) hi (fun h'' _ hlt=>?_) (fun h'' _ hlt=>?_)
   ·refine⟨f-1,by omega,_,i+1,i+1,rfl,by omega,.inl ⟨by omega,by omega,?_⟩⟩
    have hw:isW tx[i]=false:=by
     have:=hW hlt
     rw[List.getElem?_eq_getElem hlt]at this
     exact this
    rw[List.getElem?_eq_getElem hlt]
    rw[List.drop_eq_getElem_cons hlt,rZ,hw]at hst
    rw[← hst]
    simp
   ·have hie:i=tx.length:=by omega
    refine⟨f-1,by omega,_,i+1,i+1,rfl,by omega,.inr ⟨by omega,?_⟩⟩
    rw[show tx.drop i=[] from List.drop_of_length_le (by omega),Ml]at hst
    exact hst
  refine bD (aP (ag (fun hb2=>?_) (fun hb2=>?_)))
  ·have hlt:i<tx.length:=by have:=of_decide_eq_true hb2;omega
   have hget:tx[i]?.getD 0=tx[i]:=by rw[List.getElem?_eq_getElem hlt];rfl
   have cut':¬ ((97≤(tx[i].toNat:Int)∧(tx[i].toNat:Int)≤122)∨(48≤(tx[i].toNat:Int)∧(tx[i].toNat:Int)≤57)∨(tx[i].toNat:Int)=95∨(tx[i].toNat:Int)=46)→isW (tx[i]?.getD 0)=false:=fun hc=>by
    rw[hget]
    unfold isW
    simp only[Bool.or_eq_false_iff,Bool.and_eq_false_iff,decide_eq_false_iff_not]
    omega
   have word:((97≤(tx[i].toNat:Int)∧(tx[i].toNat:Int)≤122)∨(48≤(tx[i].toNat:Int)∧(tx[i].toNat:Int)≤57)∨(tx[i].toNat:Int)=95∨(tx[i].toNat:Int)=46)→ak (T s) (I (at_:Nat)) (I (i:Nat)) h3 (fun vs' h'=>∃ m,m<f∧∃ (s:Str) (at_ i:Nat),vs'=[T s,I (at_:Nat),I (i:Nat)]∧m+i=tx.length+1∧((i≤tx.length∧at_≤i∧s++trW ((tx.drop at_).take (i-at_)) (tx.drop i)=bn kU L)∨(i=tx.length+1∧s=bn kU L))):=fun hc=>by
    unfold ak il
    refine aH (by omega) ?_
    refine⟨f-1,by omega,s,at_,i+1,rfl,by omega,.inl ⟨by omega,by omega,?_⟩⟩
    have hw:isW tx[i]=true:=by
     unfold isW
     simp only[Bool.or_eq_true,Bool.and_eq_true,decide_eq_true_eq]
     omega
    rw[List.drop_eq_getElem_cons hlt,rZ,if_pos hw]at hst
    have ew:(tx.drop at_).take (i+1-at_)=(tx.drop at_).take (i-at_)++[tx[i]]:=by
     rw[show i+1-at_=(i-at_)+1 by omega,List.take_succ_eq_append_getElem (by rw[List.length_drop];omega)]
     congr 2
     rw[List.getElem_drop]
     congr 1
     omega
    rw[ew]
    exact hst
   refine co hlt (cy (gd (ag (fun a=>?_) (fun a=>?_)) ⟨_,rfl⟩))
   ·have a:=of_decide_eq_true a
    refine co hlt (mf (gd (ag (fun b=>word (by have:=of_decide_eq_true b;omega)) (fun b=>?_)) ⟨_,rfl⟩))
    have b:=of_decide_eq_false b
    refine co hlt (cy (gd (ag (fun c=>?_) (fun c=>by have:=of_decide_eq_false c;omega)) ⟨_,rfl⟩))
    refine co hlt (mf (gd (ag (fun d=>by have:=of_decide_eq_true d;omega) (fun d=>?_)) ⟨_,rfl⟩))
    refine co hlt (aB (gd (ag (fun e=>by have:=of_decide_eq_true e;omega) (fun e=>?_)) ⟨_,rfl⟩))
    refine co hlt (aB (ag (fun e=>by have:=of_decide_eq_true e;omega) (fun e=>?_)))
    exact cut h3 fun _=>cut' (by omega)
   ·have a:=of_decide_eq_false a
    refine co hlt (cy (gd (ag (fun b=>?_) (fun b=>?_)) ⟨_,rfl⟩))
    ·have b:=of_decide_eq_true b
     refine co hlt (mf (gd (ag (fun c=>word (by have:=of_decide_eq_true c;omega)) (fun c=>?_)) ⟨_,rfl⟩))
     have c:=of_decide_eq_false c
     refine co hlt (aB (gd (ag (fun e=>word (by have:=of_decide_eq_true e;omega)) (fun e=>?_)) ⟨_,rfl⟩))
     have e:=of_decide_eq_false e
     refine co hlt (aB (ag (fun d=>word (by have:=of_decide_eq_true d;omega)) (fun d=>?_)))
     have d:=of_decide_eq_false d
     exact cut h3 fun _=>cut' (by omega)
    ·have b:=of_decide_eq_false b
     refine co hlt (aB (gd (ag (fun e=>word (by have:=of_decide_eq_true e;omega)) (fun e=>?_)) ⟨_,rfl⟩))
     have e:=of_decide_eq_false e
     refine co hlt (aB (ag (fun d=>word (by have:=of_decide_eq_true d;omega)) (fun d=>?_)))
     have d:=of_decide_eq_false d
     exact cut h3 fun _=>cut' (by omega)
  ·exact cut h3 fun hlt=>by have:=of_decide_eq_false hb2;omega
 ·have hi:i=tx.length+1:=by have:=of_decide_eq_false hb;omega
  have hs:s=bn kU L:=(hst.resolve_left (by omega)).2
  subst hs hT
  obtain⟨e1,d1⟩:=Ec Ca [102] G.ok
  obtain⟨e2,d2⟩:=Ec GP [102] G.ok
  have E1:(ck [([102],bn dh L)]).map stE=L.map (rsG dh):=by unfold ck;simpa using e1
  have D1:mw [([102],bn dh L)]=[]:=by unfold mw;simpa using d1
  have E2:(ck [([102],bn kU L)]).map stE=L.map (rsG kU):=by unfold ck;simpa using e2
  have D2:mw [([102],bn kU L)]=[]:=by unfold mw;simpa using d2
  have F1:=UB (by simp) (fun x hx=>by simp at hx;subst hx;simp only;omega) D1 E1 G
  have F2:=UK (by simp) (fun x hx=>by simp at hx;subst hx;simp only;omega) D2 E2 G
  have M1:=Dl D1 E1 G QM
  have M2:=Dl D2 E2 G QU
  have IM:qL [([102],bn dh L)] []=qL [([102],bn kU L)] []:=Ou QM QU G.ok E1 E2
  refine lH hF hI hA hL (frags:=[([102],bn dh L)]) (syms:=[]) (RG _) Row.nil F1 (fun hne=>(hne M1).elim) fun _ h4 f4=>?_
  refine ax rfl (ax rfl (aO rfl (aG rfl rfl ?_)))
  have R2:∀ h2,Row frE 2 h2 (.full 1 [T [102],T (bn kU L)]) [([102],bn kU L)]:=fun h2=>Row.full (enc:=frE) (sz:=2) (h:=h2) (fun _=>rfl) [([102],bn kU L)]
  refine lH hF hI hA hL (frags:=[([102],bn kU L)]) (syms:=[]) (R2 _) Row.nil F2 (fun hne=>(hne M2).elim) fun _ h5 f5=>?_
  refine ax rfl (ax rfl ?_)
  refine ep (aB (ag (fun _=>?_) (fun h=>by simp at h)))
  refine ep (aB (ag (fun _=>?_) (fun h=>by simp at h)))
  refine DA (DA (bi ?_))
  rw[IM,decide_eq_true rfl]
  exact q _
end
end
end Go.Proofs.YtbhphjpgjgigpaaGreatDoor.AL
namespace Go.Proofs.YtbhphjpgjgigpaaGreatDoor.AL
noncomputable section
variable [Tabs5]
theorem Co {ns sp:List Int}(z0:ns.length≤maxLen) (w0:∀ x∈ns,(Lit.int .i64 x).wf=true) (z1:sp.length≤maxLen) (w1:∀ x∈sp,(Lit.int .i64 x).wf=true) {h:ab}{Q:QT}(k:∀ h',Q (B true) h'):C kM [.snap ns.length (ns.map fun n=>.lit (.int .i64 n)),.snap sp.length (sp.map fun n=>.lit (.int .i64 n))] h Q:=by
 have e:∀ ns:List Int,(ns.map fun n=>AV.lit (.int .i64 n))=ns.flatMap fun n=>[I n]:=fun ns=>by
  induction ns with
  | nil=>rfl
  | cons a l ih=>simp[ih]
 have b:∀ l:List Int,(∀ x∈l,(Lit.int .i64 x).wf=true)→∀ x∈l,inI x:=fun l w x hx=>by have:=w x hx;simp only[Lit.wf,Bool.and_eq_true,decide_eq_true_eq]at this;exact this
 rw[e,e]
 exact OG (fun h Q q=>Ct I9 LL PT MA q) I9 LL PT MA (b _ w0) (b _ w1) k
