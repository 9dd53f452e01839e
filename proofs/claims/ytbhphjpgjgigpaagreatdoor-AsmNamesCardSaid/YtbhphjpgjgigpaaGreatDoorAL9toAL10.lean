import Derived.Test.YtbhphjpgjgigpaaGreatDoorAL1toAL8
import Derived.MapKept
import Derived.Laws.IdiomStrings
import Derived.Laws.BytesArg
import Derived.Laws.MakeOwn
import Derived.Laws.StructEq
set_option linter.all false
set_option autoImplicit true
set_option relaxedAutoImplicit true
set_option maxRecDepth 100000
namespace Go.Proofs.YtbhphjpgjgigpaaGreatDoor.AL
section
variable [Tabs]
section
variable {P:Program}{G:Gh}{h:ab}{w:World}
def jT (size bytes:Nat) (v x:AV) (h:ab) (K:QT):Prop:=
 match da h size x with
 | none=>False
 | some (m,xs)=>match v with
   | .full n cs=>(cs.length=n*size∧(n+m)*bytes≤1099511627776)∧(if m=0 then K (.full n cs) h else K (.sl h.length 0 (n+m) size) (h++[.cells (cs++xs)]))
   | .sl i off len sz=>(match h[i]? with
     | some (.cells cs)=>(sz=size∧off+len*size=cs.length∧xs.all AV.one=true∧(len+m)*bytes≤1099511627776)∧K (.sl h.length 0 (len+m) size) (h.set i .dead++[.cells (cs.drop off++xs)])
     | _=>False)
   | _=>False
theorem Dm (n:Nat):∀ r c,Builtin.growBy n r c≤max c (n+(n+768) / 4)
 | 0,c=>by simp[Builtin.growBy];omega
 | r+1,c=>by
   simp only[Builtin.growBy]
   split
   ·omega
   ·have:=Dm n r (c+(c+768) / 4)
    omega
theorem KY {need cap:Nat}(h:cap<need):Builtin.nextslicecap need cap≤202*need:=by
 unfold Builtin.nextslicecap
 split
 ·omega
 ·split
  ·omega
  ·have:=Dm need 4 cap
   omega
structure Ae (P:Program) (t t2 e:TypeId) (i:TypeInfo) (z:Value):Prop where
 ht:P.underlying t=some (.slice e)
 ht2:∃ d,P.underlying t2=some d∧∀ k,d≠.int k
 hi:P.info? e=some i
 hz:i.zero=some z
 hzs:z.cells.size=i.size
 hb:0<i.bytes
theorem IL {t2:TypeId}{d:TypeDesc}(h2:P.underlying t2=some d) (hd:∀ k,d≠.int k):(do pure ((← underlying t2) matches .int _):Sem Bool).run P w=.ok false w:=by
 simp only[Sem.run_bind,run_underlying h2,Result.andThen_ok]
 cases d<;>first|rfl|exact absurd rfl (hd _)
theorem AG {t t2 e ty:TypeId}{i:TypeInfo}{z:Value}(T:Ae P t t2 e i z) (base:Option Addr) (sLen sCap m:Nat) (y:Value) (vs vs' old:List Value) (hm:(Builtin.lenOf y).run P w=.ok m w) (hv:(Builtin.firstCells i.size m y).run P w=.ok vs.toArray w)
  (hv':(Builtin.firstCells i.size m y).run P { w with drawn:=w.drawn+1 }=.ok vs'.toArray { w with drawn:=w.drawn+1 }) (ho:(Builtin.firstCells i.size sLen (.slice base sLen sCap)).run P { w with drawn:=w.drawn+1 }=.ok old.toArray { w with drawn:=w.drawn+1 }) (hbd:(sLen+m)*i.bytes≤1099511627776):
  (Builtin.append_ #[t,t2] ty #[.slice base sLen sCap,y]).run P w=
   if sLen+m≤sCap then (match base with|some a=>(do storeCells (a.add (sLen*i.size)) vs;pure (.slice base (sLen+m) sCap):Sem Value)|none=>pure (.slice base (sLen+m) sCap)).run P w
   else
    let c:=sLen+m+(w.tape w.drawn (.appendCap (sLen+m) sCap e))%(2^63-(sLen+m))
    .ok (.slice (some ⟨w.heap.size,0,none⟩) (sLen+m) c) (World.alloc { w with drawn:=w.drawn+1 } (.cells (old.toArray++vs'.toArray++Builtin.zeroCells z.cells (c-(sLen+m))) e)):=by
 obtain⟨ht,⟨d,h2,hd⟩,hi,hz,hzs,hb⟩:=T
 have hzf:=IL (w:=w) h2 hd
 have hmat:(match d with|.int _=>true|_=>false)=false:=by cases d<;>first|rfl|exact absurd rfl (hd _)
 simp only[Builtin.append_]
 simp only[List.getElem?_toArray,List.getElem?_cons_zero,List.getElem?_cons_succ,Sem.run_bind,run_underlying ht,run_underlying h2,Result.andThen_ok,sizeOf,typeInfo,run_program,hi,Sem.run_pure,hmat,Bool.false_eq_true,if_false,hm,Sem.run_ite]
 by_cases hroom:sLen+m≤sCap
 ·rw[if_pos hroom,if_pos hroom]
  simp only[hv,Result.andThen_ok,Bool.not_false,if_true,Sem.run_bind,Sem.run_pure]
  cases base<;>rfl
 ·rw[if_neg hroom,if_neg hroom]
  have hcap:Builtin.nextslicecap (sLen+m) sCap*i.bytes≤2^48:=by
   have h1:=KY (need:=sLen+m) (cap:=sCap) (by omega)
   have h2:Builtin.nextslicecap (sLen+m) sCap*i.bytes≤202*(sLen+m)*i.bytes:=Nat.mul_le_mul_right _ h1
   have h3:202*(sLen+m)*i.bytes=202*((sLen+m)*i.bytes):=Nat.mul_assoc _ _ _
   omega
  have hneed:sLen+m≤1099511627776:=Nat.le_trans (Nat.le_mul_of_pos_right _ hb) hbd
  have hmax:IntKind.i64.max=9223372036854775807:=rfl
  rw[if_neg (by rw[hmax];omega),if_neg (by omega)]
  simp only[run_choose,Question.forced,Question.cut,Bool.false_eq_true,if_false,Result.andThen_ok,run_askRoom]
  simp only[ho,hv',Result.andThen_ok,Bool.not_false,if_true,zeroValue,typeInfo,run_program,hi,hz,Sem.run_bind,Sem.run_pure,newRow,run_newObj]
  rfl
theorem BJ (zs:Array Value) (n:Nat):(Builtin.zeroCells zs n).size=n*zs.size:=by simp[Builtin.zeroCells]
theorem Mu (s:Sim G h w) {size:Nat}{z:Value}{e:TypeId}(hzs:z.cells.size=size) (len m c:Nat) (cs xs:List AV) (old vs:List Value) (hc:len+m≤c) (r1:RepL G cs old) (r2:RepL G xs vs) (h1:cs.length=len*size) (h2:xs.length=m*size) (K:QT)
  (k:K (.sl h.length 0 (len+m) size) (h++[.cells (cs++xs)])):
  ∃ r h' G',Rep G' r (.slice (some ⟨w.heap.size,0,none⟩) (len+m) c)∧K r h'∧Sim G' h' (w.alloc (.cells (old.toArray++vs.toArray++Builtin.zeroCells z.cells (c-(len+m))) e))∧
    Evo G h w G' h' (w.alloc (.cells (old.toArray++vs.toArray++Builtin.zeroCells z.cells (c-(len+m))) e)):=by
 have hsz:(old.toArray++vs.toArray++Builtin.zeroCells z.cells (c-(len+m))).size=c*size:=by
  have e1:=r1.length
  have e2:=r2.length
  simp only[Array.size_append,List.size_toArray,BJ,hzs,e1,e2,h1,h2]
  rw[← Nat.add_mul,← Nat.add_mul,Nat.add_sub_cancel' hc]
 have hget:∀ (j:Nat) (v:Value),(old++vs)[j]?=some v→(old.toArray++vs.toArray++Builtin.zeroCells z.cells (c-(len+m)))[j]?=some v:=fun j v h3=>by
  have hj:j<(old++vs).length:=(List.getElem?_eq_some_iff.1 h3).1
  rw[Array.getElem?_append_left (by simpa using hj)]
  simpa using h3
 generalize (old.toArray++vs.toArray++Builtin.zeroCells z.cells (c-(len+m)))=A at hsz hget ⊢
 have le:=Gh.le_add s.fresh (w.heap.size,0) (c*size)
 have x:ObjAt (G.add h.length (w.heap.size,0) (c*size)) (w.alloc (.cells A e)) h.length (.cells (cs++xs)):=by
  refine⟨w.heap.size,0,A,e,0,0,by simp[Gh.add],?_,by omega,?_,?_,?_⟩
  ·show (w.heap.push _)[w.heap.size]?=_
   simp
  ·simp only[Gh.add,if_true,List.length_append,h1,h2,← Nat.add_mul]
   exact Nat.mul_le_mul_right _ hc
  ·simp only[Gh.add,if_true,hsz];omega
  ·intro j a ha
   obtain⟨v,h3,h4⟩:=(r1.append r2).at j a ha
   exact⟨v,by rw[Nat.zero_add];exact hget j v h3,Rep.mono le a v h4⟩
 obtain⟨s',ev⟩:=lO s _ (.cells (cs++xs)) (c*size) x
 refine⟨_,_,_,?_,k,s',ev⟩
 simp only[Rep]
 exact⟨w.heap.size,0,c,0,by simp[Gh.add],by simp[Gh.add],hc,fun _=>rfl,rfl⟩
theorem Ju (s:Sim G h w) {t t2 e ty:TypeId}{i:TypeInfo}{z:Value}(T:Ae P t t2 e i z) {v x:AV}{a b:Value}(hx:Rep G v a) (hy:Rep G x b) {K:QT}(k:jT i.size i.bytes v x h K):
  Ye P G h w (Builtin.append_ #[t,t2] ty #[a,b]) K:=by
 unfold jT at k
 split at k
 ·exact k.elim
 ·rename_i m xs hxs
  obtain⟨sd,evd⟩:=s.drawn (w.drawn+1)
  obtain⟨vs,hvl,hvr,hm,hv⟩:=lg (P:=P) s hy hxs
  obtain⟨vs',hvl',hvr',_,hv'⟩:=lg (P:=P) sd hy hxs
  have hxl:xs.length=m*i.size:=by rw[← hvl,hvr.length]
  split at k
  ·rename_i n cs
   obtain⟨⟨hcl,hbd⟩,k⟩:=k
   simp only[Rep]at hx
   have hbase:∃ base,a=.slice base n n∧((n=0∧cs=[])∨∃ bb o,base=some ⟨bb,o,none⟩∧RepAt G cs bb o):=by
    rcases hx with ⟨rfl,rfl,za,rfl⟩|⟨bb,o,rfl,h2⟩
    ·exact⟨za,rfl,.inl ⟨rfl,rfl⟩⟩
    ·exact⟨some ⟨bb,o,none⟩,rfl,.inr ⟨bb,o,rfl,h2⟩⟩
   obtain⟨base,rfl,hbase⟩:=hbase
   have hold:∃ old:List Value,RepL G cs old∧(Builtin.firstCells i.size n (.slice base n n)).run P { w with drawn:=w.drawn+1 }=.ok old.toArray { w with drawn:=w.drawn+1 }:=by
    obtain⟨old,o1,o2,_,o4⟩:=lg (P:=P) (size:=i.size) sd (v:=.full n cs) (x:=.slice base n n) (by
     simp only[Rep]
     rcases hbase with ⟨rfl,rfl⟩|⟨bb,o,rfl,h2⟩
     ·exact .inl ⟨rfl,rfl,_,rfl⟩
     ·exact .inr ⟨bb,o,rfl,h2⟩) (m:=n) (xs:=cs) (by simp[da,hcl])
    exact⟨old,o2,o4⟩
   obtain⟨old,ho1,ho2⟩:=hold
   have R:=AG (ty:=ty) T base n n m b vs vs' old hm hv hv' ho2 hbd
   by_cases hm0:m=0
   ·subst hm0
    rw[if_pos rfl]at k
    rw[if_pos (by omega)]at R
    have hvs:vs=[]:=by
     have:vs.length=0:=by simpa using hvl
     exact List.length_eq_zero_iff.1 this
    subst hvs
    refine⟨_,.slice base n n,h,G,w,?_,?_,k,s,Evo.refl _ _ _⟩
    ·rw[R]
     cases base<;>simp[storeCells]
    ·simp only[Rep]
     rcases hbase with ⟨rfl,rfl⟩|⟨bb,o,rfl,h2⟩
     ·exact .inl ⟨rfl,rfl,_,rfl⟩
     ·exact .inr ⟨bb,o,rfl,h2⟩
   ·rw[if_neg hm0]at k
    rw[if_neg (by omega)]at R
    obtain⟨r,h',G',q1,q2,q3,q4⟩:=Mu sd (e:=e) T.hzs n m (n+m+(w.tape w.drawn (.appendCap (n+m) n e))%(2^63-(n+m))) cs xs old vs' (by omega) ho1 hvr' hcl hxl K k
    exact⟨r,_,h',G',_,R,q1,q2,q3,evd.trans q4⟩
  ·rename_i j off len sz
   split at k
   ·rename_i cs hcs
    obtain⟨⟨rfl,hcl,hone,hbd⟩,k⟩:=k
    simp only[Rep]at hx
    obtain⟨bb,o,c,ad,h1,h2,h3,h4,rfl⟩:=hx
    obtain⟨b',o',arr,el,lo,hi',e1,e2,e3,e4,e5,e6⟩:=oh s hcs
    rw[h1]at e1
    cases e1
    have hdl:(cs.drop off).length=len*i.size:=by simp;omega
    have hold:∃ old:List Value,RepL G (cs.drop off) old∧(Builtin.firstCells i.size len (.slice (some ⟨bb,ad,none⟩) len c)).run P { w with drawn:=w.drawn+1 }=.ok old.toArray { w with drawn:=w.drawn+1 }:=by
     obtain⟨old,o1,o2,_,o4⟩:=lg (P:=P) (size:=i.size) sd (v:=.sl j off len i.size) (x:=.slice (some ⟨bb,ad,none⟩) len c) (by
      simp only[Rep];exact⟨bb,o,c,ad,h1,h2,h3,h4,rfl⟩) (m:=len) (xs:=(cs.drop off).take (len*i.size)) (by simp[da,hcs];omega)
     rw[List.take_of_length_le (by omega)]at o2
     exact⟨old,o2,o4⟩
    obtain⟨old,ho1,ho2⟩:=hold
    have R:=AG (ty:=ty) T (some ⟨bb,ad,none⟩) len c m b vs vs' old hm hv hv' ho2 hbd
    by_cases hroom:len+m≤c
    ·rw[if_pos hroom]at R
     have hmul:len*i.size+m*i.size≤c*i.size:=by rw[← Nat.add_mul];exact Nat.mul_le_mul_right _ hroom
     have had:len=0∧m=0∧c=0∨ad=o+off:=by
      rcases Nat.eq_zero_or_pos c with hc0|hc0
      ·exact .inl ⟨by omega,by omega,hc0⟩
      ·exact .inr (h4 hc0)
     have hst:∃ arr':Array Value,(storeCells ((⟨bb,ad,none⟩:Addr).add (len*i.size)) vs).run P w=.ok () (dg w bb (.cells arr' el (lo,hi')))∧arr'.size=arr.size∧arr'.toList=splice arr.toList (o+cs.length) vs:=by
      rcases had with ⟨rfl,rfl,rfl⟩|rfl
      ·have hvs:vs=[]:=by
        have:vs.length=0:=by simpa using hvl
        exact List.length_eq_zero_iff.1 this
       subst hvs
       exact⟨arr,by simp[storeCells,nY w bb _ e2],rfl,by simp[splice]⟩
      ·obtain⟨arr',q1,q2⟩:=qu (P:=P) bb (o+off+len*i.size) el lo hi' vs 0 arr w e2 e3 (by omega) (zL hvr hone)
       refine⟨arr',by rw[dW];exact q1,?_,?_⟩
       ·have:=congrArg List.length q2
        rw[fe (by simp;omega)]at this
        simpa using this
       ·rw[q2];congr 1;omega
     obtain⟨arr',q1,q2,q3⟩:=hst
     have le:=Gh.le_add s.fresh (bb,o+off) (G.cap j-off)
     have x:ObjAt (G.add h.length (bb,o+off) (G.cap j-off)) (dg w bb (.cells arr' el (lo,hi'))) h.length (.cells (cs.drop off++xs)):=by
      refine⟨bb,o+off,arr',el,lo,hi',by simp[Gh.add],kR w bb _ (Array.getElem?_eq_some_iff.1 e2).1,by rw[q2];exact e3,?_,?_,?_⟩
      ·simp only[Gh.add,if_true,List.length_append,hdl,hxl];omega
      ·simp only[Gh.add,if_true,q2];omega
      ·intro p aa ha
       have hget:arr'[o+off+p]?=arr'.toList[o+off+p]?:=by simp
       rw[hget,q3,c5 (by simp;omega)]
       by_cases hp:p<(cs.drop off).length
       ·rw[List.getElem?_append_left hp,List.getElem?_drop]at ha
        rw[if_pos (by simp at hp;omega)]
        obtain⟨v,h5,h6⟩:=e6 _ aa ha
        exact⟨v,by rw[Array.getElem?_toList,← h5];congr 1;omega,Rep.mono le aa v h6⟩
       ·rw[List.getElem?_append_right (by omega)]at ha
        rw[if_neg (by simp at hp;omega)]
        obtain⟨v,h5,h6⟩:=hvr.at _ aa ha
        have hpl:p-(cs.drop off).length<vs.length:=(List.getElem?_eq_some_iff.1 h5).1
        rw[if_pos (by simp at hp hpl;omega)]
        exact⟨v,by rw[← h5];congr 1;simp;omega,Rep.mono le aa v h6⟩
     obtain⟨s',ev⟩:=P6 s hcs rfl h1 (o+off) (G.cap j-off) (.cells arr' el (lo,hi')) (.cells (cs.drop off++xs)) rfl x
     refine⟨_,.slice (some ⟨bb,ad,none⟩) (len+m) c,_,_,_,?_,?_,k,s',ev⟩
     ·rw[R]
      simp only[Sem.run_bind,q1,Result.andThen_ok,Sem.run_pure]
     ·simp only[Rep]
      refine⟨bb,o+off,c,ad,by simp[Gh.add],by simp[Gh.add];omega,hroom,fun hc0=>?_,rfl⟩
      rw[h4 hc0];rfl
    ·rw[if_neg hroom]at R
     obtain⟨s2,ev2⟩:=G4 sd j
     have hlen2:(h.set j .dead).length=h.length:=by simp
     obtain⟨r,h',G',p1,p2,p3,p4⟩:=Mu s2 (e:=e) T.hzs len m (len+m+(w.tape w.drawn (.appendCap (len+m) c e))%(2^63-(len+m))) (cs.drop off) xs old vs' (by omega) ho1 hvr' hdl hxl K (by rw[hlen2];exact k)
     exact⟨r,_,h',G',_,R,p1,p2,p3,(evd.trans ev2).trans p4⟩
   ·exact k.elim
  ·exact k.elim
end
end
section
variable [Tabs]
open Go.MapKept
section
variable {P:Program}{G:Gh}{h:ab}{w:World}
abbrev ft:=List (Value×Nat×AV)
def kOk:TypeDesc→Value→Bool
 | .string,.string _=>true
 | .int k,.int j _=>decide (j=k)
 | _,_=>false
def keq:Value→Value→Bool
 | .string a,.string b=>a==b
 | .int _ a,.int _ b=>a==b
 | _,_=>false
def nA (k:Value):ft→Nat→Option (Nat×Nat×AV)
 | [],_=>none
 | (k',n,v)::r,i=>if keq k k'=true then some (i,n,v) else nA k r (i+1)
def Oe (k:Value) (v:AV) (clock:Nat) (es:ft):AObj:=
 match nA k es 0 with
 | some (i,n,_)=>.amap (es.set i (k,n,v)) clock
 | none=>.amap (es++[(k,clock,v)]) (clock+1)
theorem fF {d:TypeDesc}{k:Value}(h:kOk d k=true):IsKey d k:=by
 cases d<;>cases k<;>simp_all [kOk,IsKey]
theorem AH {d:TypeDesc}{a b:Value}(ha:kOk d a=true) (hb:kOk d b=true):Instr.sameNow d a b=some (keq a b):=by
 cases d<;>cases a<;>cases b<;>simp_all [kOk,Instr.sameNow,keq]
theorem Qt {d:TypeDesc}{a b:Value}(ha:kOk d a=true) (hb:kOk d b=true) (h:keq a b=true):a=b:=by
 obtain⟨r,h1,h2⟩:=sameNow_of_keys (fF ha) (fF hb)
 rw[AH ha hb]at h1
 cases h1
 exact h2.1 h
theorem wV {d:TypeDesc}{k:Value}(hk:kOk d k=true):∀ (es:ft) (l:List MapEntry) (i:Nat),RepE G es l→es.all (fun e=>kOk d e.1)=true→
  match nA k es i with
  | none=>Instr.findNow d k l i=some none
  | some (j,n,a)=>∃ e,Instr.findNow d k l i=some (some (j,e.val))∧i≤j∧l[j-i]?=some e∧e.born=n∧e.key=k∧Rep G a e.val∧es[j-i]?=some (k,n,a)
 | [],l,i,r,_=>by simp only[RepE]at r;subst r;simp[nA,Instr.findNow]
 | (k',n,a)::es,l,i,r,hf=>by
   simp only[RepE]at r
   obtain⟨e,rest,rfl,h1,h2,h3,h4⟩:=r
   simp only[List.all_cons,Bool.and_eq_true]at hf
   have hs:=AH hk hf.1
   simp only[nA]
   by_cases hq:keq k k'=true
   ·rw[if_pos hq]
    have:=Qt hk hf.1 hq
    subst this
    rw[hq]at hs
    exact⟨e,by simp only[Instr.findNow,h1,hs],Nat.le_refl _,by simp,h2,h1,h3,by simp⟩
   ·rw[if_neg hq]
    rw[show keq k k'=false by simpa using hq]at hs
    have ih:=wV hk es rest (i+1) h4 hf.2
    have hstep:Instr.findNow d k (e::rest) i=Instr.findNow d k rest (i+1):=by simp only[Instr.findNow,h1,hs]
    rw[hstep]
    cases hm:nA k es (i+1) with
    | none=>rw[hm]at ih;exact ih
    | some p=>
      obtain⟨j,n',a'⟩:=p
      rw[hm]at ih
      obtain⟨e',q1,q2,q3,q4,q5,q6,q7⟩:=ih
      refine⟨e',q1,by omega,?_,q4,q5,q6,?_⟩
      ·rw[show j-i=(j-(i+1))+1 by omega];simpa using q3
      ·rw[show j-i=(j-(i+1))+1 by omega];simpa using q7
theorem RepE.at {G:Gh}:∀ {es:ft}{l:List MapEntry},RepE G es l→∀ (j:Nat) (k:Value) (n:Nat) (a:AV),es[j]?=some (k,n,a)→∃ e,l[j]?=some e∧e.key=k∧e.born=n∧Rep G a e.val
 | [],l,h,j,k,n,a,e=>by simp at e
 | (k',n',a')::es,l,h,j,k,n,a,e=>by
   simp only[RepE]at h
   obtain⟨x,r,rfl,h1,h2,h3,h4⟩:=h
   cases j with
   | zero=>simp at e;obtain⟨rfl,rfl,rfl⟩:=e;exact⟨x,by simp,h1,h2,h3⟩
   | succ j=>simpa using RepE.at h4 j k n a (by simpa using e)
theorem qv {G:Gh}:∀ {es:ft}{l:List MapEntry},l.length=es.length→(∀ (j:Nat) (k:Value) (n:Nat) (a:AV),es[j]?=some (k,n,a)→∃ e,l[j]?=some e∧e.key=k∧e.born=n∧Rep G a e.val)→RepE G es l
 | [],l,hl,_=>by simp only[RepE];simpa using hl
 | (k,n,a)::es,[],hl,_=>by simp at hl
 | (k,n,a)::es,x::l,hl,h=>by
   simp only[RepE]
   obtain⟨e,h1,h2,h3,h4⟩:=h 0 k n a (by simp)
   simp at h1;subst h1
   exact⟨x,l,rfl,h2,h3,h4,qv (by simpa using hl) fun j k n a e=>by simpa using h (j+1) k n a (by simpa using e)⟩
theorem RepE.append {G:Gh}{es fs:ft}{l m:List MapEntry}(h:RepE G es l) (k:RepE G fs m):RepE G (es++fs) (l++m):=
 qv (by simp[h.length,k.length]) fun j key n a e=>by
  by_cases hj:j<es.length
  ·rw[List.getElem?_append_left hj]at e
   rw[List.getElem?_append_left (by rw[h.length];exact hj)]
   exact h.at _ _ _ _ e
  ·rw[List.getElem?_append_right (by omega)]at e
   rw[List.getElem?_append_right (by rw[h.length];omega),h.length]
   exact k.at _ _ _ _ e
theorem RepE.eraseIdx {G:Gh}{es:ft}{l:List MapEntry}(h:RepE G es l) (i:Nat):RepE G (es.eraseIdx i) (l.eraseIdx i):=
 qv (by rw[List.length_eraseIdx,List.length_eraseIdx,h.length]) fun j key n a e=>by
  rw[List.getElem?_eraseIdx]at e ⊢
  split at e
  ·rename_i hj;rw[if_pos hj];exact h.at _ _ _ _ e
  ·rename_i hj;rw[if_neg hj];exact h.at _ _ _ _ e
theorem RepE.set {G:Gh}{es:ft}{arr:Array MapEntry}(h:RepE G es arr.toList) (i:Nat) (k:Value) (n:Nat) (a:AV) (f:MapEntry→MapEntry) (hf:∀ e,arr[i]?=some e→(f e).key=k∧(f e).born=n∧Rep G a (f e).val):RepE G (es.set i (k,n,a)) (arr.modify i f).toList:=
 qv (by simp[← h.length]) fun j key m b e=>by
  rw[Array.getElem?_toList,Array.getElem?_modify]
  rw[List.getElem?_set]at e
  by_cases hij:i=j
  ·subst hij
   simp only[if_true]at e ⊢
   split at e
   ·rename_i hlt
    have hl:=h.length
    obtain⟨x,hx⟩:∃ x,arr[i]?=some x:=⟨arr[i]'(by simp at hl;omega),by simp⟩
    cases e
    obtain⟨q1,q2,q3⟩:=hf x hx
    exact⟨f x,by simp[hx],q1,q2,q3⟩
   ·cases e
  ·rw[if_neg hij]at e
   simp only[if_neg hij]
   obtain⟨x,h1,h2⟩:=h.at _ _ _ _ e
   exact⟨x,by simpa using h1,h2⟩
theorem ij (s:Sim G h w) {i:Nat}{es:ft}{clock:Nat}(hi:h[i]?=some (.amap es clock)):∃ b arr,G.loc i=some (b,0)∧w.heap[b]?=some (.map arr clock)∧RepE G es arr.toList:=s.obj i _ hi
def ie (d:TypeDesc) (ok:Bool) (z x key:AV) (h:ab) (K:AV→Prop):Prop:=
 match key with
 | .lit k=>match x with
   | .lit (.map none)=>if kOk d k=true then K (if ok then .tup [z,B false] else z) else False
   | .map i=>match h[i]? with
     | some (.amap es _)=>if (kOk d k&&es.all fun e=>kOk d e.1)=true then (match nA k es 0 with
       | some (_,_,v)=>K (if ok then .tup [v,B true] else v)
       | none=>K (if ok then .tup [z,B false] else z)) else False
     | _=>False
   | _=>False
 | _=>False
theorem uW {t:TypeId}{i:TypeInfo}{z:Value}(hi:P.info? t=some i) (hz:i.zero=some z):(zeroValue t).run P w=.ok z w:=by
 simp only[zeroValue,typeInfo,Sem.run_bind,run_program,Result.andThen_ok,hi,Sem.run_pure,hz]
theorem JR (s:Sim G h w) {t kt et:TypeId}{d:TypeDesc}{i:TypeInfo}{z:Value}{ok:Bool}(ht:P.underlying t=some (.map kt et)) (hd:P.underlying kt=some d) (hi:P.info? et=some i) (hz:i.zero=some z) (hzo:okV z=true)
  {x key:AV} {xv kv:Value} (hx:Rep G x xv) (hk:Rep G key kv) {K:AV→Prop} (k:ie d ok (ofV z) x key h K):Yl P G w (Instr.lookup t xv kv ok) K:=by
 have hzr:=uW (P:=P) (w:=w) hi hz
 have pair:∀ {a:AV} {v:Value} (b:Bool),Rep G a v→Rep G (if ok then .tup [a,B b] else a) (if ok then .tuple #[v,.bool b] else v):=fun b r=>by
  cases ok
  ·exact r
  ·simp only[if_true,Rep,RepL]
   exact⟨_,rfl,_,_,rfl,r,_,_,rfl,⟨rfl,rfl⟩,rfl⟩
 unfold ie at k
 split at k
 ·rename_i kk
  simp only[Rep]at hk
  obtain⟨rfl,_⟩:=hk
  split at k
  ·split at k
   ·rename_i hkk
    simp only[Rep]at hx
    obtain⟨rfl,_⟩:=hx
    refine⟨_,_,?_,pair false (oB G z hzo),k⟩
    simp only[Instr.lookup,Sem.run_bind,run_underlying ht,Result.andThen_ok,Sem.run_pure,run_checkKey hd (fF hkk),run_findKey hd (show Instr.findNow d kv [] 0=some none from rfl),hzr]
   ·exact k.elim
  ·rename_i j
   split at k
   ·rename_i es clock hes
    split at k
    ·rename_i hall
     simp only[Bool.and_eq_true]at hall
     simp only[Rep]at hx
     obtain⟨b,h1,rfl⟩:=hx
     obtain⟨b',arr,e1,e2,e3⟩:=ij s hes
     rw[h1]at e1;cases e1
     have hf:=wV hall.1 es arr.toList 0 e3 hall.2
     split at k
     ·rename_i q n v hm
      simp only[hm]at hf
      obtain⟨e,q1,_,q3,q4,q5,q6,_⟩:=hf
      refine⟨_,_,?_,pair true q6,k⟩
      simp only[Instr.lookup,Sem.run_bind,run_underlying ht,Result.andThen_ok,Sem.run_pure,run_getObj_map e2,run_checkKey hd (fF hall.1),run_findKey hd q1]
     ·rename_i hm
      simp only[hm]at hf
      refine⟨_,_,?_,pair false (oB G z hzo),k⟩
      simp only[Instr.lookup,Sem.run_bind,run_underlying ht,Result.andThen_ok,Sem.run_pure,run_getObj_map e2,run_checkKey hd (fF hall.1),run_findKey hd hf,hzr]
    ·exact k.elim
   ·exact k.elim
  ·exact k.elim
 ·exact k.elim
theorem tX (s:Sim G h w) {i:Nat}{es es':ft}{clock clock':Nat}(hi:h[i]?=some (.amap es clock)) {b:Nat}(hl:G.loc i=some (b,0)) (arr':Array MapEntry) (hr:RepE G es' arr'.toList):
  Sim G (h.set i (.amap es' clock')) { w with heap:=w.heap.setIfInBounds b (.map arr' clock') }∧Evo G h w G (h.set i (.amap es' clock')) { w with heap:=w.heap.setIfInBounds b (.map arr' clock') }:=by
 obtain⟨b',arr,e1,e2,e3⟩:=ij s hi
 rw[hl]at e1;cases e1
 exact tK s hi rfl hl rfl ⟨b,arr',hl,kR w b _ (Array.getElem?_eq_some_iff.1 e2).1,hr⟩
def ga (d:TypeDesc) (x key v:AV) (h:ab) (K:ab→Prop):Prop:=
 match key,x with
 | .lit k,.map i=>(match h[i]? with
   | some (.amap es clock)=>if (kOk d k&&es.all fun e=>kOk d e.1)=true then K (h.set i (Oe k v clock es)) else False
   | _=>False)
 | _,_=>False
theorem Ht {k:Value}{n:Nat}{a:AV}{v:Value}(r:Rep G a v):RepE G [(k,n,a)] [{ key:=k,val:=v,born:=n }]:=by
 simp only[RepE];exact⟨_,_,rfl,rfl,rfl,r,rfl⟩
theorem u9 (s:Sim G h w) {t kt et:TypeId}{d:TypeDesc}(ht:P.underlying t=some (.map kt et)) (hd:P.underlying kt=some d) {x key v:AV}{xv kv vv:Value}(hx:Rep G x xv) (hk:Rep G key kv) (hv:Rep G v vv) {K:ab→Prop}(k:ga d x key v h K):
  ∃ h' G' w',(Instr.mapUpdate t xv kv vv).run P w=.ok () w'∧K h'∧Sim G' h' w'∧Evo G h w G' h' w':=by
 unfold ga at k
 split at k
 ·rename_i kk i
  split at k
  ·rename_i es clock hes
   split at k
   ·rename_i hall
    simp only[Bool.and_eq_true]at hall
    simp only[Rep]at hx hk
    obtain⟨rfl,_⟩:=hk
    obtain⟨b,h1,rfl⟩:=hx
    obtain⟨b',arr,e1,e2,e3⟩:=ij s hes
    rw[h1]at e1;cases e1
    have hf:=wV hall.1 es arr.toList 0 e3 hall.2
    have hkk:=fF hall.1
    unfold Oe at k
    split at k
    ·rename_i q n v0 hm
     simp only[hm]at hf
     obtain⟨e,q1,_,q3,q4,q5,q6,_⟩:=hf
     have q3':arr[q]?=some e:=by simpa using q3
     obtain⟨s',ev⟩:=tX (clock':=clock) s hes h1 (arr.modify q fun e=>{ e with key:=kv,val:=vv }) (e3.set q kv n v _ fun e' he'=>by
      rw[q3']at he';cases he';exact⟨rfl,q4,hv⟩)
     refine⟨_,_,_,?_,k,s',ev⟩
     simp only[Instr.mapUpdate,Sem.run_bind,run_underlying ht,Result.andThen_ok,run_getObj_map e2,run_checkKey hd hkk,run_findKey hd q1,q3',Option.map_some,Option.getD_some,q5,run_keyThatStays hkk,run_setObj_map _ e2]
    ·rename_i hm
     simp only[hm]at hf
     obtain⟨s',ev⟩:=tX (clock':=clock+1) (es':=es++[(kv,clock,v)]) s hes h1 (arr.push { key:=kv,val:=vv,born:=clock }) (by rw[Array.toList_push];exact e3.append (Ht hv))
     refine⟨_,_,_,?_,k,s',ev⟩
     simp only[Instr.mapUpdate,Sem.run_bind,run_underlying ht,Result.andThen_ok,run_getObj_map e2,run_checkKey hd hkk,run_findKey hd hf,run_setObj_map _ e2]
   ·exact k.elim
  ·exact k.elim
 ·exact k.elim
def ik (d:TypeDesc) (z x key:AV) (h:ab) (K:QT):Prop:=
 match key,x with
 | .lit k,.map i=>(match h[i]? with
   | some (.amap es clock)=>if (kOk d k&&es.all fun e=>kOk d e.1)=true then (match nA k es 0 with
     | some (_,n,v)=>K (.tup [v,I n]) h
     | none=>K (.tup [z,I clock]) (h.set i (.amap (es++[(k,clock,z)]) (clock+1)))) else False
   | _=>False)
 | _,_=>False
theorem IH {arr:Array MapEntry}{q:Nat}{e:MapEntry}{f:MapEntry→MapEntry}(h:arr[q]?=some e) (hf:f e=e):arr.modify q f=arr:=by
 apply Array.ext_getElem?
 intro i
 rw[Array.getElem?_modify]
 split
 ·rename_i hi;subst hi;simp[h,hf]
 ·rfl
theorem F0 (s:Sim G h w) {t kt et:TypeId}{d:TypeDesc}{i:TypeInfo}{z:Value}(ht:P.underlying t=some (.map kt et)) (hd:P.underlying kt=some d) (hi:P.info? et=some i) (hz:i.zero=some z) (hzo:okV z=true)
  {x key:AV} {xv kv:Value} (hx:Rep G x xv) (hk:Rep G key kv) {K:QT} (k:ik d (ofV z) x key h K):Ye P G h w (Instr.mapEntry t xv kv) K:=by
 have hzr:=uW (P:=P) (w:=w) hi hz
 unfold ik at k
 split at k
 ·rename_i kk j
  split at k
  ·rename_i es clock hes
   split at k
   ·rename_i hall
    simp only[Bool.and_eq_true]at hall
    simp only[Rep]at hx hk
    obtain⟨rfl,_⟩:=hk
    obtain⟨b,h1,rfl⟩:=hx
    obtain⟨b',arr,e1,e2,e3⟩:=ij s hes
    rw[h1]at e1;cases e1
    have hf:=wV hall.1 es arr.toList 0 e3 hall.2
    have hkk:=fF hall.1
    split at k
    ·rename_i q n v0 hm
     simp only[hm]at hf
     obtain⟨e,q1,_,q3,q4,q5,q6,_⟩:=hf
     have q3':arr[q]?=some e:=by simpa using q3
     have hse:(arr.modify q fun e=>{ e with key:=kv })=arr:=IH q3' (by rw[← q5])
     refine⟨_,.tuple #[e.val,.int .i64 n],h,G,w,?_,?_,k,s,Evo.refl _ _ _⟩
     ·simp only[Instr.mapEntry,Sem.run_bind,run_underlying ht,Result.andThen_ok,run_getObj_map e2,run_checkKey hd hkk,run_findKey hd q1,q3',Option.map_some,Option.getD_some,q5,run_keyThatStays hkk,run_setObj_map _ e2,hse,Sem.run_pure]
      rw[show w.heap.setIfInBounds b (.map arr clock)=w.heap from by
       have:=nY w b _ e2;exact congrArg World.heap this]
      simp[goInt,q4]
     ·simp only[Rep,RepL]
      exact⟨_,rfl,_,_,rfl,q6,_,_,rfl,⟨rfl,rfl⟩,rfl⟩
    ·rename_i hm
     simp only[hm]at hf
     obtain⟨s',ev⟩:=tX (clock':=clock+1) (es':=es++[(kv,clock,ofV z)]) s hes h1 (arr.push { key:=kv,val:=z,born:=clock }) (by rw[Array.toList_push];exact e3.append (Ht (oB G z hzo)))
     refine⟨_,.tuple #[z,.int .i64 clock],_,_,_,?_,?_,k,s',ev⟩
     ·simp only[Instr.mapEntry,Sem.run_bind,run_underlying ht,Result.andThen_ok,run_getObj_map e2,run_checkKey hd hkk,run_findKey hd hf,hzr,run_setObj_map _ e2,Sem.run_pure]
      rfl
     ·simp only[Rep,RepL]
      exact⟨_,rfl,_,_,rfl,oB G z hzo,_,_,rfl,⟨rfl,rfl⟩,rfl⟩
   ·exact k.elim
  ·exact k.elim
 ·exact k.elim
def qS (n:Int):ft→Nat→Option (Nat×Value×Nat)
 | [],_=>none
 | (k,b,_)::r,i=>if ((b:Int)==n)=true then some (i,k,b) else qS n r (i+1)
def fb (x st v:AV) (h:ab) (K:ab→Prop):Prop:=
 match st,x with
 | .lit (.int .i64 n),.map i=>(match h[i]? with
   | some (.amap es clock)=>(match qS n es 0 with
     | some (j,k,b)=>K (h.set i (.amap (es.set j (k,b,v)) clock))
     | none=>False)
   | _=>False)
 | _,_=>False
theorem DG {n:Int}:∀ {es:ft}{l:List MapEntry}{i:Nat},RepE G es l→∀ {j:Nat}{k:Value}{b:Nat},qS n es i=some (j,k,b)→
  l.findIdx? (fun e=>(e.born:Int)==n)=some (j-i)∧i≤j∧∃ e,l[j-i]?=some e∧e.key=k∧e.born=b
 | [],l,i,r,j,k,b,h=>by simp[qS]at h
 | (k',b',a)::es,l,i,r,j,k,b,h=>by
   simp only[RepE]at r
   obtain⟨e,rest,rfl,h1,h2,h3,h4⟩:=r
   simp only[qS]at h
   by_cases hq:((b':Int)==n)=true
   ·rw[if_pos hq]at h
    cases h
    rw[← h2]at hq
    exact⟨by simp[List.findIdx?_cons,hq],Nat.le_refl _,e,by simp,h1,h2⟩
   ·rw[if_neg hq]at h
    obtain⟨q1,q2,e',q3,q4⟩:=DG h4 h
    rw[← h2]at hq
    refine⟨?_,by omega,e',?_,q4⟩
    ·rw[List.findIdx?_cons,if_neg hq,q1]
     simp;omega
    ·rw[show j-i=(j-(i+1))+1 by omega];simpa using q3
theorem BD (s:Sim G h w) {t:TypeId}{x st v:AV}{xv sv vv:Value}(hx:Rep G x xv) (hs:Rep G st sv) (hv:Rep G v vv) {K:ab→Prop}(k:fb x st v h K):
  ∃ h' G' w',(Instr.entryStore t xv sv vv).run P w=.ok () w'∧K h'∧Sim G' h' w'∧Evo G h w G' h' w':=by
 unfold fb at k
 split at k
 ·rename_i n i
  split at k
  ·rename_i es clock hes
   split at k
   ·rename_i j kk b0 hb0
    simp only[Rep]at hx hs
    obtain⟨rfl,_⟩:=hs
    obtain⟨b,h1,rfl⟩:=hx
    obtain⟨b',arr,e1,e2,e3⟩:=ij s hes
    rw[h1]at e1;cases e1
    obtain⟨q1,_,e,q3,q4,q5⟩:=DG e3 hb0
    have q3':arr[j]?=some e:=by simpa using q3
    have q1':arr.findIdx? (fun e=>(e.born:Int)==n)=some j:=by

     clear e2 q3 q3' e3
     obtain⟨l⟩:=arr
     simpa using q1
    obtain⟨s',ev⟩:=tX (clock':=clock) s hes h1 (arr.modify j fun e=>{ e with val:=vv }) (e3.set j kk b0 v _ fun e' he'=>by
     rw[q3']at he';cases he';exact⟨q4,q5,hv⟩)
    refine⟨_,_,_,?_,k,s',ev⟩
    simp only[Instr.entryStore,Sem.run_bind,run_getObj_map e2,Result.andThen_ok,asInt,asIntOf,Sem.run_pure,q1',run_setObj_map _ e2]
   ·exact k.elim
  ·exact k.elim
 ·exact k.elim
def of (d:TypeDesc) (x key:AV) (h:ab) (K:ab→Prop):Prop:=
 match key with
 | .lit k=>match x with
   | .lit (.map none)=>if kOk d k=true then K h else False
   | .map i=>(match h[i]? with
     | some (.amap es clock)=>if (kOk d k&&es.all fun e=>kOk d e.1)=true then (match nA k es 0 with
       | some (j,_,_)=>K (h.set i (.amap (es.eraseIdx j) clock))
       | none=>K h) else False
     | _=>False)
   | _=>False
 | _=>False
theorem Kg (s:Sim G h w) {t kt et ty:TypeId}{d:TypeDesc}(ht:P.underlying t=some (.map kt et)) (hd:P.underlying kt=some d) {x key:AV}{xv kv:Value}(hx:Rep G x xv) (hk:Rep G key kv) {ts:Array TypeId}(hts:ts[0]?=some t) {K:ab→Prop}(k:of d x key h K):
  Ye P G h w (Builtin.delete_ ts ty #[xv,kv]) fun r h'=>r=.tup []∧K h':=by
 unfold of at k
 split at k
 ·rename_i kk
  simp only[Rep]at hk
  obtain⟨rfl,_⟩:=hk
  split at k
  ·split at k
   ·rename_i hkk
    simp only[Rep]at hx
    obtain⟨rfl,_⟩:=hx
    refine⟨.tup [],.tuple #[],h,G,w,?_,by simp[Rep,RepL],⟨rfl,k⟩,s,Evo.refl _ _ _⟩
    simp[Builtin.delete_,hts,run_underlying ht,run_checkKey hd (fF hkk)]
   ·exact k.elim
  ·rename_i i
   split at k
   ·rename_i es clock hes
    split at k
    ·rename_i hall
     simp only[Bool.and_eq_true]at hall
     simp only[Rep]at hx
     obtain⟨b,h1,rfl⟩:=hx
     obtain⟨b',arr,e1,e2,e3⟩:=ij s hes
     rw[h1]at e1;cases e1
     have hf:=wV hall.1 es arr.toList 0 e3 hall.2
     have hkk:=fF hall.1
     split at k
     ·rename_i q n v0 hm
      simp only[hm]at hf
      obtain⟨e,q1,_,q3,q4,q5,q6,_⟩:=hf
      have q3':arr[q]?=some e:=by simpa using q3
      have hlt:q<arr.size:=(Array.getElem?_eq_some_iff.1 q3').1
      obtain⟨s',ev⟩:=tX (clock':=clock) (es':=es.eraseIdx q) s hes h1 (arr.eraseIdxIfInBounds q) (by
       unfold Array.eraseIdxIfInBounds
       rw[dif_pos hlt]
       simp only[Array.toList_eraseIdx]
       exact e3.eraseIdx q)
      refine⟨.tup [],.tuple #[],_,_,_,?_,by simp[Rep,RepL],⟨rfl,k⟩,s',ev⟩
      simp[Builtin.delete_,hts,run_underlying ht,run_getObj_map e2,run_checkKey hd hkk,run_findKey hd q1,run_setObj_map _ e2]
     ·rename_i hm
      simp only[hm]at hf
      refine⟨.tup [],.tuple #[],h,G,w,?_,by simp[Rep,RepL],⟨rfl,k⟩,s,Evo.refl _ _ _⟩
      simp[Builtin.delete_,hts,run_underlying ht,run_getObj_map e2,run_checkKey hd hkk,run_findKey hd hf,run_setObj_map _ e2]
      have:=nY w b _ e2
      exact this
    ·exact k.elim
   ·exact k.elim
  ·exact k.elim
 ·exact k.elim
def px (h:ab) (K:QT):Prop:=K (.map h.length) (h++[.amap [] 0])
theorem HN (s:Sim G h w) {t:TypeId}{K:QT}(k:px h K):Ye P G h w (Instr.makeMap t none) K:=by
 obtain⟨s',ev⟩:=lO s (.map #[] 0) (.amap [] 0) 0 ⟨w.heap.size,#[],by simp[Gh.add],by show (w.heap.push _)[w.heap.size]?=_;simp,by simp[RepE]⟩
 refine⟨_,.map (some w.heap.size),_,_,_,?_,?_,k,s',ev⟩
 ·simp[Instr.makeMap]
 ·simp only[Rep]
  exact⟨_,by simp[Gh.add],rfl⟩
def nZ (x:AV) (h:ab) (K:QT):Prop:=
 match x with
 | .lit (.string s)=>K (.ptr h.length 0) (h++[.siter s 0])
 | _=>False
theorem Km (s:Sim G h w) {t:TypeId}(ht:P.underlying t=some .string) {x:AV}{xv:Value}(hx:Rep G x xv) {K:QT}(k:nZ x h K):Ye P G h w (Instr.range t xv) K:=by
 unfold nZ at k
 split at k
 ·rename_i str
  simp only[Rep]at hx
  obtain⟨rfl,_⟩:=hx
  obtain⟨s',ev⟩:=lO s (.stringIter str 0) (.siter str 0) 0 ⟨w.heap.size,by simp[Gh.add],by show (w.heap.push _)[w.heap.size]?=_;simp⟩
  refine⟨_,.pointer (some ⟨w.heap.size,0,none⟩),_,_,_,?_,?_,k,s',ev⟩
  ·simp[Instr.range,run_underlying ht]
  ·simp only[Rep]
   exact⟨_,0,by simp[Gh.add],rfl⟩
 ·exact k.elim
def qK (x:AV) (h:ab) (K:QT):Prop:=
 match x with
 | .ptr i 0=>(match h[i]? with
   | some (.siter s pos)=>if pos<s.size then K (.tup [B true,I pos,.lit (.int .i32 (Utf8.decode s pos).1)]) (h.set i (.siter s (pos+(Utf8.decode s pos).2))) else K (.tup [B false]) h
   | _=>False)
 | _=>False
theorem MQ (s:Sim G h w) {t:TypeId}{x:AV}{xv:Value}(hx:Rep G x xv) {K:QT}(k:qK x h K):Ye P G h w (Instr.next xv true t) K:=by
 unfold qK at k
 split at k
 ·rename_i i
  split at k
  ·rename_i str pos hes
   simp only[Rep]at hx
   obtain⟨b,o,h1,rfl⟩:=hx
   obtain⟨b',e1,e2⟩:=s.obj _ _ hes
   rw[h1]at e1;cases e1
   have hg:(getObj b).run P w=.ok (.stringIter str pos) w:=by simp[getObj,Sem.run,e2]
   split at k
   ·rename_i hlt
    obtain⟨s',ev⟩:=tK (ob:=.stringIter str (pos+(Utf8.decode str pos).2)) (o':=.siter str (pos+(Utf8.decode str pos).2)) s hes rfl h1 rfl ⟨b,h1,kR w b _ (Array.getElem?_eq_some_iff.1 e2).1⟩
    refine⟨_,.tuple #[.bool true,goInt pos,.int .i32 (Utf8.decode str pos).1],_,_,_,?_,?_,k,s',ev⟩
    ·simp only[Instr.next,Nat.add_zero,Sem.run_bind,hg,Result.andThen_ok,hlt,if_true]
     simp[setObj,Sem.run,e2,dg]
    ·simp only[Rep,RepL]
     exact⟨_,rfl,_,_,rfl,⟨rfl,rfl⟩,_,_,rfl,⟨rfl,rfl⟩,_,_,rfl,⟨rfl,rfl⟩,rfl⟩
   ·rename_i hlt
    refine⟨_,.tuple #[.bool false],_,_,_,?_,?_,k,s,Evo.refl _ _ _⟩
    ·simp only[Instr.next,Nat.add_zero,Sem.run_bind,hg,Result.andThen_ok,hlt,if_false,Sem.run_pure]
    ·simp only[Rep,RepL]
     exact⟨_,rfl,_,_,rfl,⟨rfl,rfl⟩,rfl⟩
  ·exact k.elim
 ·exact k.elim
end
end
section
variable [Tabs]
open Go.MapKept
section
variable {P:Program}{G:Gh}{h:ab}{w:World}
def mQ (x:AV) (h:ab) (K:QT):Prop:=
 match x with
 | .lit (.map none)=>K (.ptr h.length 0) (h++[.miter none 0 [] 0])
 | .map i=>(match h[i]? with
   | some (.amap es clock)=>K (.ptr h.length 0) (h++[.miter (some i) clock [] clock])
   | _=>False)
 | _=>False
theorem Ld (s:Sim G h w) {t kt et:TypeId}(ht:P.underlying t=some (.map kt et)) {x:AV}{xv:Value}(hx:Rep G x xv) {K:QT}(k:mQ x h K):Ye P G h w (Instr.range t xv) K:=by
 unfold mQ at k
 split at k
 ·simp only[Rep]at hx
  obtain⟨rfl,_⟩:=hx
  obtain⟨s',ev⟩:=lO s (.mapIter none 0 #[] 0) (.miter none 0 [] 0) 0 ⟨w.heap.size,none,by simp[Gh.add],by show (w.heap.push _)[w.heap.size]?=_;simp,rfl⟩
  refine⟨_,.pointer (some ⟨w.heap.size,0,none⟩),_,_,_,?_,?_,k,s',ev⟩
  ·simp[Instr.range,run_underlying ht]
  ·simp only[Rep]
   exact⟨_,0,by simp[Gh.add],rfl⟩
 ·rename_i i
  split at k
  ·rename_i es clock hes
   simp only[Rep]at hx
   obtain⟨b,h1,rfl⟩:=hx
   obtain⟨b',arr,e1,e2,e3⟩:=ij s hes
   rw[h1]at e1;cases e1
   have le:=Gh.le_add s.fresh (w.heap.size,0) 0
   obtain⟨s',ev⟩:=lO s (.mapIter (some b) clock #[] clock) (.miter (some i) clock [] clock) 0 ⟨w.heap.size,some b,by simp[Gh.add],by show (w.heap.push _)[w.heap.size]?=_;simp,b,le.loc _ _ h1,rfl⟩
   refine⟨_,.pointer (some ⟨w.heap.size,0,none⟩),_,_,_,?_,?_,k,s',ev⟩
   ·simp[Instr.range,run_underlying ht,run_getObj_map e2]
   ·simp only[Rep]
    exact⟨_,0,by simp[Gh.add],rfl⟩
  ·exact k.elim
 ·exact k.elim
def q8 (x:AV) (h:ab) (K:QT):Prop:=
 match x with
 | .ptr i 0=>(match h[i]? with
   | some (.miter none _ _ _)=>K (.tup [B false]) h
   | some (.miter (some j) since seen last)=>(match h[j]? with
     | some (.amap es clock)=>
       ((es.all fun e=>e.1.oneCell')=true∧(!seen.isEmpty&&!es.isEmpty&&es.all fun e=>decide (e.2.1≥last))=false)∧
       ((∀ e∈es,e.2.1∈seen∨since≤e.2.1)→K (.tup [B false]) h)∧
       ∀ e∈es,e.2.1∉seen→K (.tup [B true,.lit e.1,e.2.2]) (h.set i (.miter (some j) since (seen++[e.2.1]) clock))
     | _=>False)
   | _=>False)
 | _=>False
theorem Rr {es:ft}{l:List MapEntry}(r:RepE G es l) {e:MapEntry}(he:e∈l):∃ a,(e.key,e.born,a)∈es∧Rep G a e.val:=by
 obtain⟨j,hj⟩:=List.mem_iff_getElem?.1 he
 have hlt:j<es.length:=by rw[← r.length];exact (List.getElem?_eq_some_iff.1 hj).1
 obtain⟨e',q1,q2,q3,q4⟩:=r.at j es[j].1 es[j].2.1 es[j].2.2 (List.getElem?_eq_getElem hlt)
 rw[hj]at q1;cases q1
 exact⟨es[j].2.2,by rw[q2,q3];exact List.getElem_mem hlt,q4⟩
theorem QX {es:ft}{l:List MapEntry}(r:RepE G es l) (f:Nat→Bool):l.all (fun e=>f e.born)=es.all (fun e=>f e.2.1):=by
 induction es generalizing l with
 | nil=>unfold RepE at r;subst r;rfl
 | cons x es ih=>
   obtain⟨k,n,a⟩:=x
   unfold RepE at r
   obtain⟨e,rest,rfl,h1,h2,h3,h4⟩:=r
   simp only[List.all_cons,h2,ih h4]
theorem NZ (s:Sim G h w) {t:TypeId}{x:AV}{xv:Value}(hx:Rep G x xv) {K:QT}(k:q8 x h K):Ye P G h w (Instr.next xv false t) K:=by
 unfold q8 at k
 split at k
 ·rename_i i
  have over:∀ {w':World},Sim G h w'→Evo G h w G h w'→(Instr.next xv false t).run P w=.ok (.tuple #[.bool false]) w'→K (.tup [B false]) h→Ye P G h w (Instr.next xv false t) K:=fun {w'} s' ev hr k=>
   ⟨_,_,h,G,w',hr,by simp only[Rep,RepL];exact⟨_,rfl,_,_,rfl,⟨rfl,rfl⟩,rfl⟩,k,s',ev⟩
  simp only[Rep]at hx
  obtain⟨b,o,h1,rfl⟩:=hx
  split at k
  ·rename_i c1 c2 c3 hes
   obtain⟨b',mb,e1,e2,rfl⟩:=s.obj _ _ hes
   rw[h1]at e1;cases e1
   refine over s (Evo.refl _ _ _) ?_ k
   have hg:(getObj b).run P w=.ok (.mapIter none c1 c2.toArray c3) w:=by simp[getObj,Sem.run,e2]
   simp only[Instr.next,Nat.add_zero,Sem.run_bind,hg,Result.andThen_ok,Sem.run_pure]
  ·rename_i j since seen last hes
   split at k
   ·rename_i es clock hm
    obtain⟨⟨hone,hgone⟩,k0,k1⟩:=k
    obtain⟨b',mb,e1,e2,q,hq,rfl⟩:=s.obj _ _ hes
    rw[h1]at e1;cases e1
    obtain⟨q',arr,e4,e5,e6⟩:=ij s hm
    rw[hq]at e4;cases e4
    have hg:(getObj b).run P w=.ok (.mapIter (some q) since seen.toArray last) w:=by simp[getObj,Sem.run,e2]
    have hg2:(getObj q).run P w=.ok (.map arr clock) w:=run_getObj_map e5
    have hemp:arr.isEmpty=es.isEmpty:=by
     rw[← Array.isEmpty_toList]
     have hl2:=e6.length
     generalize arr.toList=l at hl2
     cases es with
     | nil=>cases l with|nil=>rfl|cons y l=>simp at hl2
     | cons x es=>cases l with|nil=>simp at hl2|cons y l=>rfl
    have hcond:(!seen.toArray.isEmpty&&!arr.isEmpty&&arr.all (·.born≥last))=false:=by
     rw[← Array.all_toList,QX e6 (fun n=>decide (n≥last)),hemp]
     simpa using hgone
    generalize hcs:((if ((arr.filter fun e=>!seen.toArray.contains e.born).filter (·.born<since)).isEmpty then #[none] else #[])++(((arr.filter fun e=>!seen.toArray.contains e.born).filter (·.born<since))++((arr.filter fun e=>!seen.toArray.contains e.born).filter (·.born≥since))).map some:Array (Option MapEntry))=cs
    have hpos:0<cs.size:=by
     subst hcs
     split
     ·simp;omega
     ·rename_i hne
      rw[Array.isEmpty_iff]at hne
      have:0<((arr.filter fun e=>!seen.toArray.contains e.born).filter (·.born<since)).size:=Nat.pos_of_ne_zero fun e=>hne (by simpa using e)
      simp only[Array.size_append,Array.size_map];omega
    have hcase:∀ c∈cs,(c=none∧∀ e∈es,e.2.1∈seen∨since≤e.2.1)∨∃ e,c=some e∧e∈arr∧e.born∉seen:=by
     subst hcs
     intro c hc
     rcases Array.mem_append.1 hc with hc|hc
     ·split at hc
      ·rename_i hne
       left
       refine⟨by simpa using hc,fun e he=>?_⟩
       by_cases h1:e.2.1∈seen
       ·exact .inl h1
       ·refine .inr (Nat.le_of_not_lt fun hlt=>?_)
        obtain⟨jj,hj⟩:=List.mem_iff_getElem?.1 he
        obtain⟨e',q1,q2,q3,q4⟩:=e6.at jj e.1 e.2.1 e.2.2 hj
        simp only[Array.isEmpty_iff]at hne
        have:e'∈((arr.filter fun e=>!seen.toArray.contains e.born).filter (·.born<since)):=by
         simp only[Array.mem_filter,q3]
         refine⟨⟨Array.mem_of_getElem? (by simpa using q1),by simpa using h1⟩,by simpa using hlt⟩
        rw[hne]at this
        simp at this
      ·simp at hc
     ·obtain⟨e,he,rfl⟩:=Array.mem_map.1 hc
      right
      refine⟨e,rfl,?_⟩
      rcases Array.mem_append.1 he with he|he
      ·simp only[Array.mem_filter]at he;exact⟨he.1.1,by simpa using he.1.2⟩
      ·simp only[Array.mem_filter]at he;exact⟨he.1.1,by simpa using he.1.2⟩
    have hdraw:∃ idx w',(choose (.mapNext cs.size)).run P w=.ok idx w'∧idx<cs.size∧(w'=w∨w'={ w with drawn:=w.drawn+1 }):=by
     rw[run_choose]
     split
     ·exact⟨0,w,rfl,hpos,.inl rfl⟩
     ·exact⟨_,_,rfl,by simp only[Question.cut];exact Nat.mod_lt _ hpos,.inr rfl⟩
    obtain⟨idx,w',hd1,hd2,hd3⟩:=hdraw
    have hs':Sim G h w'∧Evo G h w G h w':=by
     rcases hd3 with rfl|rfl
     ·exact⟨s,Evo.refl _ _ _⟩
     ·exact s.drawn _
    have hheap:w'.heap=w.heap:=by rcases hd3 with rfl|rfl<;>rfl
    have hget:cs[idx]?=some cs[idx]:=by simp[hd2]
    rcases hcase cs[idx] (Array.getElem_mem hd2) with ⟨hn,hall⟩|⟨e,he,hmem,hns⟩
    ·refine over hs'.1 hs'.2 ?_ (k0 hall)
     simp only[Instr.next,Nat.add_zero,Sem.run_bind,hg,Result.andThen_ok,hg2,hcond,Bool.false_eq_true,if_false,Sem.run_ite,Sem.run_pure,hcs,hd1,hget,hn]
    ·obtain⟨a,ha1,ha2⟩:=Rr e6 (by simpa using hmem)
     have K1:=k1 _ ha1 hns
     obtain⟨s2,ev2⟩:=tK (ob:=.mapIter (some q) since (seen.toArray.push e.born) clock) (o':=.miter (some j) since (seen++[e.born]) clock) hs'.1 hes rfl h1 rfl ⟨b,some q,h1,by
      rw[kR w' b _ (by rw[hheap];exact (Array.getElem?_eq_some_iff.1 e2).1)];simp,q,hq,rfl⟩
     refine⟨_,.tuple #[.bool true,e.key,e.val],_,_,_,?_,?_,K1,s2,hs'.2.trans ev2⟩
     ·simp only[Instr.next,Nat.add_zero,Sem.run_bind,hg,Result.andThen_ok,hg2,hcond,Bool.false_eq_true,if_false,Sem.run_ite,Sem.run_pure,hcs,hd1,hget,he]
      simp[setObj,Sem.run,hheap,e2,dg]
     ·simp only[Rep,RepL]
      have hk1:e.key.oneCell'=true:=List.all_eq_true.1 hone _ ha1
      exact⟨_,rfl,_,_,rfl,⟨rfl,rfl⟩,_,_,rfl,⟨rfl,hk1⟩,_,_,rfl,ha2,rfl⟩
   ·exact k.elim
  ·exact k.elim
 ·exact k.elim
def lZ (n:Nat):ft→Option (Value×AV)
 | []=>none
 | (k,b,v)::r=>if (b==n)=true then some (k,v) else lZ n r
def mh (x:AV) (h:ab) (K:AV→Prop):Prop:=
 match x with
 | .ptr i 0=>(match h[i]? with
   | some (.miter (some j) _ seen last)=>(match h[j]?,seen.getLast? with
     | some (.amap es clock),some n=>(match lZ n es with
       | some (k,v)=>if (k.oneCell'&&clock==last)=true then K (.tup [.lit k,v]) else False
       | none=>False)
     | _,_=>False)
   | _=>False)
 | _=>False
theorem yR {n:Nat}:∀ {es:ft}{l:List MapEntry},RepE G es l→∀ {k:Value}{v:AV},lZ n es=some (k,v)→∃ e,l.find? (·.born==n)=some e∧e.key=k∧Rep G v e.val
 | [],l,r,k,v,h=>by simp[lZ]at h
 | (k',b,a)::es,l,r,k,v,h=>by
   simp only[RepE]at r
   obtain⟨e,rest,rfl,h1,h2,h3,h4⟩:=r
   simp only[lZ]at h
   by_cases hq:(b==n)=true
   ·rw[if_pos hq]at h
    cases h
    exact⟨e,by simp[List.find?_cons,h2,hq],h1,h3⟩
   ·rw[if_neg hq]at h
    obtain⟨e',q1,q2⟩:=yR h4 h
    refine⟨e',?_,q2⟩
    rw[List.find?_cons,h2]
    simp only[Bool.not_eq_true]at hq
    simp only[hq]
    exact q1
theorem Oy (s:Sim G h w) {x:AV}{xv:Value}(hx:Rep G x xv) {K:AV→Prop}(k:mh x h K):Yl P G w (Instr.entry xv) K:=by
 unfold mh at k
 split at k
 ·rename_i i
  simp only[Rep]at hx
  obtain⟨b,o,h1,rfl⟩:=hx
  split at k
  ·rename_i j since seen last hes
   split at k
   ·rename_i es clock n hm hn
    split at k
    ·rename_i kk v hb
     split at k
     ·rename_i hc
      simp only[Bool.and_eq_true,beq_iff_eq]at hc
      obtain⟨b',mb,e1,e2,q,hq,rfl⟩:=s.obj _ _ hes
      rw[h1]at e1;cases e1
      obtain⟨q',arr,e4,e5,e6⟩:=ij s hm
      rw[hq]at e4;cases e4
      have hg:(getObj b).run P w=.ok (.mapIter (some q) since seen.toArray last) w:=by simp[getObj,Sem.run,e2]
      obtain⟨e,f1,f2,f3⟩:=yR e6 hb
      have f1':arr.find? (·.born==n)=some e:=by
       clear e5 e6
       obtain⟨l⟩:=arr
       simpa using f1
      have hback:seen.toArray.back?=some n:=by
       rw[List.back?_toArray];exact hn
      refine⟨_,.tuple #[e.key,e.val],?_,?_,k⟩
      ·simp only[Instr.entry,Nat.add_zero,Sem.run_bind,hg,Result.andThen_ok,hback,run_getObj_map e5]
       rw[if_neg (by simp[hc.2])]
       simp[f1']
      ·simp only[Rep,RepL]
       rw[f2]
       exact⟨_,rfl,_,_,rfl,⟨rfl,hc.1⟩,_,_,rfl,f3,rfl⟩
     ·exact k.elim
    ·exact k.elim
   ·exact k.elim
  ·exact k.elim
 ·exact k.elim
end
end
section
variable [Tabs]
section
variable {P:Program}{G:Gh}{h:ab}{w:World}
def oe:List AV→Option (List UInt8)
 | []=>some []
 | .lit (.int .u8 n)::r=>match oe r with|some l=>some (UInt8.ofNat n.toNat::l)|none=>none
 | _=>none
theorem yI:∀ {xs:List AV}{vs:List Value}{l:List UInt8},RepL G xs vs→oe xs=some l→∃ ns:List Int,vs=ns.map (Value.int .u8)∧l=ns.map fun n=>UInt8.ofNat n.toNat
 | [],vs,l,r,h=>by simp only[RepL]at r;simp only[oe,Option.some.injEq]at h;subst r;subst h;exact⟨[],rfl,rfl⟩
 | a::xs,vs,l,r,h=>by
   simp only[RepL]at r
   obtain⟨v,ws,rfl,h1,h2⟩:=r
   unfold oe at h
   split at h
   ·rename_i hn;cases hn
   ·rename_i n r' hn
    cases hn
    split at h
    ·rename_i l' hl
     cases h
     obtain⟨ns,rfl,rfl⟩:=yI h2 hl
     simp only[Rep]at h1
     exact⟨n::ns,by simp[h1.1],by simp⟩
    ·cases h
   ·cases h
def uC:AV→Bool
 | .sl _ _ _ _=>true
 | .snap _ _=>true
 | .full _ _=>true
 | _=>false
def eO (x:AV) (h:ab) (K:AV→Prop):Prop:=
 if uC x=true then (match da h 1 x with
  | some (_,xs)=>(match oe xs with|some l=>K (S ⟨l.toArray⟩)|none=>False)
  | none=>False) else False
theorem MK {x:AV}{v:Value}(hx:Rep G x v) (hr:uC x=true):∃ a l c,v=.slice a l c:=by
 cases x<;>simp[uC]at hr<;>simp only[Rep]at hx
 ·obtain⟨b,o,c,ad,_,_,_,_,rfl⟩:=hx;exact⟨_,_,_,rfl⟩
 ·rcases hx with ⟨_,_,_,rfl⟩|⟨b,o,c,_,rfl,_⟩<;>exact⟨_,_,_,rfl⟩
 ·rcases hx with ⟨_,_,_,rfl⟩|⟨b,o,rfl,_⟩<;>exact⟨_,_,_,rfl⟩
theorem F8 (s:Sim G h w) {src dst e:TypeId}(hs:P.underlying src=some (.slice e)) (he:P.underlying e=some (.int .u8)) (hd:P.underlying dst=some .string) {x:AV}{v:Value}(hx:Rep G x v) {K:AV→Prop}(k:eO x h K):
  Yl P G w (convert src dst v) K:=by
 unfold eO at k
 split at k
 ·rename_i hr
  split at k
  ·rename_i m xs hxs
   split at k
   ·rename_i l hl
    obtain⟨vs,q1,q2,q3,q4⟩:=lg (P:=P) s hx hxs
    obtain⟨ns,rfl,rfl⟩:=yI q2 hl
    obtain⟨a,len,c,rfl⟩:=MK hx hr
    refine⟨_,.string ⟨(ns.map fun n=>UInt8.ofNat n.toNat).toArray⟩,?_,by simp[Rep,Value.oneCell'],k⟩
    rw[run_convert_bytes_string w src dst e a len c hs he hd]
    have hlen:len=m:=by simpa [Builtin.lenOf] using q3
    subst hlen
    cases a with
    | none=>
      have:ns=[]:=by
       simp[Builtin.firstCells]at q4
       exact q4.symm ▸ rfl
      subst this
      simp[Conv.bytesToString];rfl
    | some a=>
      have hlc:(loadCells a len).run P w=.ok (ns.map (Value.int .u8)).toArray w:=by
       simpa [Builtin.firstCells] using q4
      rw[run_bytesToString w a len c ns hlc,foldl_push_bytes]
      congr 2
      apply ByteArray.ext
      simp[ByteArray.empty,ByteArray.emptyWithCapacity]
      rfl
   ·exact k.elim
  ·exact k.elim
 ·exact k.elim
def io (x:AV) (h:ab) (K:QT):Prop:=
 match x with
 | .lit (.string s)=>K (.sl h.length 0 s.size 1) (h++[.cells (s.data.toList.map fun b=>.lit (.int .u8 b.toNat))])
 | _=>False
theorem Gf (s:Sim G h w) {src dst e:TypeId}(hs:P.underlying src=some .string) (hd:P.underlying dst=some (.slice e)) (he:P.underlying e=some (.int .u8)) {x:AV}{v:Value}(hx:Rep G x v) {K:QT}(k:io x h K):
  Ye P G h w (convert src dst v) K:=by
 unfold io at k
 split at k
 ·rename_i str
  simp only[Rep]at hx
  obtain⟨rfl,_⟩:=hx
  obtain⟨sd,evd⟩:=s.drawn (w.drawn+1)
  have hge:str.size≤grownCap w str.size 0 e:=by simp only[grownCap,Question.cut];omega
  have hrun:=run_bytes_of_string (P:=P) w src dst e str hs hd he
  generalize grownCap w str.size 0 e=c at hge hrun
  have hsz:(bytesRow str c).size=c:=by
   have:str.data.size=str.size:=rfl
   simp only[bytesRow,Array.size_append,Array.size_map,Array.size_replicate];omega
  generalize hC:bytesRow str c=C at hrun hsz
  have x:ObjAt (G.add h.length (w.drew.heap.size,0) c) (w.drew.alloc (.cells C e (C.size,C.size+1))) h.length (.cells (str.data.toList.map fun b=>.lit (.int .u8 b.toNat))):=by
   refine⟨w.heap.size,0,C,e,C.size,C.size+1,by simp[Gh.add],?_,by omega,?_,?_,?_⟩
   ·show (w.heap.push _)[w.heap.size]?=_
    simp
   ·simp only[Gh.add,if_true,List.length_map,Array.length_toList];exact hge
   ·simp only[Gh.add,if_true,hsz];omega
   ·intro j a ha
    rw[List.getElem?_map]at ha
    cases hj:str.data.toList[j]? with
    | none=>rw[hj]at ha;cases ha
    | some b=>
      rw[hj]at ha
      simp only[Option.map_some,Option.some.injEq]at ha
      subst ha
      have hlt:j<str.data.toList.length:=(List.getElem?_eq_some_iff.1 hj).1
      refine⟨.int .u8 b.toNat,?_,by simp[Rep,Value.oneCell']⟩
      rw[← hC,Nat.zero_add]
      unfold bytesRow
      rw[Array.getElem?_append_left (by simpa using hlt)]
      have:str.data[j]?=some b:=by simpa using hj
      simp[this]
  obtain⟨s',ev⟩:=lO sd (.cells C e (C.size,C.size+1)) _ c x
  refine⟨_,_,_,_,_,hrun,?_,k,s',evd.trans ev⟩
  simp only[Rep]
  exact⟨w.heap.size,0,c,0,by simp[Gh.add],by simp[Gh.add],hge,fun _=>rfl,rfl⟩
 ·exact k.elim
def fY (bytes:Nat) (z l c:AV) (h:ab) (K:QT):Prop:=
 match l,c with
 | .lit (.int _ l),.lit (.int _ c)=>(0≤l∧l≤c∧(bytes:Int)*c≤1099511627776∧c≤1099511627776)∧K (.sl h.length 0 l.toNat 1) (h++[.cells (List.replicate c.toNat z)])
 | _,_=>False
theorem Cy (s:Sim G h w) {t e:TypeId}{i:TypeInfo}{z:Value}(ht:P.underlying t=some (.slice e)) (hi:P.info? e=some i) (hz:i.zero=some z) (h1:i.size=1) (hzo:z.oneCell'=true) {l c:AV}{lv cv:Value}(hl:Rep G l lv) (hc:Rep G c cv) {K:QT}
  (k:fY i.bytes (Bm z) l c h K):Ye P G h w (Instr.makeSlice t lv cv) K:=by
 unfold fY at k
 split at k
 ·rename_i kl l' kc c'
  obtain⟨⟨q1,q2,q3,q4⟩,k⟩:=k
  simp only[Rep]at hl hc
  obtain⟨rfl,_⟩:=hl
  obtain⟨rfl,_⟩:=hc
  have hrun:=run_make (P:=P) w t e i z ht hi hz kl kc l' c' q1 q2 (by omega) (by omega)
  rw[h1,Nat.mul_one]at hrun
  have hcells:∀ j,j<c'.toNat→(madeCells z.cells c'.toNat)[j]?=some z:=fun j hj=>by
   simp[madeCells,hj,qR hzo,Nat.mod_one]
  have x:ObjAt (G.add h.length (w.heap.size,0) c'.toNat) (w.alloc (.cells (madeCells z.cells c'.toNat) e)) h.length (.cells (List.replicate c'.toNat (Bm z))):=by
   refine⟨w.heap.size,0,madeCells z.cells c'.toNat,e,0,0,by simp[Gh.add],?_,by omega,?_,?_,?_⟩
   ·show (w.heap.push _)[w.heap.size]?=_
    simp
   ·simp[Gh.add]
   ·simp[Gh.add,size_madeCells]
   ·intro j a ha
    have hj:j<c'.toNat:=by have:=(List.getElem?_eq_some_iff.1 ha).1;simpa using this
    rw[List.getElem?_replicate,if_pos hj]at ha
    cases ha
    exact⟨z,by rw[Nat.zero_add];exact hcells j hj,AF _ z hzo⟩
  obtain⟨s',ev⟩:=lO s (.cells (madeCells z.cells c'.toNat) e) _ c'.toNat x
  refine⟨_,_,_,_,_,hrun,?_,k,s',ev⟩
  simp only[Rep]
  exact⟨w.heap.size,0,c'.toNat,0,by simp[Gh.add],by simp[Gh.add],by omega,fun _=>rfl,rfl⟩
 ·exact k.elim
def j5 (op:BinOp) (x:AV) (K:AV→Prop):Prop:=
 match op,x with
 | .eql,.map _=>K (B false)
 | .neq,.map _=>K (B true)
 | .eql,.lit (.map none)=>K (B true)
 | .neq,.lit (.map none)=>K (B false)
 | _,_=>False
def kp (op:BinOp) (x:AV) (K:AV→Prop):Prop:=
 match op,x with
 | .eql,.iface _ _=>K (B false)
 | .neq,.iface _ _=>K (B true)
 | .eql,.lit .nilIface=>K (B true)
 | .neq,.lit .nilIface=>K (B false)
 | _,_=>False
def kB (op:BinOp) (x:AV) (K:AV→Prop):Prop:=
 match op,x with
 | .eql,.fn _ _ _=>K (B false)
 | .neq,.fn _ _ _=>K (B true)
 | .eql,.lit .nilFunc=>K (B true)
 | .neq,.lit .nilFunc=>K (B false)
 | _,_=>False
def o6 (op:BinOp) (b:Bool) (K:AV→Prop):Prop:=match op with|.eql=>K (B b)|.neq=>K (B !b)|_=>False
def lA (op:BinOp) (x:AV) (K:AV→Prop):Prop:=
 match x with
 | .sl _ _ _ _=>o6 op false K
 | .full n _=>if n=0 then o6 op true K∧o6 op false K else o6 op false K
 | .snap n _=>if n=0 then o6 op true K∧o6 op false K else o6 op false K
 | _=>False
theorem S9 (G:Gh) (b:Bool):Rep G (B b) (.bool b):=by simp[Rep,Value.oneCell']
theorem gD {t:TypeId}{x y:Value}{b:Bool}(h:∀ d,(Op.equalIn (d+1) t x y).run P w=.ok b w):(Op.equal t x y).run P w=.ok b w:=h 9999
theorem gG {op:BinOp}{t:TypeId}{xo:Operand}{c x:Value}{b:Bool}{K:AV→Prop}(hg:eqGuard op t xo (.const c) x c=pure ())
  (h1:binOp .eql t x c=(do pure (.bool (← Op.equal t x c)))) (h2:binOp .neq t x c=(do pure (.bool (!(← Op.equal t x c))))) (he:(Op.equal t x c).run P w=.ok b w)
  (k:o6 op b K):Yl P G w (do eqGuard op t xo (.const c) x c;binOp op t x c) K:=by
 rw[hg]
 cases op<;>simp only[o6]at k
 case eql=>exact⟨_,.bool b,by simp[h1,he],S9 G _,k⟩
 case neq=>exact⟨_,.bool (!b),by simp[h2,he],S9 G _,k⟩
theorem JF {t kt et:TypeId}(ht:P.underlying t=some (.map kt et)) {op:BinOp}{xo:Operand}{x:AV}{v:Value}(hx:Rep G x v) {K:AV→Prop}(k:j5 op x K):Yl P G w (do eqGuard op t xo (.const (.map none)) v (.map none);binOp op t v (.map none)) K:=by
 have hg:∀ r,eqGuard op t xo (.const (.map none)) (.map r) (.map none)=pure ():=fun r=>by unfold eqGuard;split<;>rfl
 unfold j5 at k
 split at k<;>try simp only[Rep]at hx
 ·obtain⟨b,_,rfl⟩:=hx
  exact gG (b:=false) (hg _) rfl rfl (gD fun d=>by simp[Op.equalIn,run_underlying ht]) k
 ·obtain⟨b,_,rfl⟩:=hx
  exact gG (b:=false) (hg _) rfl rfl (gD fun d=>by simp[Op.equalIn,run_underlying ht]) k
 ·obtain⟨rfl,_⟩:=hx
  exact gG (b:=true) (hg _) rfl rfl (gD fun d=>by simp[Op.equalIn,run_underlying ht]) k
 ·obtain⟨rfl,_⟩:=hx
  exact gG (b:=true) (hg _) rfl rfl (gD fun d=>by simp[Op.equalIn,run_underlying ht]) k
 ·exact k.elim
theorem Jw {t:TypeId}{ms:Array (String×TypeId)}(ht:P.underlying t=some (.interface ms)) {op:BinOp}{xo:Operand}{x:AV}{v:Value}(hx:Rep G x v) {K:AV→Prop}(k:kp op x K):Yl P G w (do eqGuard op t xo (.const .nilIface) v .nilIface;binOp op t v .nilIface) K:=by
 have hg:∀ u y,eqGuard op t xo (.const .nilIface) (.iface u y) .nilIface=pure ():=fun u y=>by unfold eqGuard;split<;>rfl
 have hg2:eqGuard op t xo (.const .nilIface) .nilIface .nilIface=pure ():=by
  unfold eqGuard
  split<;>first|rfl|(simp;done)
 unfold kp at k
 split at k<;>try simp only[Rep]at hx
 ·obtain⟨y,rfl,_⟩:=hx
  exact gG (b:=false) (hg _ _) rfl rfl (gD fun d=>by simp[Op.equalIn,run_underlying ht]) k
 ·obtain⟨y,rfl,_⟩:=hx
  exact gG (b:=false) (hg _ _) rfl rfl (gD fun d=>by simp[Op.equalIn,run_underlying ht]) k
 ·obtain⟨rfl,_⟩:=hx
  exact gG (b:=true) hg2 rfl rfl (gD fun d=>by simp[Op.equalIn,run_underlying ht]) k
 ·obtain⟨rfl,_⟩:=hx
  exact gG (b:=true) hg2 rfl rfl (gD fun d=>by simp[Op.equalIn,run_underlying ht]) k
 ·exact k.elim
theorem Lb {t:TypeId}{a b:Array TypeId}{c:Bool}(ht:P.underlying t=some (.func a b c)) {op:BinOp}{xo:Operand}{x:AV}{v:Value}(hx:Rep G x v) {K:AV→Prop}(k:kB op x K):Yl P G w (do eqGuard op t xo (.const .nilFunc) v .nilFunc;binOp op t v .nilFunc) K:=by
 have hg:∀ x,eqGuard op t xo (.const .nilFunc) x .nilFunc=pure ():=fun x=>by unfold eqGuard;split<;>first|rfl|(split<;>first|rfl|simp_all)
 unfold kB at k
 split at k<;>try simp only[Rep]at hx
 ·obtain⟨y,z,rfl,_⟩:=hx
  exact gG (b:=false) (hg _) rfl rfl (gD fun d=>by simp[Op.equalIn,run_underlying ht]) k
 ·obtain⟨y,z,rfl,_⟩:=hx
  exact gG (b:=false) (hg _) rfl rfl (gD fun d=>by simp[Op.equalIn,run_underlying ht]) k
 ·obtain⟨rfl,_⟩:=hx
  exact gG (b:=true) (hg _) rfl rfl (gD fun d=>by simp[Op.equalIn,run_underlying ht]) k
 ·obtain⟨rfl,_⟩:=hx
  exact gG (b:=true) (hg _) rfl rfl (gD fun d=>by simp[Op.equalIn,run_underlying ht]) k
 ·exact k.elim
theorem Kw {t e:TypeId}(ht:P.underlying t=some (.slice e)) {op:BinOp}{xo:Operand}{x:AV}{v:Value}(hx:Rep G x v) {K:AV→Prop}(k:lA op x K):Yl P G w (do eqGuard op t xo (.const (.slice none 0 0)) v (.slice none 0 0);binOp op t v (.slice none 0 0)) K:=by
 have hg:∀ a b c,eqGuard op t xo (.const (.slice none 0 0)) (.slice a b c) (.slice none 0 0)=pure ():=fun a b c=>by unfold eqGuard;split<;>rfl
 have some_ok:∀ (a:Addr) (l c:Nat),o6 op false K→Yl P G w (do eqGuard op t xo (.const (.slice none 0 0)) (.slice (some a) l c) (.slice none 0 0);binOp op t (.slice (some a) l c) (.slice none 0 0)) K:=fun a l c k=>
  gG (b:=false) (hg _ _ _) rfl rfl (gD fun d=>by simp[Op.equalIn,run_underlying ht]) k
 have none_ok:o6 op true K→Yl P G w (do eqGuard op t xo (.const (.slice none 0 0)) (.slice none 0 0) (.slice none 0 0);binOp op t (.slice none 0 0) (.slice none 0 0)) K:=fun k=>
  gG (b:=true) (hg _ _ _) rfl rfl (gD fun d=>by simp[Op.equalIn,run_underlying ht]) k
 unfold lA at k
 split at k<;>try simp only[Rep]at hx
 ·obtain⟨b,o,c,ad,_,_,_,_,rfl⟩:=hx;exact some_ok _ _ _ k
 ·rcases hx with ⟨rfl,_,za,rfl⟩|⟨b,o,rfl,_⟩
  ·rw[if_pos rfl]at k
   cases za with
   | none=>exact none_ok k.1
   | some za=>exact some_ok _ _ _ k.2
  ·refine some_ok _ _ _ ?_
   split at k
   ·exact k.2
   ·exact k
 ·rcases hx with ⟨rfl,_,za,rfl⟩|⟨b,o,c,_,rfl,_⟩
  ·rw[if_pos rfl]at k
   cases za with
   | none=>exact none_ok k.1
   | some za=>exact some_ok _ _ _ k.2
  ·refine some_ok _ _ _ ?_
   split at k
   ·exact k.2
   ·exact k
 ·exact k.elim
end
end
section
variable [Tabs]
section
variable {P:Program}{G:Gh}{h:ab}{w:World}
def Uz:TypeDesc→AV→AV→Option Bool
 | .bool,.lit (.bool a),.lit (.bool b)=>some (a==b)
 | .int _,.lit (.int j a),.lit (.int k b)=>if j=k then some (a==b) else none
 | .string,.lit (.string a),.lit (.string b)=>some (a==b)
 | _,_,_=>none
def uf:List TypeDesc→List AV→List AV→Option Bool
 | [],[],[]=>some true
 | d::ds,a::az,b::bs=>match Uz d a b with
   | some x=>(match uf ds az bs with|some y=>some (x&&y)|none=>none)
   | none=>none
 | _,_,_=>none
def Bv (op:BinOp) (ds:List TypeDesc) (x y:AV) (K:AV→Prop):Prop:=
 match x,y with
 | .agg az,.agg bs=>(match uf ds az bs with|some b=>o6 op b K|none=>False)
 | _,_=>False
def sq (P:Program):List Field→Nat→Option (List TypeDesc)
 | [],_=>some []
 | f :: fs, k => if (f.offset == k && f.name != "_") = true then (match P.underlying f.type with
   | some .bool=>(sq P fs (k+1)).map (.bool::·)
   | some (.int j)=>(sq P fs (k+1)).map (.int j::·)
   | some .string=>(sq P fs (k+1)).map (.string::·)
   | _=>none) else none
theorem S2 {d:TypeDesc}{a b:AV}{x y:Value}{r:Bool}(hx:Rep G a x) (hy:Rep G b y) (h:Uz d a b=some r) {t:TypeId}(ht:P.underlying t=some d) (n:Nat):(Op.equalIn (n+1) t x y).run P w=.ok r w:=by
 unfold Uz at h
 split at h
 ·simp only[Rep]at hx hy
  obtain⟨rfl,_⟩:=hx
  obtain⟨rfl,_⟩:=hy
  cases h
  simp[Op.equalIn,run_underlying ht]
 ·simp only[Rep]at hx hy
  obtain⟨rfl,_⟩:=hx
  obtain⟨rfl,_⟩:=hy
  split at h
  ·rename_i hk
   cases h
   subst hk
   simp[Op.equalIn,run_underlying ht]
  ·cases h
 ·simp only[Rep]at hx hy
  obtain⟨rfl,_⟩:=hx
  obtain⟨rfl,_⟩:=hy
  cases h
  simp[Op.equalIn,run_underlying ht]
 ·cases h
theorem Jd {t:TypeId}{d:TypeDesc}(ht:P.underlying t=some d) (hd:j9 d=false) {cs:Array Value}{k:Nat}{v:Value}(h:cs[k]?=some v):(part t cs k).run P w=.ok v w:=by
 simp[part,py ht,hd,h]
theorem B5 (n:Nat):∀ (fs:List Field) (k:Nat) (ds:List TypeDesc) (az bs:List AV) (xs ys:Array Value) (r:Bool),sq P fs k=some ds→RepL G az (xs.toList.drop k)→RepL G bs (ys.toList.drop k)→uf ds az bs=some r→
  (Op.eqFields (n+1) xs ys fs).run P w=.ok r w
 | [],k,ds,az,bs,xs,ys,r,hf,hx,hy,h=>by
   simp only[sq,Option.some.injEq]at hf
   subst hf
   unfold uf at h
   split at h
   ·cases h;simp[Op.eqFields]
   ·rename_i hn;cases hn
   ·cases h
 | f::fs,k,ds,az,bs,xs,ys,r,hf,hx,hy,h=>by
   simp only[sq]at hf
   split at hf
   ·rename_i hc
    simp only[Bool.and_eq_true,beq_iff_eq,bne_iff_ne,ne_eq]at hc
    have key:∀ (d:TypeDesc),P.underlying f.type=some d→j9 d=false→(sq P fs (k+1)).map (d::·)=some ds→(Op.eqFields (n+1) xs ys (f::fs)).run P w=.ok r w:=by
     intro d hd hag hm
     cases hfs:sq P fs (k+1) with
     | none=>rw[hfs]at hm;cases hm
     | some ds'=>
       rw[hfs]at hm
       simp only[Option.map_some,Option.some.injEq]at hm
       subst hm
       unfold uf at h
       split at h
       ·rename_i hn;cases hn
       ·rename_i d' ds2 a az' b bs' hn
        cases hn
        split at h
        ·rename_i x hx1
         split at h
         ·rename_i y hy1
          cases h
          simp only[RepL]at hx hy
          obtain⟨v,vs,e1,r1,r2⟩:=hx
          obtain⟨u,us,e2,r3,r4⟩:=hy
          have hv:xs[k]?=some v:=by have:=congrArg (·[0]?) e1;simpa using this
          have hu:ys[k]?=some u:=by have:=congrArg (·[0]?) e2;simpa using this
          have hvs:vs=xs.toList.drop (k+1):=by have:=congrArg List.tail e1;simpa using this.symm
          have hus:us=ys.toList.drop (k+1):=by have:=congrArg List.tail e2;simpa using this.symm
          have ih:=B5 n fs (k+1) ds' az' bs' xs ys y hfs (hvs ▸ r2) (hus ▸ r4) hy1
          simp only[Op.eqFields,Sem.run_bind,Sem.run_ite,hc.1]
          rw[if_pos (by simpa using hc.2)]
          simp only[Jd hd hag hv,Jd hd hag hu,Result.andThen_ok,S2 r1 r3 hx1 hd n]
          cases x
          ·simp
          ·simpa using ih
         ·cases h
        ·cases h
       ·cases h
    split at hf
    ·exact key _ ‹_› rfl hf
    ·exact key _ ‹_› rfl hf
    ·exact key _ ‹_› rfl hf
    ·cases hf
   ·cases hf
theorem Su {t:TypeId}{fs:Array Field}{ds:List TypeDesc}(ht:P.underlying t=some (.struct fs)) (hf:sq P fs.toList 0=some ds) (hp:P.stoodInHeld t=false) (hm:P.eqGuardType P.depth t=false) {op:BinOp}{xo yo:Operand}{x y:AV}{a b:Value}(hx:Rep G x a) (hy:Rep G y b)
  {K:AV→Prop} (k:Bv op ds x y K):Yl P G w (do eqGuard op t xo yo a b;binOp op t a b) K:=by
 unfold Bv at k
 split at k
 ·rename_i az bs
  split at k
  ·rename_i r hr
   simp only[Rep]at hx hy
   obtain⟨vs,rfl,hx⟩:=hx
   obtain⟨us,rfl,hy⟩:=hy
   have hfo:P.fieldsOf t=fs:=by simp[Program.fieldsOf,ht]
   have he:∀ n,(Op.equalIn (n+2) t (.agg vs.toArray) (.agg us.toArray)).run P w=.ok r w:=fun n=>by
    rw[run_equalIn_struct w (n+1) t _ _ (by rw[hfo];exact ht) hp,hfo]
    exact B5 n _ 0 ds az bs _ _ r hf (by simpa using hx) (by simpa using hy) hr
   have hg:=run_eqGuard_agg (P:=P) w op t xo yo vs.toArray us.toArray hm
   cases op<;>simp only[o6]at k
   case eql=>exact⟨_,.bool r,by rw[Sem.run_bind,hg,Result.andThen_ok,run_eql_struct,he 9998];rfl,S9 G _,k⟩
   case neq=>exact⟨_,.bool (!r),by rw[Sem.run_bind,hg,Result.andThen_ok,run_neq_struct,he 9998];rfl,S9 G _,k⟩
  ·exact k.elim
 ·exact k.elim
end
end
section
variable [Tabs]
def vb (v:AV) (K:AV→Prop):Prop:=match v with|.lit (.string s)=>K (I s.size)|_=>False
def uJ (v:AV) (K:AV→Prop):Prop:=match v with|.sl _ _ len _=>K (I len)|.snap n _=>K (I n)|.full n _=>K (I n)|_=>False
def uH (v:AV) (h:ab) (K:AV→Prop):Prop:=match v with|.map i=>(match h[i]? with|some (.amap es _)=>K (I es.length)|_=>False)|_=>False
def UR (v:AV) (h:ab) (K:QT):Prop:=v.isTup=false∧PO v.cells h K
structure ah (op:BinOp) (x y:AV) (K:AV→Prop):Prop where
 mk::(out:y8 op x y K)
structure DB (op:BinOp) (x y:AV) (K:AV→Prop):Prop where
 mk::(out:tc op x y K)
structure Eh (op:BinOp) (x y:AV) (K:AV→Prop):Prop where
 mk::(out:sN op x y K)
structure qUn (op:UnOp) (x:AV) (K:AV→Prop):Prop where
 mk::(out:pUn op x K)
structure cz (d:IntKind) (x:AV) (K:AV→Prop):Prop where
 mk::(out:jU d x K)
structure oo (d:FloatKind) (x:AV) (K:AV→Prop):Prop where
 mk::(out:j2 d x K)
structure t0 (x:AV) (K:AV→Prop):Prop where
 mk::(out:kA x K)
structure aJ (x:AV) (K:AV→Prop):Prop where
 mk::(out:C7 x K)
structure ae (n:Nat) (x:AV) (K:AV→Prop):Prop where
 mk::(out:eu n x K)
structure aD (n:Nat) (x:AV) (h:ab) (K:AV→Prop):Prop where
 mk::(out:kS n x h K)
structure ai (x:AV) (h:ab) (K:AV→Prop):Prop where
 mk::(out:kP x h K)
structure xB (o n:Nat) (x:AV) (K:AV→Prop):Prop where
 mk::(out:nq o n x K)
structure xZ (o:Nat) (x:AV) (K:AV→Prop):Prop where
 mk::(out:m9 o x K)
structure aV (x i:AV) (K:AV→Prop):Prop where
 mk::(out:jg x i K)
structure ao (n:Nat) (x i:AV) (K:AV→Prop):Prop where
 mk::(out:dB n x i K)
structure dN (m n:Nat) (x i:AV) (K:AV→Prop):Prop where
 mk::(out:cT m n x i K)
structure aM (x:AV) (a b:Option AV) (K:AV→Prop):Prop where
 mk::(out:gN x a b K)
structure lC (n:Nat) (x:AV) (a b:Option AV) (K:AV→Prop):Prop where
 mk::(out:gK n x a b K)
structure wG (x:AV) (K:AV→Prop):Prop where
 mk::(out:jW x K)
structure bZ (x:AV) (K:AV→Prop):Prop where
 mk::(out:vb x K)
structure bh (x:AV) (K:AV→Prop):Prop where
 mk::(out:uJ x K)
structure D5 (x:AV) (h:ab) (K:AV→Prop):Prop where
 mk::(out:uH x h K)
structure am (i:Nat) (x:AV) (K:AV→Prop):Prop where
 mk::(out:gw i x K)
structure x3 (x y:AV) (K:AV→Prop):Prop where
 mk::(out:y5 x y K)
structure BE (x y:AV) (K:AV→Prop):Prop where
 mk::(out:zu x y K)
structure tJ (t:TypeId) (x:AV) (K:AV→Prop):Prop where
 mk::(out:yc t x K)
structure au (z:List AV) (ps:List (Nat×Nat×AV)) (K:AV→Prop):Prop where
 mk::(out:mj z ps K)
structure ap (n m:Nat) (vs:List AV) (K:AV→Prop):Prop where
 mk::(out:fQ n m vs K)
structure gR (cs:List AV) (h:ab) (K:QT):Prop where
 mk::(out:PO cs h K)
structure lP (v:AV) (h:ab) (K:QT):Prop where
 mk::(out:UR v h K)
structure aw (n:Nat) (x y:AV) (h:ab) (K:ab→Prop):Prop where
 mk::(out:qU n x y h K)
structure bL (n m:Nat) (x y:AV) (h:ab) (K:QT):Prop where
 mk::(out:jT n m x y h K)
end
section
variable [Tabs]
section
variable {P:Program}{G:Gh}{h:ab}{w:World}
def UpV (P:Program) (N:Value→World→Prop):Result Next→Prop
 | .ok (.value v) w'=>N v w'
 | .ok .skip w'=>N undef w'
 | .ok (.enter f args) w'=>Calls P f args w' fun e w''=>∃ v,e=.returned v∧N v w''
 | _=>False
theorem yN {o:Oper}{a:Act}{next:Act→World→Prop}{Q:Exit→Act→World→Prop}{r:Result Next}(k:UpV P (fun v w'=>next (a.put o.dst v) w') r):o.upon P a next Q r:=by
 unfold UpV at k
 split at k
 ·exact k
 ·exact k
 ·refine Calls.mono k fun e w'' ⟨v,he,hn⟩=>?_
  subst he
  exact hn
 ·exact k.elim
def N0 (G:Gh) (h:ab) (w:World) (K:QT) (v:Value) (w':World):Prop:=∃ r h' G',Rep G' r v∧K r h'∧Sim G' h' w'∧Evo G h w G' h' w'
theorem bc (s:Sim G h w) {m:Sem Value}{K:QT}(k:Yl P G w m fun r=>K r h):UpV P (N0 G h w K) ((do pure (.value (← m)):Sem Next).run P w):=by
 obtain⟨r,v,h1,h2,h3⟩:=k
 simp only[Sem.run_bind,h1,Result.andThen_ok,Sem.run_pure]
 exact⟨r,h,G,h2,h3,s,Evo.refl _ _ _⟩
theorem fE {m:Sem Value}{K:QT}(k:Ye P G h w m K):UpV P (N0 G h w K) ((do pure (.value (← m)):Sem Next).run P w):=by
 obtain⟨r,v,h',G',w',h1,h2,h3,h4,h5⟩:=k
 simp only[Sem.run_bind,h1,Result.andThen_ok,Sem.run_pure]
 exact⟨r,h',G',h2,h3,h4,h5⟩
def Lu (P : Program) (f : FuncId) : Prop := ∃ fn, P.funcs[f]? = some fn ∧ (fn.name == "runtime.NumGoroutine") = false ∧ fn.body.isNone = false
structure ACall (P:Program) (f:FuncId) (args:List AV) (h:ab) (K:QT):Prop where
 body:Lu P f
 calls:ACalls P f args h K
def qP (P:Program) (v:AV) (args:List AV) (h:ab) (K:QT):Prop:=
 match v with
 | .fn (.func f) fi ca=>ACall P f (fi++args++ca) h K
 | _=>False
theorem ACall.mono {f:FuncId}{args:List AV}{K K':QT}(c:ACall P f args h K) (hk:∀ r h',K r h'→K' r h'):ACall P f args h K':=⟨c.1,c.2.mono hk⟩
theorem SV (s:Sim G h w) {v:AV}{args:List AV}{x:Value}{ys:Array Value}{K:QT}(hx:Rep G v x) (hy:RepL G args ys.toList) (k:qP P v args h K):
  UpV P (N0 G h w K) ((do let d ← Deferred.ofValue x ys;invoke d.target d.args:Sem Next).run P w):=by
 unfold qP at k
 split at k
 ·rename_i f fi ca
  obtain⟨⟨fn,h1,h2,h3⟩,k⟩:=k
  simp only[Rep]at hx
  obtain⟨vs,ws,rfl,hv,hw⟩:=hx
  simp only[Deferred.ofValue,Sem.run_bind,Sem.run_pure,Result.andThen_ok,invoke,callFunc,run_program,h1,h2,h3,Bool.false_eq_true,if_false]
  have:=k G w _ s ((hv.append hy).append hw)
  have e:(vs++ys.toList++ws).toArray=vs.toArray++ys++ws.toArray:=by
   apply Array.toList_inj.1;simp
  rw[e]at this
  exact this.mono fun e w'' ⟨r,v,h',G',a,b,c,d,ev⟩=>⟨v,a,r,h',G',b,c,d,ev⟩
 ·exact k.elim
def d5 (a b:Option AV) (K:AV→AV→Prop):Prop:=bO a fun x=>bO b fun y=>K x y
def dH (a:Option (List AV)) (K:List AV→Prop):Prop:=match a with|some l=>K l|none=>False
def zz (env:Env):Option Operand→Option (Option AV)
 | none=>some none
 | some x=>match opv env x with|some v=>some (some v)|none=>none
def wL (a:Option (Option AV)) (K:Option AV→Prop):Prop:=match a with|some l=>K l|none=>False
def tA (P:Program) (t:TypeId) (is:List Nat) (vs:List AV) (K:AV→Prop):Prop:=
 match P.underlying t,P.info? t with
 | some (.struct fs),some i=>(match i.zero,g8 P fs.toList with
   | some z,some l=>if okV z then (match vC (fun j=>l[j]?) (is.zip vs) with|some qs=>au (ofV z).cells qs K|none=>False) else False
   | _,_=>False)
 | _,_=>False
def fT (P:Program) (t:TypeId) (n:Nat) (is:List Nat) (vs:List AV) (K:AV→Prop):Prop:=
 match P.underlying t with
 | some (.slice e)=>(match P.info? e with
   | some i=>(match i.zero with
     | some _=>if (is==List.range n&&decide (n*i.size≤16777216))=true then ap n i.size vs K else False
     | none=>False)
   | none=>False)
 | _=>False
def iZ (P:Program) (t:TypeId) (v:AV) (h:ab) (K:AV→Prop):Prop:=
 match P.underlying t,P.info? t with
 | some d,some i=>if j9 d=true then aD i.size v h K else ai v h K
 | _,_=>False
def Hc (P:Program) (op:BinOp) (t:TypeId) (x y:AV) (K:AV→Prop):Prop:=
 match P.underlying t with
 | some .bool=>DB op x y K
 | some (.pointer _)=>Eh op x y K
 | some (.int _)=>ah op x y K
 | some .string=>ah op x y K
 | some (.float _)=>ah op x y K
 | _=>False
def yB (P:Program) (s d:TypeId) (x:AV) (K:AV→Prop):Prop:=
 match P.underlying s,P.underlying d with
 | some (.int _),some (.int k)=>cz k x K
 | some (.int _),some (.float k)=>oo k x K
 | some .string,some .string=>t0 x K
 | _,_=>False
def lf (P:Program) (t:TypeId) (x:AV) (lo hi mx:Option AV) (K:AV→Prop):Prop:=
 match P.underlying t,mx with
 | some .string,none=>aM x lo hi K
 | some (.slice e),none=>(match P.info? e with|some i=>lC i.size x lo hi K|none=>False)
 | some (.slice e),some (.lit (.int _ 0))=>(match P.info? e,lo,hi with|some _,none,some (.lit (.int _ 0))=>wG x K|_,_,_=>False)
 | _,_=>False
def kW (P:Program) (t:TypeId) (x:AV) (f:Nat) (K:AV→Prop):Prop:=
 match P.underlying t with
 | some (.struct fs)=>(match fs[f]? with
   | some fd=>(match P.info? fd.type with|some i=>if i.size=0 then False else ae fd.offset x K|none=>False)
   | none=>False)
 | _=>False
def yO (P:Program) (t:TypeId) (off:Nat) (x:AV) (K:AV→Prop):Prop:=
 match P.underlying t,P.info? t with
 | some d,some i=>if j9 d=true then xB off i.size x K else xZ off x K
 | _,_=>False
def to (P:Program) (t:TypeId) (x:AV) (f:Nat) (K:AV→Prop):Prop:=
 match P.underlying t with
 | some (.struct fs)=>(match fs[f]? with|some fd=>yO P fd.type fd.offset x K|none=>False)
 | _=>False
def d6 (P:Program) (t:TypeId) (x i:AV) (K:AV→Prop):Prop:=
 match P.underlying t with
 | some (.slice e)=>(match P.info? e with|some ei=>ao ei.size x i K|none=>False)
 | some (.array n e)=>(match P.info? e with|some ei=>dN n ei.size x i K|none=>False)
 | _=>False
def xf (P:Program) (t:TypeId) (x i:AV) (K:AV→Prop):Prop:=
 match P.underlying t with
 | some .string=>aV x i K
 | _=>False
def x4 (P:Program) (t:TypeId) (v:AV) (h:ab) (K:AV→Prop):Prop:=
 match P.underlying t with
 | some .string=>bZ v K
 | some (.slice _)=>bh v K
 | some (.map _ _)=>D5 v h K
 | _=>False
theorem Tk {t:TypeId}{v:AV}{K:AV→Prop}(k:x4 P t v h K):∃ d,P.underlying t=some d∧Bn d v=true∧Um v h K:=by
 unfold x4 at k
 split at k
 ·refine⟨_,‹_›,?_⟩
  replace k:=k.out;unfold vb at k;split at k
  ·exact⟨rfl,k⟩
  ·exact k.elim
 ·refine⟨_,‹_›,?_⟩
  replace k:=k.out;unfold uJ at k;split at k
  ·exact⟨rfl,k⟩
  ·exact⟨rfl,k⟩
  ·exact⟨rfl,k⟩
  ·exact k.elim
 ·refine⟨_,‹_›,?_⟩
  replace k:=k.out;unfold uH at k;split at k
  ·exact⟨rfl,k⟩
  ·exact k.elim
 ·exact k.elim
def P8 (i:TypeInfo) (d2:TypeDesc):Bool:=
 (match i.zero with|some z=>z.cells.size==i.size|none=>false)&&decide (0<i.bytes)&&(match d2 with|.int _=>false|_=>true)
def wM (P:Program) (t t2:TypeId) (x y:AV) (h:ab) (K:QT):Prop:=
 match P.underlying t,P.underlying t2 with
 | some (.slice e),some d2=>(match P.info? e with
   | some i=>if P8 i d2=true then bL i.size i.bytes x y h K else False
   | none=>False)
 | _,_=>False
def SU (P:Program) (t:TypeId) (h:ab) (K:QT):Prop:=
 match P.info? t with
 | some i=>(match i.zero with|some z=>if okV z=true then gR (ofV z).cells h K else False|none=>False)
 | none=>False
def Gy (P:Program) (t:TypeId) (x u:AV) (h:ab) (K:ab→Prop):Prop:=
 match P.info? t with
 | some i=>aw i.size x u h K
 | none=>False
def xK (P:Program) (t:TypeId) (x:AV) (K:AV→Prop):Prop:=
 match P.underlying t with
 | some (.interface _)=>False
 | some _=>tJ t x K
 | none=>False
def tH (P:Program) (env:Env) (h:ab) (o:Oper) (K:QT):Prop:=
 match o.op with
 | .move x=>bO (opv env x) fun v=>K v h
 | .assign x=>bO (opv env x) fun v=>K v h
 | .pick c a b=>bO (opv env c) fun cv=>d5 (opv env a) (opv env b) fun av bv=>ifB cv (K av h) (K bv h)
 | .alloc e=>SU P e h K
 | .box _ x=>bO (opv env x) fun v=>lP v h K
 | .build t ps=>dH (i3 env (ps.toList.map (·.2))) fun vs=>tA P t (ps.toList.map (·.1)) vs fun r=>K r h
 | .buildSlice t n ps=>dH (i3 env (ps.toList.map (·.2))) fun vs=>fT P t n (ps.toList.map (·.1)) vs fun r=>K r h
 | .load t x=>bO (opv env x) fun v=>iZ P t v h fun r=>K r h
 | .store t x u=>d5 (opv env x) (opv env u) fun v y=>Gy P t v y h fun h'=>K (.tup []) h'
 | .nilCheck x=>bO (opv env x) fun v=>aJ v fun r=>K r h
 | .binOp op t x y _=>d5 (opv env x) (opv env y) fun a b=>Hc P op t a b fun r=>K r h
 | .unOp op _ x=>bO (opv env x) fun a=>qUn op a fun r=>K r h
 | .convert s d x=>bO (opv env x) fun a=>yB P s d a fun r=>K r h
 | .makeInterface t x=>bO (opv env x) fun a=>xK P t a fun r=>K r h
 | .makeFunc f fi ca=>dH (i3 env fi.toList) fun vs=>dH (i3 env ca.toList) fun ws=>K (.fn f vs ws) h
 | .slice t x lo hi mx=>bO (opv env x) fun a=>wL (zz env lo) fun l=>wL (zz env hi) fun u=>wL (zz env mx) fun m=>lf P t a l u m fun r=>K r h
 | .fieldAddr t x f=>bO (opv env x) fun a=>kW P t a f fun r=>K r h
 | .field t x f=>bO (opv env x) fun a=>to P t a f fun r=>K r h
 | .indexAddr t x i=>d5 (opv env x) (opv env i) fun a b=>d6 P t a b fun r=>K r h
 | .index t x i=>d5 (opv env x) (opv env i) fun a b=>xf P t a b fun r=>K r h
 | .extract x i=>bO (opv env x) fun a=>am i a fun r=>K r h
 | .call c=>dH (i3 env c.args.toList) fun vs=>(match c.callee with
   | .value f=>bO (opv env f) fun v=>qP P v vs h K
   | .builtin .len=>(match vs,c.argTypes.toList with|[v],[t]=>x4 P t v h fun r=>K r h|_,_=>False)
   | .builtin .append=>(match vs,c.argTypes.toList with|[v,u],[t,t2]=>wM P t t2 v u h K|_,_=>False)
   | .builtin .max=>(match vs with|[v,u]=>x3 v u fun r=>K r h|_=>False)
   | .builtin .min=>(match vs with|[v,u]=>BE v u fun r=>K r h|_=>False)
   | _=>False)
 | _=>False
theorem ar {o:Option AV}{K:AV→Prop}(k:bO o K):∃ v,o=some v∧K v:=by
 unfold bO at k;split at k
 ·exact⟨_,rfl,k⟩
 ·exact k.elim
theorem de {o:Option (List AV)}{K:List AV→Prop}(k:dH o K):∃ v,o=some v∧K v:=by
 unfold dH at k;split at k
 ·exact⟨_,rfl,k⟩
 ·exact k.elim
theorem qb {o:Option (Option AV)}{K:Option AV→Prop}(k:wL o K):∃ v,o=some v∧K v:=by
 unfold wL at k;split at k
 ·exact⟨_,rfl,k⟩
 ·exact k.elim
theorem Ap {env:Env}{a:Act}(r:EnvRep G env a.tmps) {x:Option Operand}{v:Option AV}(h:zz env x=some v):lm G v (x.map a.eval):=by
 cases x with
 | none=>simp only[zz,Option.some.injEq]at h;subst h;trivial
 | some x=>
   simp only[zz]at h
   split at h
   ·rename_i u hu
    cases h
    exact aL r hu
   ·cases h
theorem RepL.two {x y:AV}{l:List Value}(r:RepL G [x,y] l):∃ a b,l=[a,b]∧Rep G x a∧Rep G y b:=by
 simp only[RepL]at r
 obtain⟨a,_,rfl,h1,b,_,rfl,h2,rfl⟩:=r
 exact⟨a,b,rfl,h1,h2⟩
theorem RepL.single {x:AV}{l:List Value}(r:RepL G [x] l):∃ a,l=[a]∧Rep G x a:=by
 simp only[RepL]at r
 obtain⟨a,_,rfl,h1,rfl⟩:=r
 exact⟨a,rfl,h1⟩
theorem SO (s:Sim G h w) {env:Env}{a:Act}(r:EnvRep G env a.tmps) {o:Oper}{K:QT}(k:tH P env h o K):UpV P (N0 G h w K) ((execOp a.eval o).run P w):=by
 obtain⟨dst,op,ty,pos,after,guard⟩:=o
 cases op<;>simp only[tH]at k
 case move x=>
  obtain⟨v,h1,k⟩:=ar k
  simp only[execOp,Sem.run_pure]
  exact⟨v,h,G,aL r h1,k,s,Evo.refl _ _ _⟩
 case assign x=>
  obtain⟨v,h1,k⟩:=ar k
  simp only[execOp,Sem.run_pure]
  exact⟨v,h,G,aL r h1,k,s,Evo.refl _ _ _⟩
 case pick c x y=>
  obtain⟨cv,h1,k⟩:=ar k
  obtain⟨xv,h2,k⟩:=ar k
  obtain⟨yv,h3,k⟩:=ar k
  have hc:=aL r h1
  unfold ifB at k
  split at k
  ·simp only[Rep]at hc
   simp only[execOp,hc.1,asBool,Sem.run_bind,Sem.run_pure,Result.andThen_ok,if_true]
   exact⟨xv,h,G,aL r h2,k,s,Evo.refl _ _ _⟩
  ·simp only[Rep]at hc
   simp only[execOp,hc.1,asBool,Sem.run_bind,Sem.run_pure,Result.andThen_ok,Bool.false_eq_true,if_false]
   exact⟨yv,h,G,aL r h3,k,s,Evo.refl _ _ _⟩
  ·exact k.elim
 case alloc e=>
  unfold SU at k
  split at k
  ·rename_i i hi
   split at k
   ·rename_i z hz
    split at k
    ·rename_i hzo
     have hzc:RepL G (ofV z).cells z.cells.toList:=(oB G z hzo).cells (by
      unfold ofV Bm;split<;>(try split)<;>rfl)
     obtain⟨r',h',G',q1,q2,q3,q4⟩:=LC (t:=e) s hzc k.out
     refine fE ⟨r',_,h',G',_,?_,q1,q2,q3,q4⟩
     simp only[Instr.alloc,Sem.run_bind,zeroValue,typeInfo,run_program,Result.andThen_ok,hi,hz,Sem.run_pure,newVar,newRow,run_newObj]
     rfl
    ·exact k.elim
   ·exact k.elim
  ·exact k.elim
 case box e x=>
  obtain⟨v,h1,k⟩:=ar k
  obtain⟨⟨ht,k⟩⟩:=k
  have hv:=(aL r h1).cells ht
  obtain⟨r',h',G',q1,q2,q3,q4⟩:=LC (t:=e) s hv k
  refine fE ⟨r',_,h',G',_,?_,q1,q2,q3,q4⟩
  simp only[Instr.box,newVar,newRow,Sem.run_bind,run_newObj,Result.andThen_ok,Sem.run_pure]
  rfl
 case build t ps=>
  obtain⟨vs,h1,k⟩:=de k
  unfold tA at k
  split at k
  ·rename_i fs i ht hi
   split at k
   ·rename_i z l hz hl
    split at k
    ·rename_i hzo
     split at k
     ·rename_i qs hq
      have hr:=hB r h1
      have hlen:vs.length=ps.size:=by have:=hr.length;simpa using this.symm
      refine bc s (NL (ps:=(ps.toList.map (·.1)).zip vs) ht hi hz hzo hl hq ?_ ?_ k.out)
      ·rw[List.map_fst_zip (by simp;omega)]
       simp
      ·rw[List.map_snd_zip (by simp;omega)]
       have e2:(ps.map fun p=>(p.1,a.eval p.2)).toList.map (·.2)=(ps.toList.map (·.2)).map a.eval:=by simp[List.map_map,Function.comp_def]
       rw[e2];exact hr
     ·exact k.elim
    ·exact k.elim
   ·exact k.elim
  ·exact k.elim
 case buildSlice t n ps=>
  obtain⟨vs,h1,k⟩:=de k
  unfold fT at k
  split at k
  ·rename_i e ht
   split at k
   ·rename_i i hi
    split at k
    ·rename_i z hz
     split at k
     ·rename_i hc
      simp only[Bool.and_eq_true,beq_iff_eq,decide_eq_true_eq]at hc
      have hr:=hB r h1
      have hn:ps.toList.length=n:=by have:=congrArg List.length hc.1;simpa using this
      have e2:(ps.toList.map fun p=>a.eval p.2)=(ps.toList.map (·.2)).map a.eval:=by simp[List.map_map,Function.comp_def]
      obtain⟨r',v,h',G',w',q1,q2,⟨q3,q5⟩,q4⟩:=Bt s (xs:=ps.toList.map fun p=>a.eval p.2) (ps:=ps.map fun p=>(p.1,a.eval p.2)) ht hi hz (by
       apply List.ext_getElem?
       intro j
       simp only[Array.toList_map,List.getElem?_map,List.getElem?_zipIdx]
       rcases Nat.lt_or_ge j ps.toList.length with hj|hj
       ·have e1:=congrArg (·[j]?) hc.1
        simp only[List.getElem?_map,List.getElem?_range (show j<n by omega)]at e1
        rw[List.getElem?_eq_getElem hj]at e1 ⊢
        simp at e1
        simp[e1]
       ·rw[List.getElem?_eq_none hj];rfl) (by rw[e2];exact hr) hc.2 k.out
      subst q5
      exact fE ⟨r',v,_,G',w',q1,q2,q3,q4⟩
     ·exact k.elim
    ·exact k.elim
   ·exact k.elim
  ·exact k.elim
 case load t x=>
  obtain⟨v,h1,k⟩:=ar k
  unfold iZ at k
  split at k
  ·rename_i d i ht hi
   split at k
   ·rename_i hd;exact bc s (xW s ht hd hi (aL r h1) k.out)
   ·rename_i hd;exact bc s (xS s ht (by simpa using hd) (aL r h1) k.out)
  ·exact k.elim
 case store t x u=>
  obtain⟨v,h1,k⟩:=ar k
  obtain⟨y,h2,k⟩:=ar k
  unfold Gy at k
  split at k
  ·rename_i i hi
   obtain⟨h',G',w',q1,q2,q3,q4⟩:=NN s hi (aL r h1) (aL r h2) k.out
   simp only[execOp,Sem.run_bind,q1,Result.andThen_ok,Sem.run_pure]
   exact⟨.tup [],h',G',by simp[Rep,RepL,undef],q2,q3,q4⟩
  ·exact k.elim
 case nilCheck x=>
  obtain⟨v,h1,k⟩:=ar k
  have hv:=aL r h1
  replace k:=k.out
  unfold C7 at k
  split at k
  ·have hv':=hv
   simp only[Rep]at hv
   obtain⟨b,o,_,e⟩:=hv
   simp only[execOp,e,Sem.run_pure]
   exact⟨_,h,G,by rw[← e];exact hv',k,s,Evo.refl _ _ _⟩
  ·have hv':=hv
   simp only[Rep]at hv
   obtain⟨b,o,e,_⟩:=hv
   simp only[execOp,e,Sem.run_pure]
   exact⟨_,h,G,by rw[← e];exact hv',k,s,Evo.refl _ _ _⟩
  ·have hv':=hv
   simp only[Rep]at hv
   obtain⟨vs,ws,e,_,_⟩:=hv
   simp only[execOp,e,Sem.run_pure]
   exact⟨_,h,G,by rw[← e];exact hv',k,s,Evo.refl _ _ _⟩
  ·exact k.elim
 case binOp op t x y yt=>
  obtain⟨v,h1,k⟩:=ar k
  obtain⟨u,h2,k⟩:=ar k
  unfold Hc at k
  split at k
  ·exact bc s (PQ ‹_› (aL r h1) (aL r h2) k.out)
  ·exact bc s (Pa ‹_› (aL r h1) (aL r h2) k.out)
  ·exact bc s (Fz (aL r h1) (aL r h2) k.out)
  ·exact bc s (Fz (aL r h1) (aL r h2) k.out)
  ·exact bc s (Fz (aL r h1) (aL r h2) k.out)
  ·exact k.elim
 case unOp op t x=>
  obtain⟨v,h1,k⟩:=ar k
  exact bc s (TH (aL r h1) k.out)
 case convert sr d x=>
  obtain⟨v,h1,k⟩:=ar k
  unfold yB at k
  split at k
  ·exact bc s (Jy ‹_› ‹_› (aL r h1) k.out)
  ·exact bc s (JZ ‹_› ‹_› (aL r h1) k.out)
  ·exact bc s (KW ‹_› ‹_› (aL r h1) k.out)
  ·exact k.elim
 case makeInterface t x=>
  obtain⟨v,h1,k⟩:=ar k
  unfold xK at k
  split at k
  ·exact k.elim
  ·rename_i d hd ht
   exact bc s (NE ht (fun m e=>hd m e) (aL r h1) k.out)
  ·exact k.elim
 case makeFunc f fi ca=>
  obtain⟨vs,h1,k⟩:=de k
  obtain⟨ws,h2,k⟩:=de k
  refine bc s ⟨_,_,by simp only[Instr.makeFunc,Sem.run_pure];rfl,?_,k⟩
  simp only[Rep]
  exact⟨fi.toList.map a.eval,ca.toList.map a.eval,by congr 1<;>(apply Array.toList_inj.1;simp),hB r h1,hB r h2⟩
 case slice t x lo hio mx=>
  obtain⟨v,h1,k1⟩:=ar k
  obtain⟨l,h2,k2⟩:=qb k1
  obtain⟨u,h3,k3⟩:=qb k2
  obtain⟨m,h4,k4⟩:=qb k3
  clear k k1 k2 k3
  have hm:=Ap r h4
  have hl:=Ap r h2
  have hu:=Ap r h3
  clear h2 h3 h4
  unfold lf at k4
  split at k4
  ·rename_i ht
   cases mx with
   | some _=>simp[lm]at hm
   | none=>exact bc s (JN ht (aL r h1) hl hu k4.out)
  ·rename_i e ht
   cases mx with
   | some _=>simp[lm]at hm
   | none=>
     split at k4
     ·exact bc s (Ke ht ‹_› (aL r h1) hl hu k4.out)
     ·exact k4.elim
  ·rename_i e k2 ht
   split at k4
   ·rename_i i k1 hinf
    cases mx with
    | none=>simp[lm]at hm
    | some mx=>
      cases lo with
      | some _=>simp[lm]at hl
      | none=>
        cases hio with
        | none=>simp[lm]at hu
        | some hi'=>
          simp only[lm,Option.map_some,Rep]at hu hm
          have:=bc s (Lm (P:=P) ht hinf (aL r h1) k1 k2 k4.out)
          simp only[execOp,Option.map_some,Option.map_none,hu.1,hm.1]
          exact this
   ·exact k4.elim
  ·exact k4.elim
 case fieldAddr t x f=>
  obtain⟨v,h1,k⟩:=ar k
  unfold kW at k
  split at k
  ·rename_i fs ht
   split at k
   ·rename_i fd hfd
    split at k
    ·rename_i i hi
     split at k
     ·exact k.elim
     ·rename_i hz
      exact bc s (CZ ht hfd hi hz (aL r h1) k.out)
    ·exact k.elim
   ·exact k.elim
  ·exact k.elim
 case field t x f=>
  obtain⟨v,h1,k⟩:=ar k
  unfold to at k
  split at k
  ·rename_i fs ht
   split at k
   ·rename_i fd hfd
    unfold yO at k
    have hrun:∀ x:Value,(Instr.field t x f).run P w=(do part fd.type (← asAgg x) fd.offset:Sem Value).run P w:=fun x=>by
     simp only[Instr.field,Sem.run_bind,run_underlying ht,Result.andThen_ok,hfd]
    split at k
    ·rename_i d i hd hi
     split at k
     ·rename_i ha
      obtain⟨r',v',q1,q2,q3⟩:=MV (P:=P) (w:=w) hd ha hi (aL r h1) k.out
      exact bc s ⟨r',v',by rw[hrun];exact q1,q2,q3⟩
     ·rename_i ha
      obtain⟨r',v',q1,q2,q3⟩:=NW (P:=P) (w:=w) hd (by simpa using ha) (aL r h1) k.out
      exact bc s ⟨r',v',by rw[hrun];exact q1,q2,q3⟩
    ·exact k.elim
   ·exact k.elim
  ·exact k.elim
 case indexAddr t x i=>
  obtain⟨v,h1,k⟩:=ar k
  obtain⟨u,h2,k⟩:=ar k
  unfold d6 at k
  split at k
  ·split at k
   ·exact bc s (uS ‹_› ‹_› (aL r h1) (aL r h2) k.out)
   ·exact k.elim
  ·split at k
   ·exact bc s (tD ‹_› ‹_› (aL r h1) (aL r h2) k.out)
   ·exact k.elim
  ·exact k.elim
 case index t x i=>
  obtain⟨v,h1,k⟩:=ar k
  obtain⟨u,h2,k⟩:=ar k
  unfold xf at k
  split at k
  ·exact bc s (KB ‹_› (aL r h1) (aL r h2) k.out)
  ·exact k.elim
 case extract x i=>
  obtain⟨v,h1,k⟩:=ar k
  exact bc s (Hw (aL r h1) k.out)
 case call c=>
  obtain⟨vs,h1,kk⟩:=de k
  clear k
  have hr:=hB r h1
  obtain⟨callee,args,argTypes⟩:=c
  cases callee with
  | value f=>
    simp only at kk
    obtain⟨v,h2,k3⟩:=ar kk
    have:=SV (P:=P) (ys:=args.map a.eval) s (aL r h2) (by simpa using hr) k3
    simpa [execOp,resolve] using this
  | invoke _ _=>exact kk.elim
  | builtin b=>
    cases b<;>simp only at kk<;>try exact kk.elim
    case len=>
     split at kk
     ·rename_i v t hT
      obtain⟨d,hd,hf,kk⟩:=Tk kk
      obtain⟨x,hx,hx2⟩:=hr.single
      have ha:argTypes=#[t]:=by apply Array.toList_inj.1;simpa using hT
      have hargs:args.map a.eval=#[x]:=by apply Array.toList_inj.1;simpa using hx
      subst ha
      obtain⟨r',v',q1,q2,q3⟩:=Sa (ty:=ty) s hd hx2 hf kk
      simp only[execOp,resolve,Sem.run_bind,Sem.run_pure,Result.andThen_ok,invoke,builtin,hargs,q1]
      exact⟨r',h,G,q2,q3,s,Evo.refl _ _ _⟩
     ·exact kk.elim
    case append=>
     split at kk
     ·rename_i v u t t2 hT
      unfold wM at kk
      split at kk
      ·rename_i e d2 ht ht2
       split at kk
       ·rename_i i hi
        split at kk
        ·rename_i hok
         obtain⟨x,y,hx,hx2,hx3⟩:=hr.two
         have ha:argTypes=#[t,t2]:=by apply Array.toList_inj.1;simpa using hT
         have hargs:args.map a.eval=#[x,y]:=by apply Array.toList_inj.1;simpa using hx
         subst ha
         simp only[P8,Bool.and_eq_true,decide_eq_true_eq]at hok
         obtain⟨⟨ho1,ho2⟩,ho3⟩:=hok
         split at ho1
         ·rename_i z hz
          have T:Ae P t t2 e i z:=⟨ht,⟨d2,ht2,fun k e=>by subst e;simp at ho3⟩,hi,hz,by simpa using ho1,ho2⟩
          obtain⟨r',v',h',G',w',q1,q2,q3,q4,q5⟩:=Ju (ty:=ty) s T hx2 hx3 kk.out
          simp only[execOp,resolve,Sem.run_bind,Sem.run_pure,Result.andThen_ok,invoke,builtin,hargs,q1]
          exact⟨r',h',G',q2,q3,q4,q5⟩
         ·cases ho1
        ·exact kk.elim
       ·exact kk.elim
      ·exact kk.elim
     ·exact kk.elim
    case max=>
     split at kk
     ·rename_i v u
      obtain⟨x,y,hx,hx2,hx3⟩:=hr.two
      have hargs:args.map a.eval=#[x,y]:=by apply Array.toList_inj.1;simpa using hx
      obtain⟨r',v',q1,q2,q3⟩:=SM (P:=P) (w:=w) (ts:=argTypes) (t:=ty) hx2 hx3 kk.out
      simp only[execOp,resolve,Sem.run_bind,Sem.run_pure,Result.andThen_ok,invoke,builtin,hargs,q1]
      exact⟨r',h,G,q2,q3,s,Evo.refl _ _ _⟩
     ·exact kk.elim
    case min=>
     split at kk
     ·rename_i v u
      obtain⟨x,y,hx,hx2,hx3⟩:=hr.two
      have hargs:args.map a.eval=#[x,y]:=by apply Array.toList_inj.1;simpa using hx
      obtain⟨r',v',q1,q2,q3⟩:=SY (P:=P) (w:=w) (ts:=argTypes) (t:=ty) hx2 hx3 kk.out
      simp only[execOp,resolve,Sem.run_bind,Sem.run_pure,Result.andThen_ok,invoke,builtin,hargs,q1]
      exact⟨r',h,G,q2,q3,s,Evo.refl _ _ _⟩
     ·exact kk.elim
