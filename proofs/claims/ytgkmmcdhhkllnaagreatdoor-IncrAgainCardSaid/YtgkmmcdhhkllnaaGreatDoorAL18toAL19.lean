import Derived.Test.YtgkmmcdhhkllnaaGreatDoorAL13toAL17
import Derived.WalkKit
import Derived.ProofKit
import Derived.OpenShut
import Derived.Carry
set_option linter.all false
set_option autoImplicit true
set_option relaxedAutoImplicit true
set_option maxRecDepth 100000
namespace Go.Proofs.YtgkmmcdhhkllnaaGreatDoor.AL
section
variable [Tabs]
section
variable {P:Program}{G:Gh}{h:ae}{w:World}{n:Nat}
def Ij (P:Program) (env:Env) (h:ae):List ResultVar→(List AV→Prop)→Prop
 | [],K=>K []
 | .tmp t::rs,K=>bV (get env t) fun v=>Ij P env h rs fun vs=>K (v::vs)
 | .cell a t::rs,K=>bV (get env a) fun p=>kL P t p h fun v=>Ij P env h rs fun vs=>K (v::vs)
def yY:List AV→AV
 | [v]=>v
 | vs=>.tup vs
def IB (P:Program) (rs:List ResultVar) (env:Env) (h:ae) (Q:QT):Prop:=Ij P env h rs fun vs=>Q (yY vs) h
def fb:Nat→List AV→Env
 | _,[]=>[]
 | k,v::vs=>(k,v)::fb (k+1) vs
def ace (P:Program) (pl:MQ) (fn:Func) (c:Code) (args:List AV) (h:ae) (Q:QT):Prop:=
 den P fn.ntmps pl c (fb 0 args) h fun e env' h'=>match e with
  | .normal=>IB P fn.results.toList env' h' Q
  | .ret=>IB P fn.results.toList env' h' Q
  | _=>False
theorem KU (s:Sim G h w) {env:Env}{tmps:Array Value}(r:EnvRep G env tmps):∀ (rs:List ResultVar) (K:List AV→Prop),Ij P env h rs K→
  ∃ vs xs,(rs.mapM fun (r:ResultVar)=>(match r with|.tmp t=>pure (tmps.getD t undef)|.cell a t=>do loadVar t (← asAddr (tmps.getD a undef)):Sem Value)).run P w=.ok xs w∧RepL G vs xs∧K vs
 | [],K,k=>⟨[],[],by simp,by simp[RepL],k⟩
 | .tmp t::rs,K,k=>by
   obtain⟨v,h1,k⟩:=aG k
   obtain⟨vs,xs,h2,h3,h4⟩:=KU s r rs _ k
   obtain⟨x,h5,h6⟩:=r _ _ h1
   refine⟨v::vs,x::xs,?_,by simp only[RepL];exact⟨x,xs,rfl,h6,h3⟩,h4⟩
   simp only[List.mapM_cons,Sem.run_bind,Sem.run_pure,Result.andThen_ok]
   rw[h2]
   simp[Array.getD_eq_getD_getElem?,h5]
 | .cell a t::rs,K,k=>by
   obtain⟨p,h1,k1⟩:=aG k
   clear k
   obtain⟨x,h5,h6⟩:=r _ _ h1
   have hload:∃ v y,(loadVar t =<< asAddr x:Sem Value).run P w=.ok y w∧Rep G v y∧Ij P env h rs fun vs=>K (v::vs):=by
    have key:∀ {K':AV→Prop},Yl P G w (Instr.loadAt t x) K'→∃ v y,(loadVar t =<< asAddr x:Sem Value).run P w=.ok y w∧Rep G v y∧K' v:=by
     rintro K' ⟨v,y,q1,q2,q3⟩
     refine⟨v,y,?_,q2,q3⟩
     have hx:∃ a,x=.pointer (some a):=by
      unfold Instr.loadAt Instr.sureAddr at q1
      split at q1
      ·exact⟨_,rfl⟩
      ·simp at q1
     obtain⟨ad,rfl⟩:=hx
     simpa [Instr.loadAt,Instr.sureAddr,asAddr,Bind.bindLeft] using q1
    unfold kL at k1
    split at k1
    ·rename_i d i ht hi
     split at k1
     ·rename_i hd;exact key (Cx s ht hd hi h6 k1.out)
     ·rename_i hd;exact key (De s ht (by simpa using hd) h6 k1.out)
    ·exact k1.elim
   obtain⟨v,y,q1,q2,q3⟩:=hload
   obtain⟨vs,xs,h2,h3,h4⟩:=KU s r rs _ q3
   refine⟨v::vs,y::xs,?_,by simp only[RepL];exact⟨y,xs,rfl,q2,h3⟩,h4⟩
   have hg:tmps.getD a undef=x:=by simp[Array.getD_eq_getD_getElem?,h5]
   simp only[List.mapM_cons,hg]
   have q1':(do loadVar t (← asAddr x):Sem Value).run P w=.ok y w:=q1
   rw[Sem.run_bind,q1']
   simp only[Result.andThen_ok,Sem.run_bind]
   rw[h2]
   simp
theorem pP (s:Sim G h w) {env:Env}{fn:Func}{tmps:Array Value}(r:EnvRep G env tmps) {Q:QT}(k:IB P fn.results.toList env h Q):
  ∃ v x,(results fn tmps).run P w=.ok x w∧Rep G v x∧Q v h:=by
 obtain⟨vs,xs,h1,h2,h3⟩:=KU s r _ _ k
 have hm:(fn.results.mapM fun (r:ResultVar)=>(match r with|.tmp t=>pure (tmps.getD t undef)|.cell a t=>do loadVar t (← asAddr (tmps.getD a undef)):Sem Value)).run P w=.ok xs.toArray w:=by
  rw[Array.mapM_eq_mapM_toList]
  simp only[Sem.run_map,h1,Result.andThen_ok]
 refine⟨yY vs,if h:xs.toArray.size=1 then xs.toArray[0] else .tuple xs.toArray,?_,?_,h3⟩
 ·simp only[results,Sem.run_bind]
  exact congrArg (fun r=>Result.andThen r fun a w'=>(pure (if h:a.size=1 then a[0] else .tuple a):Sem Value).run P w') hm
 ·have hl:=h2.length
  unfold yY
  split
  ·obtain⟨x,rfl,hx⟩:=h2.single
   simpa using hx
  ·rename_i hne
   have:¬ xs.toArray.size=1:=fun e=>by
    have:vs.length=1:=by simp at e;omega
    obtain⟨v,rfl⟩:=List.length_eq_one_iff.1 this
    exact hne v rfl
   rw[dif_neg this]
   simp only[Rep]
   exact⟨xs,rfl,h2⟩
theorem un:∀ (vs:List AV) (k s:Nat) (a:AV),get (fb k vs) s=some a→k≤s∧vs[s-k]?=some a
 | [],k,s,a,e=>by simp[fb,get]at e
 | v::vs,k,s,a,e=>by
   simp only[fb,get]at e
   split at e
   ·rename_i hk;subst hk;simp at e;subst e;simp
   ·rename_i hk
    have:=un vs (k+1) s a e
    refine⟨by omega,?_⟩
    rw[show s-k=(s-(k+1))+1 by omega]
    simpa using this.2
theorem Mj {f : FuncId} {fn : Func} {c : Code} {args : List AV} {Q : QT} (hf : P.funcs[f]? = some fn) (hb : fn.body = some c) (hname : (fn.name == "runtime.NumGoroutine") = false) (hn : args.length ≤ fn.ntmps)
  {pl:MQ} (k:ace P pl fn c args h Q):ACall P f args h Q:=by
 refine⟨⟨fn,hf,hname,by simp[hb]⟩,fun G w vs s r=>?_⟩
 refine calls_of_wp hf hb ?_
 have hl:=r.length
 have hre:EnvRep G (fb 0 args) (vs.toArray++Array.replicate (fn.ntmps-vs.toArray.size) undef):=fun k a e=>by
  obtain⟨_,h1⟩:=un args 0 k a e
  obtain⟨v,h2,h3⟩:=r.at _ _ h1
  have hk:k<vs.length:=(List.getElem?_eq_some_iff.1 h2).1
  exact⟨v,by rw[Array.getElem?_append_left (by simpa using hk)];simpa using h2,h3⟩
 have W:=Lh c _ _ _ k G w { tmps:=vs.toArray++Array.replicate (fn.ntmps-vs.toArray.size) undef,defers:=[] } s (by simp;omega) hre
 refine wp_mono W fun e a w' ⟨env',h',G',hk,s',ev,r',hn',hd'⟩=>?_
 cases e with
 | normal=>
   obtain⟨v,x,q1,q2,q3⟩:=pP s' r' hk
   exact⟨hd',x,q1,v,x,h',G',rfl,q2,q3,s',ev⟩
 | ret=>
   obtain⟨v,x,q1,q2,q3⟩:=pP s' r' hk
   exact⟨hd',x,q1,v,x,h',G',rfl,q2,q3,s',ev⟩
 | exit id=>exact hk.elim
 | goto l=>exact hk.elim
 | panic ch=>exact hk.elim
 | outgrown=>exact hk.elim
end
end
section
open Go.RowKit Go.ChangeShapes
variable [Tabs]
section
variable {P:Program}
def G0 (W:World):Gh:={ loc:=fun _=>none,cap:=fun _=>0,F:=fun b o=>W.cell? ⟨b,o,none⟩ }
theorem act {W:World}(ht:Tabs.ok (fun b o=>W.cell? ⟨b,o,none⟩)):Sim (G0 W) [] W where
 obj:=fun i o h=>by simp at h
 dom:=fun i p h=>by simp[G0]at h
 apart:=fun i j oi oj p q h=>by simp at h
 frz:=fun b o v h=>h
 sep:=fun i o p h=>by simp at h
 tab:=ht
theorem K8 {W w':World}{G G':Gh}{h':ae}(ev:Evo G [] W G' h' w'):Below W.heap.size W w':=
 ⟨ev.os,ev.tape,ev.output,ev.size,fun k hk=>ev.frame k hk fun ⟨i,o,p,h,_⟩=>by simp at h⟩
theorem QB {f:FuncId}{args:List AV}{vs:List Value}{W:World}(ht:Tabs.ok (fun b o=>W.cell? ⟨b,o,none⟩)) (hr:RepL (G0 W) args vs) (c:ACall P f args [] fun r h'=>r=B true):
  Calls P f vs.toArray W fun e w'=>e=.returned (.bool true)∧Below W.heap.size W w':=
 (c.calls (G0 W) W vs (act ht) hr).mono fun e w' ⟨r,v,h',G',he,hv,hq,s,ev⟩=>by
  subst hq
  simp only[Rep]at hv
  obtain⟨rfl,_⟩:=hv
  exact⟨he,K8 ev⟩
theorem y7 {H:Type}{enc:TypeId×Value→H}(hl:laidOutB P=true) {W W':World}(hb:Below W.heap.size W W'):∀ {ts:List TypeId}{vs:List Value}{ds:List (DataW H)}{ps:List MemPlace},(∀ t∈ts,P.readableRec t=true∧t<P.types.size)→
  DataW.TrodAll enc P W 0 (fun _=>true) true ts vs ds ps→(∀ x∈ps,x.block<W.heap.size)→DataW.TrodAll enc P W' 0 (fun b=>decide (b<W.heap.size)) true ts vs ds ps
 | [],vs,ds,ps,_,h,_=>by
   obtain⟨rfl,rfl,rfl⟩:=trodAll_nil h
   exact trodAll_mk0
 | t::ts,vs,ds,ps,hr,h,hlt=>by
   obtain⟨v,vs',d,ds',p,q,rfl,rfl,rfl,h1,h2⟩:=trodAll_cons h
   exact trodAll_cons_mk (RowKit.Below.trod hl (hr t (by simp)).1 (hr t (by simp)).2 h1 hb fun x hx=>hlt x (by simp[hx])) (y7 hl hb (fun u hu=>hr u (by simp[hu])) h2 fun x hx=>hlt x (by simp[hx]))
theorem UZ {H:Type}{enc:TypeId×Value→H}{f:Func}{s:ChangeSpec}{fresh:Bool}{W W':World}{args:Array Value}{ds gs:List (DataW H)}{before:List MemPlace}{t:TypeId}(hl:laidOutB P=true)
  (hrd:∀ t∈f.params.toList,P.readableRec t=true∧t<P.types.size) (hs:s.vars=[]) (hrt:f.resultTypes=#[t]) (ht:P.underlying t=some .bool)
  (hW:DataW.Whole enc P f.params.toList s.vars false W args.toList ds gs before) (hres:(s.fn H (ds++gs)).results=[.lit (.bool true)]) (hargs:(s.fn H (ds++gs)).args=ds) (hvars:(s.fn H (ds++gs)).vars=[]) (hb:Below W.heap.size W W'):
  s.post enc P f false fresh false false W args (.bool true) W':=by
 have hlt:=hW.lt
 obtain⟨p,q,hA,hV,hpq,hfz,hn⟩:=id hW
 rw[hs]at hV
 obtain⟨rfl,rfl⟩:=trodVars_none hV
 simp only[List.append_nil]at hpq
 subst hpq
 refine⟨ds,[],before,[],before,[],hW,?_,?_,?_,hb.frame _,fun h=>by cases h⟩
 ·rw[hres,hrt]
  exact trodAll_mk1 (shut_bool ht true)
 ·rw[hargs]
  exact y7 hl hb hrd hA hlt
 ·rw[hvars,hs];rfl
end
end
end Go.Proofs.YtgkmmcdhhkllnaaGreatDoor.AL
