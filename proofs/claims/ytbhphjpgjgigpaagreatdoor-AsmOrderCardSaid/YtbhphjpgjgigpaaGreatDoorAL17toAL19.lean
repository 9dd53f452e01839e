import Derived.Test.YtbhphjpgjgigpaaGreatDoorAL13toAL16d
import Derived.WalkKit
import Derived.ProofKit
import Derived.OpenShut
import Derived.Carry
set_option linter.all false
set_option autoImplicit true
set_option relaxedAutoImplicit true
set_option maxRecDepth 100000
namespace Go.Proofs.YtbhphjpgjgigpaaGreatDoor.AL
section
variable [Tabs]
section
variable {P:Program}{G:Gh}{h:ae}{w:World}{n:Nat}
def den (P:Program) (n:Nat) (pl:Lm):Code→Env→ae→(Exit→Env→ae→Prop)→Prop
 | .skip,env,h,K=>K .normal env h
 | .ret,env,h,K=>K .ret env h
 | .exit id,env,h,K=>K (.exit id) env h
 | .goto l,env,h,K=>K (.goto l) env h
 | .label _,env,h,K=>K .normal env h
 | .region _ ops false,env,h,K=>jb P n ops (List.range ops.size) env h fun env' h'=>K .normal env' h'
 | .region id ops true,env,h,K=>match OY pl (1000000+id) with
   | some (l,[])=>if (P.follows .mixedOrders&&np P ops l)=true then ka P n ops (ol ops l []) l env h [] fun env' h'=>K .normal env' h' else False
   | some (l,p::q::l2)=>if (P.follows .mixedOrders&&ZR ops p q l l2 P)=true then (ka P n (de ops p q) (ol (de ops p q) l []) l env h [] fun env' h'=>K .normal env' h')∧(ka P n (de ops q p) (ol (de ops q p) l2 []) l2 env h [] fun env' h'=>K .normal env' h') else False
   | _=>False
 | .seq x y,env,h,K=>den P n pl x env h fun e env' h'=>match e with|.normal=>den P n pl y env' h' K|e=>K e env' h'
 | .cond c x y,env,h,K=>bT (opv env c) fun v=>ifB v (den P n pl x env h K) (den P n pl y env h K)
 | .block id c,env,h,K=>den P n pl c env h fun e env' h'=>match e with|.exit i=>if i=id then K .normal env' h' else K (.exit i) env' h'|e=>K e env' h'
 | .loop c,env,h,K=>match OY pl (qO c) with
   | some (ws,ks)=>if Qd c ws ks=true then abc ws ks (fun env' h' K'=>den P n pl c env' h' K') env h K else False
   | none=>False
 | _,_,_,_=>False
end
section
variable {P:Program}{n:Nat}{pl:Lm}
theorem vy:∀ {ks:List Nat}{vs pre ws:List AV}{env env':Env}{s:Nat}{a:AV},vs=pre++ws→DV env' ks=some ws→get (lA vs pre.length ks++env) s=some a→get env' s=some a∨get env s=some a
 | [],vs,pre,ws,env,env',s,a,hv,h,e=>.inr (by simpa [lA] using e)
 | k::ks,vs,pre,ws,env,env',s,a,hv,h,e=>by
   simp only[DV]at h
   split at h
   ·rename_i v vs' h1 h2
    cases h
    simp only[lA,List.cons_append,get]at e
    split at e
    ·rename_i hk
     subst hk
     subst hv
     simp[ap]at e
     subst e
     exact .inl h1
    ·exact vy (vs:=vs) (pre:=pre++[v]) (ws:=vs') (by rw[hv];simp) h2 (by simpa using e)
   ·cases h
theorem Ut {ks:List Nat}{vs:List AV}{env env':Env}(h:DV env ks=some vs) (k:∀ s a,get env' s=some a→get env s=some a) (s:Nat) (a:AV) (e:get (lA vs 0 ks++env') s=some a):get env s=some a:=
 (vy (pre:=[]) (by simp) h e).elim id (k s a)
def Keep (ws:List Nat) (env env':Env):Prop:=∀ s,s∉ws→get env' s=get env s
theorem Keep.refl (ws:List Nat) (env:Env):Keep ws env env:=fun _ _=>rfl
theorem Keep.trans {ws:List Nat}{a b c:Env}(x:Keep ws a b) (y:Keep ws b c):Keep ws a c:=fun s hs=>(y s hs).trans (x s hs)
theorem Keep.mono {ws ws':List Nat}{a b:Env}(x:Keep ws a b) (h:∀ s,s∈ws→s∈ws'):Keep ws' a b:=fun s hs=>x s fun m=>hs (h s m)
theorem Keep.putD {ws:List Nat}(env:Env) {d:Option Tmp}(v:AV) (h:∀ s,d=some s→s∈ws):Keep ws env (putD env d v):=fun s hs=>by
 cases d with
 | none=>rfl
 | some d=>
   simp only[AL.putD,get]
   rw[if_neg (fun e=>by subst e;exact hs (h d rfl))]
theorem Keep.know {ws:List Nat}(env:Env) {s:Nat}(v:AV) (h:s∈ws):Keep ws env ((s,v)::env):=fun k hk=>by
 simp only[get]
 rw[if_neg (fun e=>by subst e;exact hk h)]
def vQ (ops:Array Oper):List Nat:=ops.toList.filterMap (·.dst)
theorem Bg {ops:Array Oper}{i s:Nat}{o:Oper}(ho:ops[i]?=some o) (hd:o.dst=some s):s∈vQ ops:=by
 simp only[vQ,List.mem_filterMap]
 exact⟨o,Array.mem_toList_iff.2 (Array.mem_of_getElem? ho),hd⟩
theorem GV {env:Env}{h:ae}{o:Oper}{K K':Env→ae→Prop}(hk:∀ v h',K (putD env o.dst v) h'→K' (putD env o.dst v) h') (k:pX P n env h o K):pX P n env h o K':=by
 unfold pX at *
 split at k
 ·rename_i hd;rw[if_pos hd];exact kp (fun v h' k=>hk v h' k) k
 ·exact k.elim
theorem t0 (ops:Array Oper):∀ (l:List Nat) (env:Env) (h:ae) (K K':Env→ae→Prop),(∀ env' h',Keep (vQ ops) env env'→K env' h'→K' env' h')→jb P n ops l env h K→jb P n ops l env h K'
 | [],env,h,K,K',hk,k=>hk env h (Keep.refl _ _) k
 | i::rest,env,h,K,K',hk,k=>by
   unfold jb at *
   split at k
   ·exact k.elim
   ·rename_i o ho
    have hd:∀ s,o.dst=some s→s∈vQ ops:=fun s e=>Bg ho e
    have go:∀ {env1:Env},Keep (vQ ops) env env1→pX P n env1 h o (fun env' h'=>jb P n ops rest env' h' K)→pX P n env1 h o (fun env' h'=>jb P n ops rest env' h' K'):=fun hk1 k=>
     GV (fun v h' k=>t0 ops rest _ h' K K' (fun env2 h2 hk2 k2=>hk env2 h2 ((hk1.trans (Keep.putD _ v hd)).trans hk2) k2) k) k
    have skip:∀ {env1:Env},Keep (vQ ops) env env1→jb P n ops rest (putD env1 o.dst (.tup [])) h K→jb P n ops rest (putD env1 o.dst (.tup [])) h K':=fun hk1 k=>
     t0 ops rest _ h K K' (fun env2 h2 hk2 k2=>hk env2 h2 ((hk1.trans (Keep.putD _ _ hd)).trans hk2) k2) k
    split at k
    ·exact go (Keep.refl _ _) k
    ·rename_i j want hg
     split at k
     ·exact k.elim
     ·rename_i sl hsl
      have hs:sl∈vQ ops:=by
       cases hj:ops[j]? with
       | none=>simp[hj]at hsl
       | some oj=>rw[hj]at hsl;exact Bg hj (by simpa using hsl)
      refine bm (fun v k=>L4 ?_ ?_ ?_ k) _ k
      ·intro k
       split at k
       ·rename_i hw;rw[if_pos hw];exact go (Keep.know _ _ hs) k
       ·rename_i hw
        rw[if_neg hw]
        split at k
        ·rename_i hd;rw[if_pos hd];exact skip (Keep.know _ _ hs) k
        ·exact k.elim
      ·intro k
       split at k
       ·rename_i hw
        rw[if_pos hw]
        split at k
        ·rename_i hd;rw[if_pos hd];exact skip (Keep.know _ _ hs) k
        ·exact k.elim
       ·rename_i hw;rw[if_neg hw];exact go (Keep.know _ _ hs) k
      ·intro k
       split at k
       ·rename_i hd;rw[if_pos hd];exact skip (Keep.know _ _ hs) k
       ·exact k.elim
theorem xa {m:Nat}{h:ae}{k k':Prop}(hk:k→k'):∀ {pend:qe},rM m pend h k→rM m pend h k'
 | [],x=>hk x
 | (q,c)::r,x=>by
   simp only[rM]at x ⊢
   split at x
   ·rename_i hb;rw[if_pos hb];exact xa hk x
   ·rename_i hb;rw[if_neg hb];exact⟨x.1,xa hk x.2⟩
theorem EA {m i:Nat}{env:Env}{h:ae}{o:Oper}{pend:qe}{K K':Env→ae→qe→Prop}(hk:∀ v h' pend',K (putD env o.dst v) h' pend'→K' (putD env o.dst v) h' pend') (k:p8 P n m i o env h pend K):p8 P n m i o env h pend K':=by
 unfold p8 at *
 by_cases hd:fg n o.dst=true
 ·rw[if_pos hd]at k ⊢
  by_cases hq:qOp P o.op=true
  ·rw[if_pos hq]at k ⊢;exact kp (fun v h' k=>hk v h' _ k) k
  ·rw[if_neg hq]at k ⊢;exact kp (fun v h' k=>xa (hk v h' _) k) k
 ·rw[if_neg hd]at k;exact k.elim
theorem py (ops:Array Oper) (ms:List (Nat×Nat)):∀ (l:List Nat) (env:Env) (h:ae) (pend:qe) (K K':Env→ae→Prop),(∀ env' h',Keep (vQ ops) env env'→K env' h'→K' env' h')→ka P n ops ms l env h pend K→ka P n ops ms l env h pend K'
 | [],env,h,pend,K,K',hk,k=>hk env h (Keep.refl _ _) k
 | i::rest,env,h,pend,K,K',hk,k=>by
   unfold ka at *
   split at k
   ·exact k.elim
   ·rename_i o ho
    have hd:∀ s,o.dst=some s→s∈vQ ops:=fun s e=>Bg ho e
    have go:∀ {env1:Env},Keep (vQ ops) env env1→p8 P n (qp ms i) i o env1 h pend (fun env' h' pend'=>ka P n ops ms rest env' h' pend' K)→p8 P n (qp ms i) i o env1 h pend (fun env' h' pend'=>ka P n ops ms rest env' h' pend' K'):=fun hk1 k=>
     EA (fun v h' pend' k=>py ops ms rest _ h' pend' K K' (fun env2 h2 hk2 k2=>hk env2 h2 ((hk1.trans (Keep.putD _ v hd)).trans hk2) k2) k) k
    have skip:∀ {env1:Env},Keep (vQ ops) env env1→ka P n ops ms rest (putD env1 o.dst (.tup [])) h pend K→ka P n ops ms rest (putD env1 o.dst (.tup [])) h pend K':=fun hk1 k=>
     py ops ms rest _ h pend K K' (fun env2 h2 hk2 k2=>hk env2 h2 ((hk1.trans (Keep.putD _ _ hd)).trans hk2) k2) k
    split at k
    ·exact go (Keep.refl _ _) k
    ·rename_i j want hg
     split at k
     ·exact k.elim
     ·rename_i sl hsl
      have hs:sl∈vQ ops:=by
       cases hj:ops[j]? with
       | none=>simp[hj]at hsl
       | some oj=>rw[hj]at hsl;exact Bg hj (by simpa using hsl)
      refine bm (fun v k=>L4 ?_ ?_ ?_ k) _ k
      ·intro k
       split at k
       ·rename_i hw;rw[if_pos hw];exact go (Keep.know _ _ hs) k
       ·rename_i hw
        rw[if_neg hw]
        split at k
        ·rename_i hd;rw[if_pos hd];exact skip (Keep.know _ _ hs) k
        ·exact k.elim
      ·intro k
       split at k
       ·rename_i hw
        rw[if_pos hw]
        split at k
        ·rename_i hd;rw[if_pos hd];exact skip (Keep.know _ _ hs) k
        ·exact k.elim
       ·rename_i hw;rw[if_neg hw];exact go (Keep.know _ _ hs) k
      ·intro k
       split at k
       ·rename_i hd;rw[if_pos hd];exact skip (Keep.know _ _ hs) k
       ·exact k.elim
theorem lC {ws:List Nat}:∀ {env:Env}{s:Nat}{a:AV},get (iC ws env) s=some a→s∉ws
 | [],s,a,e=>by simp[iC,get]at e
 | (k,v)::env,s,a,e=>by
   simp only[iC,List.filter_cons]at e
   split at e
   ·rename_i hc
    simp only[get]at e
    split at e
    ·rename_i hk;subst hk;simpa using hc
    ·exact lC (env:=env) e
   ·exact lC (env:=env) e
theorem wM {ws:List Nat}{s:Nat}(hs:s∉ws):∀ (env:Env),get (iC ws env) s=get env s
 | []=>rfl
 | (k,v)::env=>by
   simp only[iC,List.filter_cons]
   have ih:=wM hs env
   simp only[iC]at ih
   split
   ·simp only[get,ih]
   ·rename_i hc
    have hne:k≠s:=fun e=>by subst e;simp at hc;exact hs hc
    simp only[get,if_neg hne,ih]
theorem qF:∀ {ks:List Nat}{vs:List AV}{i:Nat}{env:Env}{s:Nat},s∉ks→get (lA vs i ks++env) s=get env s
 | [],vs,i,env,s,_=>by simp[lA]
 | k::ks,vs,i,env,s,h=>by
   simp only[List.mem_cons,not_or]at h
   simp only[lA,List.cons_append,get,if_neg (Ne.symm h.1)]
   exact qF h.2
theorem I7 (ops:Array Oper) (p q:Nat):vQ (de ops p q)=vQ ops:=by
 unfold vQ de
 apply List.ext_getElem?
 have e:∀ l:List Oper,∀ k,(l.modify k (Qt p)).filterMap (·.dst)=l.filterMap (·.dst):=fun l=>by
  induction l with
  | nil=>intro k;cases k<;>rfl
  | cons a l ih=>
    intro k
    cases k with
    | zero=>rfl
    | succ k=>simp only[List.modify_succ_cons,List.filterMap_cons,ih]
 intro i
 rw[Array.toList_modify,e]
theorem G7:∀ (c:Code) (env:Env) (h:ae) (K K':Exit→Env→ae→Prop),(∀ e env' h',Keep (dy c) env env'→K e env' h'→K' e env' h')→den P n pl c env h K→den P n pl c env h K':=by
 intro c
 induction c with
 | skip=>exact fun env h K K' hk k=>hk _ _ _ (Keep.refl _ _) k
 | ret=>exact fun env h K K' hk k=>hk _ _ _ (Keep.refl _ _) k
 | exit id=>exact fun env h K K' hk k=>hk _ _ _ (Keep.refl _ _) k
 | goto l=>exact fun env h K K' hk k=>hk _ _ _ (Keep.refl _ _) k
 | label l=>exact fun env h K K' hk k=>hk _ _ _ (Keep.refl _ _) k
 | region id ops d=>
   intro env h K K' hk k
   cases d with
   | false=>exact t0 ops _ env h _ _ (fun env' h' q k=>hk _ _ _ q k) k
   | true=>
     unfold den at k ⊢
     split at k
     ·split at k
      ·rename_i hok
       rw[if_pos hok]
       exact py ops _ _ env h _ _ _ (fun env' h' q k=>hk _ _ _ q k) k
      ·exact k.elim
     ·rename_i l p q l2 hp
      split at k
      ·rename_i hok
       rw[if_pos hok]
       exact⟨py _ _ _ env h _ _ _ (fun env' h' y k=>hk _ _ _ (show Keep (vQ ops) _ _ from I7 ops p q ▸ y) k) k.1,py _ _ _ env h _ _ _ (fun env' h' y k=>hk _ _ _ (show Keep (vQ ops) _ _ from I7 ops q p ▸ y) k) k.2⟩
      ·exact k.elim
     ·exact k.elim
 | seq x y hx hy=>
   intro env h K K' hk k
   refine hx env h _ _ (fun e env1 h1 q k=>?_) k
   have q':Keep (dy (.seq x y)) env env1:=q.mono fun s hs=>by simp only[dy,List.mem_append];exact .inl hs
   cases e<;>first
    | exact hk _ _ _ q' k
    | exact hy env1 h1 _ _ (fun e env2 h2 q2 k2=>hk _ _ _ (q'.trans (q2.mono fun s hs=>by simp only[dy,List.mem_append];exact .inr hs)) k2) k
 | cond c x y hx hy=>
   intro env h K K' hk k
   refine bm (fun v k=>Be (fun k=>?_) (fun k=>?_) k) _ k
   ·exact hx env h _ _ (fun e env' h' q k=>hk _ _ _ (q.mono fun s hs=>by simp only[dy,List.mem_append];exact .inl hs) k) k
   ·exact hy env h _ _ (fun e env' h' q k=>hk _ _ _ (q.mono fun s hs=>by simp only[dy,List.mem_append];exact .inr hs) k) k
 | block id c hc=>
   intro env h K K' hk k
   refine hc env h _ _ (fun e env' h' q k=>?_) k
   cases e<;>first
    | exact hk _ _ _ q k
    | (simp only at k ⊢
       split at k
       ·rename_i hi;rw[if_pos hi];exact hk _ _ _ q k
       ·rename_i hi;rw[if_neg hi];exact hk _ _ _ q k)
 | loop c hc=>
   intro env h K K' hk k
   unfold den at k ⊢
   split at k
   ·rename_i ws ks hp
    split at k
    ·rename_i hok
     rw[if_pos hok]
     obtain⟨ho1,ho3,ho2⟩:=Dl hok
     refine eR (fun vs0 k=>?_) _ k
     obtain⟨⟨J,h0,hr⟩⟩:=k
     refine⟨⟨J,h0,fun k vs h' hJ=>hc _ _ _ _ (fun e env' h'' q k=>?_) (hr k vs h' hJ)⟩⟩
     have q':Keep ws env env':=fun s hs=>by
      rw[q.mono ho1 s hs,qF (fun m=>hs (ho2 s m)),wM hs]
     have q'':Keep (dy (.loop c)) env env':=q'.mono ho3
     cases e<;>first
      | exact k
      | exact hk _ _ _ q'' k
    ·exact k.elim
   ·exact k.elim
 | scope c hc=>exact fun env h K K' hk k=>k.elim
 | rangeFunc f ps a b ha hb=>exact fun env h K K' hk k=>k.elim
 | refuse why=>exact fun env h K K' hk k=>k.elim
theorem K4:∀ (c:Code) (env:Env) (h:ae) (K:Exit→Env→ae→Prop),den P n pl c env h K→AWp P n c env h K:=by
 intro c
 induction c with
 | skip=>exact fun env h K k=>OO k
 | ret=>exact fun env h K k=>RR k
 | exit id=>exact fun env h K k=>LZ k
 | goto l=>exact fun env h K k=>MX k
 | label l=>exact fun env h K k=>JD k
 | region id ops d=>
   intro env h K k
   cases d with
   | false=>exact Gw k
   | true=>
     unfold den at k
     split at k
     ·split at k
      ·rename_i hok
       simp only[Bool.and_eq_true]at hok
       exact Jt hok.1 hok.2 k
      ·exact k.elim
     ·split at k
      ·rename_i hok
       simp only[Bool.and_eq_true]at hok
       exact W4 hok.1 hok.2 k.1 k.2
      ·exact k.elim
     ·exact k.elim
 | seq x y hx hy=>
   intro env h K k
   refine Kh ((hx env h _ k).mono fun e env' h' q=>?_)
   cases e<;>first|exact hy _ _ _ q|exact q
 | cond c x y hx hy=>
   intro env h K k
   refine L1 ?_
   obtain⟨v,h1,h2⟩:=aG k
   simp only[h1,bT]
   unfold ifB at h2 ⊢
   split at h2
   ·exact hx _ _ _ h2
   ·exact hy _ _ _ h2
   ·exact h2.elim
 | block id c hc=>exact fun env h K k=>IE (hc env h _ k)
 | loop c hc=>
   intro env h K k
   unfold den at k
   split at k
   ·rename_i ws ks hp
    split at k
    ·rename_i hok
     obtain⟨ho1,ho3,ho2⟩:=Dl hok
     obtain⟨vs0,hv0,⟨J,⟨k0,hJ0⟩,hr⟩⟩:=dx k
     clear k
     have hweak:∀ {env1 env2:Env} {h:ae} {K:Exit→Env→ae→Prop} {c:Code},(∀ s a,get env2 s=some a→get env1 s=some a)→AWp P n c env2 h K→AWp P n c env1 h K:=
      fun hs k G w a s hn r=>k G w a s hn fun q b e=>r q b (hs q b e)
     refine VU (fun k env' h'=>∃ vs,env'=lA vs 0 ks++iC ws env∧J k vs h') ?_ ?_ |> hweak (env2:=lA vs0 0 ks++iC ws env) (Ut hv0 fun s a e=>zx e)
     ·exact⟨k0,vs0,rfl,hJ0⟩
     ·rintro k env' h' ⟨vs,rfl,hJ⟩
      refine (hc _ _ _ (G7 c _ _ _ (fun e env2 h2=>(match e with|.normal=>dT (DV env2 ks) fun vs'=>∃ m,m<k∧J m vs' h2|e=>K e env2 h2)∧Keep (dy c) (lA vs 0 ks++iC ws env) env2) (fun e env2 h2 q k=>⟨k,q⟩) (hr k vs h' hJ))).mono fun e env2 h2 q=>?_
      obtain⟨q,hkeep⟩:=q
      cases e<;>first
       | exact q
       | (obtain⟨vs',hv',m,hm,hJ'⟩:=dx q
          refine⟨m,lA vs' 0 ks++iC ws env,hm,⟨vs',rfl,hJ'⟩,fun s a e=>?_⟩
          rcases vy (pre:=[]) (by simp) hv' e with e|e
          ·exact e
          ·have hs:=lC e
           rw[hkeep s (fun m=>hs (ho1 s m)),qF (fun m=>hs (ho2 s m))]
           exact e)
    ·exact k.elim
   ·exact k.elim
 | scope c hc=>exact fun env h K k=>k.elim
 | rangeFunc f ps a b ha hb=>exact fun env h K k=>k.elim
 | refuse why=>exact fun env h K k=>k.elim
end
end
section
variable [Tabs]
section
variable {P:Program}{G:Gh}{h:ae}{w:World}{n:Nat}
def HQ (P:Program) (env:Env) (h:ae):List ResultVar→(List AV→Prop)→Prop
 | [],K=>K []
 | .tmp t::rs,K=>bT (get env t) fun v=>HQ P env h rs fun vs=>K (v::vs)
 | .cell a t::rs,K=>bT (get env a) fun p=>kr P t p h fun v=>HQ P env h rs fun vs=>K (v::vs)
def yl:List AV→AV
 | [v]=>v
 | vs=>.tup vs
def HB (P:Program) (rs:List ResultVar) (env:Env) (h:ae) (Q:QT):Prop:=HQ P env h rs fun vs=>Q (yl vs) h
def eM:Nat→List AV→Env
 | _,[]=>[]
 | k,v::vs=>(k,v)::eM (k+1) vs
def abg (P:Program) (pl:Lm) (fn:Func) (c:Code) (args:List AV) (h:ae) (Q:QT):Prop:=
 den P fn.ntmps pl c (eM 0 args) h fun e env' h'=>match e with
  | .normal=>HB P fn.results.toList env' h' Q
  | .ret=>HB P fn.results.toList env' h' Q
  | _=>False
theorem KZ (s:Sim G h w) {env:Env}{tmps:Array Value}(r:EnvRep G env tmps):∀ (rs:List ResultVar) (K:List AV→Prop),HQ P env h rs K→
  ∃ vs xs,(rs.mapM fun (r:ResultVar)=>(match r with|.tmp t=>pure (tmps.getD t undef)|.cell a t=>do loadVar t (← asAddr (tmps.getD a undef)):Sem Value)).run P w=.ok xs w∧RepL G vs xs∧K vs
 | [],K,k=>⟨[],[],by simp,by simp[RepL],k⟩
 | .tmp t::rs,K,k=>by
   obtain⟨v,h1,k⟩:=aG k
   obtain⟨vs,xs,h2,h3,h4⟩:=KZ s r rs _ k
   obtain⟨x,h5,h6⟩:=r _ _ h1
   refine⟨v::vs,x::xs,?_,by simp only[RepL];exact⟨x,xs,rfl,h6,h3⟩,h4⟩
   simp only[List.mapM_cons,Sem.run_bind,Sem.run_pure,Result.andThen_ok]
   rw[h2]
   simp[Array.getD_eq_getD_getElem?,h5]
 | .cell a t::rs,K,k=>by
   obtain⟨p,h1,k1⟩:=aG k
   clear k
   obtain⟨x,h5,h6⟩:=r _ _ h1
   have hload:∃ v y,(loadVar t =<< asAddr x:Sem Value).run P w=.ok y w∧Rep G v y∧HQ P env h rs fun vs=>K (v::vs):=by
    have key:∀ {K':AV→Prop},Yl P G w (Instr.loadAt t x) K'→∃ v y,(loadVar t =<< asAddr x:Sem Value).run P w=.ok y w∧Rep G v y∧K' v:=by
     rintro K' ⟨v,y,q1,q2,q3⟩
     refine⟨v,y,?_,q2,q3⟩
     have hx:∃ a,x=.pointer (some a):=by
      unfold Instr.loadAt Instr.sureAddr at q1
      split at q1
      ·exact⟨_,rfl⟩
      ·simp at q1
     obtain⟨ad,rfl⟩:=hx
     simpa [Instr.loadAt,Instr.sureAddr,asAddr,Bind.bindLeft] using q1
    unfold kr at k1
    split at k1
    ·rename_i d i ht hi
     split at k1
     ·rename_i hd;exact key (CB s ht hd hi h6 k1.out)
     ·rename_i hd;exact key (Cn s ht (by simpa using hd) h6 k1.out)
    ·exact k1.elim
   obtain⟨v,y,q1,q2,q3⟩:=hload
   obtain⟨vs,xs,h2,h3,h4⟩:=KZ s r rs _ q3
   refine⟨v::vs,y::xs,?_,by simp only[RepL];exact⟨y,xs,rfl,q2,h3⟩,h4⟩
   have hg:tmps.getD a undef=x:=by simp[Array.getD_eq_getD_getElem?,h5]
   simp only[List.mapM_cons,hg]
   have q1':(do loadVar t (← asAddr x):Sem Value).run P w=.ok y w:=q1
   rw[Sem.run_bind,q1']
   simp only[Result.andThen_ok,Sem.run_bind]
   rw[h2]
   simp
theorem oU (s:Sim G h w) {env:Env}{fn:Func}{tmps:Array Value}(r:EnvRep G env tmps) {Q:QT}(k:HB P fn.results.toList env h Q):
  ∃ v x,(results fn tmps).run P w=.ok x w∧Rep G v x∧Q v h:=by
 obtain⟨vs,xs,h1,h2,h3⟩:=KZ s r _ _ k
 have hm:(fn.results.mapM fun (r:ResultVar)=>(match r with|.tmp t=>pure (tmps.getD t undef)|.cell a t=>do loadVar t (← asAddr (tmps.getD a undef)):Sem Value)).run P w=.ok xs.toArray w:=by
  rw[Array.mapM_eq_mapM_toList]
  simp only[Sem.run_map,h1,Result.andThen_ok]
 refine⟨yl vs,if h:xs.toArray.size=1 then xs.toArray[0] else .tuple xs.toArray,?_,?_,h3⟩
 ·simp only[results,Sem.run_bind]
  exact congrArg (fun r=>Result.andThen r fun a w'=>(pure (if h:a.size=1 then a[0] else .tuple a):Sem Value).run P w') hm
 ·have hl:=h2.length
  unfold yl
  split
  ·obtain⟨x,rfl,hx⟩:=h2.single
   simpa using hx
  ·rename_i hne
   have:¬ xs.toArray.size=1:=fun e=>by
    have:vs.length=1:=by simp at e;omega
    obtain⟨v,rfl⟩:=List.length_eq_one_iff.1 this
    exact hne v rfl
   rw[dif_neg this]
   simp only[Rep]
   exact⟨xs,rfl,h2⟩
theorem tg:∀ (vs:List AV) (k s:Nat) (a:AV),get (eM k vs) s=some a→k≤s∧vs[s-k]?=some a
 | [],k,s,a,e=>by simp[eM,get]at e
 | v::vs,k,s,a,e=>by
   simp only[eM,get]at e
   split at e
   ·rename_i hk;subst hk;simp at e;subst e;simp
   ·rename_i hk
    have:=tg vs (k+1) s a e
    refine⟨by omega,?_⟩
    rw[show s-k=(s-(k+1))+1 by omega]
    simpa using this.2
theorem JU {f : FuncId} {fn : Func} {c : Code} {args : List AV} {Q : QT} (hf : P.funcs[f]? = some fn) (hb : fn.body = some c) (hname : (fn.name == "runtime.NumGoroutine") = false) (hn : args.length ≤ fn.ntmps)
  {pl:Lm} (k:abg P pl fn c args h Q):ACall P f args h Q:=by
 refine⟨⟨fn,hf,hname,by simp[hb]⟩,fun G w vs s r=>?_⟩
 refine calls_of_wp hf hb ?_
 have hl:=r.length
 have hre:EnvRep G (eM 0 args) (vs.toArray++Array.replicate (fn.ntmps-vs.toArray.size) undef):=fun k a e=>by
  obtain⟨_,h1⟩:=tg args 0 k a e
  obtain⟨v,h2,h3⟩:=r.at _ _ h1
  have hk:k<vs.length:=(List.getElem?_eq_some_iff.1 h2).1
  exact⟨v,by rw[Array.getElem?_append_left (by simpa using hk)];simpa using h2,h3⟩
 have W:=K4 c _ _ _ k G w { tmps:=vs.toArray++Array.replicate (fn.ntmps-vs.toArray.size) undef,defers:=[] } s (by simp;omega) hre
 refine wp_mono W fun e a w' ⟨env',h',G',hk,s',ev,r',hn',hd'⟩=>?_
 cases e with
 | normal=>
   obtain⟨v,x,q1,q2,q3⟩:=oU s' r' hk
   exact⟨hd',x,q1,v,x,h',G',rfl,q2,q3,s',ev⟩
 | ret=>
   obtain⟨v,x,q1,q2,q3⟩:=oU s' r' hk
   exact⟨hd',x,q1,v,x,h',G',rfl,q2,q3,s',ev⟩
 | exit id=>exact hk.elim
 | goto l=>exact hk.elim
 | panic ch=>exact hk.elim
 | outgrown=>exact hk.elim
end
end
section
open Go.RowKit Go.ChangeShapes
variable [Tabs]
section
variable {P:Program}
def G0 (W:World):Gh:={ loc:=fun _=>none,cap:=fun _=>0,F:=fun b o=>W.cell? ⟨b,o,none⟩ }
theorem abv {W:World}(ht:Tabs.ok (fun b o=>W.cell? ⟨b,o,none⟩)):Sim (G0 W) [] W where
 obj:=fun i o h=>by simp at h
 dom:=fun i p h=>by simp[G0]at h
 apart:=fun i j oi oj p q h=>by simp at h
 frz:=fun b o v h=>h
 sep:=fun i o p h=>by simp at h
 tab:=ht
theorem Kw {W w':World}{G G':Gh}{h':ae}(ev:Evo G [] W G' h' w'):Below W.heap.size W w':=
 ⟨ev.os,ev.tape,ev.output,ev.size,fun k hk=>ev.frame k hk fun ⟨i,o,p,h,_⟩=>by simp at h⟩
theorem PZ {f:FuncId}{args:List AV}{vs:List Value}{W:World}(ht:Tabs.ok (fun b o=>W.cell? ⟨b,o,none⟩)) (hr:RepL (G0 W) args vs) (c:ACall P f args [] fun r h'=>r=B true):
  Calls P f vs.toArray W fun e w'=>e=.returned (.bool true)∧Below W.heap.size W w':=
 (c.calls (G0 W) W vs (abv ht) hr).mono fun e w' ⟨r,v,h',G',he,hv,hq,s,ev⟩=>by
  subst hq
  simp only[Rep]at hv
  obtain⟨rfl,_⟩:=hv
  exact⟨he,Kw ev⟩
theorem ym {H:Type}{enc:TypeId×Value→H}(hl:laidOutB P=true) {W W':World}(hb:Below W.heap.size W W'):∀ {ts:List TypeId}{vs:List Value}{ds:List (DataW H)}{ps:List MemPlace},(∀ t∈ts,P.readableRec t=true∧t<P.types.size)→
  DataW.TrodAll enc P W 0 (fun _=>true) true ts vs ds ps→(∀ x∈ps,x.block<W.heap.size)→DataW.TrodAll enc P W' 0 (fun b=>decide (b<W.heap.size)) true ts vs ds ps
 | [],vs,ds,ps,_,h,_=>by
   obtain⟨rfl,rfl,rfl⟩:=trodAll_nil h
   exact trodAll_mk0
 | t::ts,vs,ds,ps,hr,h,hlt=>by
   obtain⟨v,vs',d,ds',p,q,rfl,rfl,rfl,h1,h2⟩:=trodAll_cons h
   exact trodAll_cons_mk (RowKit.Below.trod hl (hr t (by simp)).1 (hr t (by simp)).2 h1 hb fun x hx=>hlt x (by simp[hx])) (ym hl hb (fun u hu=>hr u (by simp[hu])) h2 fun x hx=>hlt x (by simp[hx]))
theorem S0 {H:Type}{enc:TypeId×Value→H}{f:Func}{s:ChangeSpec}{fresh:Bool}{W W':World}{args:Array Value}{ds gs:List (DataW H)}{before:List MemPlace}{t:TypeId}(hl:laidOutB P=true)
  (hrd:∀ t∈f.params.toList,P.readableRec t=true∧t<P.types.size) (hs:s.vars=[]) (hrt:f.resultTypes=#[t]) (ht:P.underlying t=some .bool)
  (hW:DataW.Whole enc P f.params.toList s.vars false W args.toList ds gs before) (hres:(s.fn H (ds++gs)).results=[.lit (.bool true)]) (hargs:(s.fn H (ds++gs)).args=ds) (hvars:(s.fn H (ds++gs)).vars=[]) (hb:Below W.heap.size W W'):
  s.post enc P f false fresh false false W args (.bool true) W':=by
 have hlt:=hW.lt
 obtain⟨p,q,hA,hV,hpq,hfz,hn⟩:=id hW
 rw[hs]at hV
 obtain⟨rfl,rfl⟩:=trodVars_none hV
 simp only[List.append_nil]at hpq
 subst hpq
 refine⟨ds,[],before,[],before,[],hW,?_,?_,?_,hb.frame _,fun h=>by cases h⟩
 ·rw[hres,hrt]
  exact trodAll_mk1 (shut_bool ht true)
 ·rw[hargs]
  exact ym hl hb hrd hA hlt
 ·rw[hvars,hs];rfl
end
end
end Go.Proofs.YtbhphjpgjgigpaaGreatDoor.AL
