import Derived.Test.YtgkmmcdhhkllnaaGreatDoorAL9ctoAL10e
import Derived.Laws.Externs
import Derived.Lib.Bytealg
set_option linter.all false
set_option autoImplicit true
set_option relaxedAutoImplicit true
set_option maxRecDepth 100000
namespace Go.Proofs.YtgkmmcdhhkllnaaGreatDoor.AL
section
variable [Tabs]
section
variable {P:Program}{G:Gh}{h:ae}{w:World}
def DN (P:Program):Op→Bool
 | .makeMap _ none=>true
 | .lookup ..=>true
 | .mapUpdate ..=>true
 | .insert ..=>true
 | .mapEntry ..=>true
 | .entryStore ..=>true
 | .range ..=>true
 | .next ..=>true
 | .entry _=>true
 | .makeSlice ..=>true
 | .convert s d _=>match P.underlying s,P.underlying d with
   | some (.slice _),some .string=>true
   | some .string,some (.slice _)=>true
   | _,_=>false
 | .binOp _ t _ _ _=>match P.underlying t with
   | some (.slice _)=>true
   | some (.map _ _)=>true
   | some (.interface _)=>true
   | some (.func _ _ _)=>true
   | some (.struct _)=>true
   | _=>false
 | .call c=>match c.callee with
   | .builtin .delete=>true
   | _=>false
 | _=>false
def Dy (P:Program) (t:TypeId) (K:TypeDesc→Value→Prop):Prop:=
 match P.underlying t with
 | some (.map kt et)=>(match P.underlying kt,P.info? et with
   | some d,some i=>(match i.zero with|some z=>if okV z=true then K d z else False|none=>False)
   | _,_=>False)
 | _=>False
def Be (P:Program) (t:TypeId) (K:TypeDesc→Prop):Prop:=
 match P.underlying t with
 | some (.map kt _)=>(match P.underlying kt with|some d=>K d|none=>False)
 | _=>False
def yi (P:Program) (e:TypeId):Bool:=match P.underlying e with|some (.int .u8)=>true|_=>false
def yp (P:Program) (op:BinOp) (t:TypeId) (a:AV) (y:Operand) (K:AV→Prop):Prop:=
 match P.underlying t,y with
 | some (.slice _),.const (.slice none 0 0)=>jP op a K
 | some (.map _ _),.const (.map none)=>Fa op a K
 | some (.interface _),.const .nilIface=>Fm op a K
 | some (.func _ _ _),.const .nilFunc=>Fh op a K
 | _,_=>False
def xY (P:Program) (env:Env) (h:ae) (o:Oper) (K:QT):Prop:=
 match o.op with
 | .makeMap _ none=>mo h K
 | .lookup t x i ok=>ez (opv env x) (opv env i) fun a b=>Dy P t fun d z=>fW d ok (ofV z) a b h fun r=>K r h
 | .mapUpdate t m k v=>ez (opv env m) (opv env k) fun a b=>bV (opv env v) fun c=>Be P t fun d=>c5 d a b c h fun h'=>K (.tup []) h'
 | .insert t m k v=>ez (opv env m) (opv env k) fun a b=>bV (opv env v) fun c=>Be P t fun d=>c5 d a b c h fun h'=>K (.tup []) h'
 | .mapEntry t m k=>ez (opv env m) (opv env k) fun a b=>Dy P t fun d z=>qk d (ofV z) a b h K
 | .entryStore t m s v=>ez (opv env m) (opv env s) fun a b=>bV (opv env v) fun c=>lK a b c h fun h'=>K (.tup []) h'
 | .range t x=>bV (opv env x) fun a=>match P.underlying t with
   | some .string=>uK a h K
   | some (.map _ _)=>vi a h K
   | _=>False
 | .next x b=>bV (opv env x) fun a=>if b=true then AN a h K else zT a h K
 | .entry x=>bV (opv env x) fun a=>zY a h fun r=>K r h
 | .makeSlice t l c=>ez (opv env l) (opv env c) fun a b=>match P.underlying t with
   | some (.slice e)=>(match P.info? e with
     | some i=>(match i.zero with|some z=>if (i.size==1&&z.oneCell')=true then lq i.bytes (GL z) a b h K else False|none=>False)
     | none=>False)
   | _=>False
 | .convert s d x=>bV (opv env x) fun a=>match P.underlying s,P.underlying d with
   | some (.slice e),some .string=>if yi P e=true then qi a h fun r=>K r h else False
   | some .string,some (.slice e)=>if yi P e=true then qe a h K else False
   | _,_=>False
 | .binOp op t x y _=>match P.underlying t with
   | some (.struct fs)=>ez (opv env x) (opv env y) fun a b=>(match xS P fs.toList 0 with
     | some ds=>if (!P.stoodInHeld t&&!P.eqGuardType P.depth t)=true then Y3 op ds a b fun r=>K r h else False
     | none=>False)
   | _=>bV (opv env x) fun a=>yp P op t a y fun r=>K r h
 | .call c=>match c.callee with
   | .builtin .delete=>dX (kS env c.args.toList) fun vs=>(match vs,c.argTypes.toList with
     | [m,k],t::_=>Be P t fun d=>B3 d m k h fun h'=>K (.tup []) h'
     | _,_=>False)
   | _=>False
 | _=>False
def wY (P:Program) (env:Env) (h:ae) (o:Oper) (K:QT):Prop:=if DN P o.op=true then xY P env h o K else xe P env h o K
theorem Fj {t:TypeId}{K:TypeDesc→Value→Prop}(k:Dy P t K):∃ kt et d i z,P.underlying t=some (.map kt et)∧P.underlying kt=some d∧P.info? et=some i∧i.zero=some z∧okV z=true∧K d z:=by
 unfold Dy at k
 split at k
 ·split at k
  ·split at k
   ·split at k
    ·exact⟨_,_,_,_,_,‹_›,‹_›,‹_›,‹_›,‹_›,k⟩
    ·exact k.elim
   ·exact k.elim
  ·exact k.elim
 ·exact k.elim
theorem A5 {t:TypeId}{K:TypeDesc→Prop}(k:Be P t K):∃ kt et d,P.underlying t=some (.map kt et)∧P.underlying kt=some d∧K d:=by
 unfold Be at k
 split at k
 ·split at k
  ·exact⟨_,_,_,‹_›,‹_›,k⟩
  ·exact k.elim
 ·exact k.elim
theorem GF {e:TypeId}(h:yi P e=true):P.underlying e=some (.int .u8):=by
 unfold yi at h
 split at h
 ·assumption
 ·cases h
theorem Wo {m:Sem Unit}{K:ae→Prop}(k:∃ h' G' w',m.run P w=.ok () w'∧K h'∧Sim G' h' w'∧Evo G h w G' h' w'):UpV P (N0 G h w fun v h'=>v=.tup []∧K h') ((do m;pure .skip:Sem Next).run P w):=by
 obtain⟨h',G',w',q1,q2,q3,q4⟩:=k
 simp only[Sem.run_bind,q1,Result.andThen_ok,Sem.run_pure]
 exact⟨.tup [],h',G',by simp[Rep,RepL,undef],⟨rfl,q2⟩,q3,q4⟩
theorem XK {N N':Value→World→Prop}(hk:∀ v w,N v w→N' v w) {r:Result Next}(k:UpV P N r):UpV P N' r:=by
 unfold UpV at *
 split at k
 ·exact hk _ _ k
 ·exact hk _ _ k
 ·exact Calls.mono k fun e w'' ⟨v,he,hv⟩=>⟨v,he,hk _ _ hv⟩
 ·exact k.elim
theorem FA {m:Sem Unit}{K:QT}(k:∃ h' G' w',m.run P w=.ok () w'∧K (.tup []) h'∧Sim G' h' w'∧Evo G h w G' h' w'):UpV P (N0 G h w K) ((do m;pure .skip:Sem Next).run P w):=
 XK (fun v w' ⟨r,h',G',q1,⟨q2,q3⟩,q4,q5⟩=>⟨r,h',G',q1,by subst q2;exact q3,q4,q5⟩) (Wo (K:=K (.tup [])) k)
theorem ZL (s:Sim G h w) {env:Env}{a:Act}(r:EnvRep G env a.tmps) {o:Oper}{K:QT}(k:xY P env h o K):UpV P (N0 G h w K) ((execOp a.eval o).run P w):=by
 obtain⟨dst,op,ty,pos,after,guard⟩:=o
 cases op<;>simp only[xY]at k<;>try exact k.elim
 case makeMap t re=>
  cases re with
  | none=>exact gG (Nh s k.out)
  | some x=>exact k.elim
 case lookup t x i ok=>
  obtain⟨v,h1,k⟩:=aG k
  obtain⟨u,h2,k⟩:=aG k
  obtain⟨kt,et,d,inf,z,q1,q2,q3,q4,q5,k⟩:=Fj k
  exact bd s (R9 s q1 q2 q3 q4 q5 (aO r h1) (aO r h2) k.out)
 case mapUpdate t m i x=>
  obtain⟨v,h1,k⟩:=aG k
  obtain⟨u,h2,k⟩:=aG k
  obtain⟨y,h3,k⟩:=aG k
  obtain⟨kt,et,d,q1,q2,k⟩:=A5 k
  exact FA (zm s q1 q2 (aO r h1) (aO r h2) (aO r h3) k.out)
 case insert t m i x=>
  obtain⟨v,h1,k⟩:=aG k
  obtain⟨u,h2,k⟩:=aG k
  obtain⟨y,h3,k⟩:=aG k
  obtain⟨kt,et,d,q1,q2,k⟩:=A5 k
  exact FA (zm s q1 q2 (aO r h1) (aO r h2) (aO r h3) k.out)
 case mapEntry t m i=>
  obtain⟨v,h1,k⟩:=aG k
  obtain⟨u,h2,k⟩:=aG k
  obtain⟨kt,et,d,inf,z,q1,q2,q3,q4,q5,k⟩:=Fj k
  exact gG (MJ s q1 q2 q3 q4 q5 (aO r h1) (aO r h2) k.out)
 case entryStore t m i x=>
  obtain⟨v,h1,k⟩:=aG k
  obtain⟨u,h2,k⟩:=aG k
  obtain⟨y,h3,k⟩:=aG k
  exact FA (F6 s (aO r h1) (aO r h2) (aO r h3) k.out)
 case range t x=>
  obtain⟨v,h1,k⟩:=aG k
  split at k
  ·exact gG (Rg s ‹_› (aO r h1) k.out)
  ·exact gG (Q1 s ‹_› (aO r h1) k.out)
  ·exact k.elim
 case next x b=>
  obtain⟨v,h1,k⟩:=aG k
  cases b
  ·exact gG (Va s (aO r h1) k.out)
  ·exact gG (Ub s (aO r h1) k.out)
 case entry x=>
  obtain⟨v,h1,k⟩:=aG k
  exact bd s (VB s (aO r h1) k.out)
 case makeSlice t l c=>
  obtain⟨v,h1,k⟩:=aG k
  obtain⟨u,h2,k⟩:=aG k
  split at k
  ·split at k
   ·split at k
    ·split at k
     ·rename_i hc
      simp only[Bool.and_eq_true,beq_iff_eq]at hc
      exact gG (IU s ‹_› ‹_› ‹_› hc.1 hc.2 (aO r h1) (aO r h2) k.out)
     ·exact k.elim
    ·exact k.elim
   ·exact k.elim
  ·exact k.elim
 case convert sr d x=>
  obtain⟨v,h1,k⟩:=aG k
  split at k
  ·split at k
   ·exact bd s (LM s ‹_› (GF ‹_›) ‹_› (aO r h1) k.out)
   ·exact k.elim
  ·split at k
   ·exact gG (Mq s ‹_› ‹_› (GF ‹_›) (aO r h1) k.out)
   ·exact k.elim
  ·exact k.elim
 case binOp op t x y yt=>
  split at k
  ·rename_i fs ht
   obtain⟨v,h1,k⟩:=aG k
   obtain⟨u,h2,k⟩:=aG k
   split at k
   ·split at k
    ·rename_i hc
     simp only[Bool.and_eq_true,Bool.not_eq_true']at hc
     exact bd s (ZC ht ‹_› hc.1 hc.2 (aO r h1) (aO r h2) k.out)
    ·exact k.elim
   ·exact k.elim
  ·obtain⟨v,h1,k⟩:=aG k
   unfold yp at k
   split at k
   ·exact bd s (QO ‹_› (aO r h1) k.out)
   ·exact bd s (Qu ‹_› (aO r h1) k.out)
   ·exact bd s (QN ‹_› (aO r h1) k.out)
   ·exact bd s (QP ‹_› (aO r h1) k.out)
   ·exact k.elim
 case call c=>
  obtain⟨callee,args,argTypes⟩:=c
  simp only at k
  split at k
  ·obtain⟨vs,h1,k⟩:=dn k
   have hr:=jc r h1
   split at k
   ·rename_i m ke t ts hT
    obtain⟨kt,et,d,q1,q2,k⟩:=A5 k
    obtain⟨x,y,hx,hx2,hx3⟩:=hr.two
    have hargs:args.map a.eval=#[x,y]:=by apply Array.toList_inj.1;simpa using hx
    have hts:argTypes[0]?=some t:=by have:=congrArg (·[0]?) hT;simpa using this
    obtain⟨r',v',h',G',w',p1,p2,⟨p3,p4⟩,p5,p6⟩:=Rz (ty:=ty) s q1 q2 hx2 hx3 hts k.out
    subst p3
    simp only[execOp,resolve,Sem.run_bind,Sem.run_pure,Result.andThen_ok,invoke,builtin,hargs,p1]
    exact⟨_,h',G',p2,p4,p5,p6⟩
   ·exact k.elim
  ·exact k.elim
theorem Zv (s:Sim G h w) {env:Env}{a:Act}(r:EnvRep G env a.tmps) {o:Oper}{K:QT}(k:wY P env h o K):UpV P (N0 G h w K) ((execOp a.eval o).run P w):=by
 unfold wY at k
 split at k
 ·exact ZL s r k
 ·exact Zm s r k
theorem Kl {t:TypeId}{K K':TypeDesc→Value→Prop}(hk:∀ d z,K d z→K' d z) (k:Dy P t K):Dy P t K':=by
 unfold Dy at *
 (repeat' split at k)<;>first|exact k.elim|(simp only[*,if_true];exact hk _ _ k)|(rw[if_pos ‹_›];exact hk _ _ k)
theorem DA {t:TypeId}{K K':TypeDesc→Prop}(hk:∀ d,K d→K' d) (k:Be P t K):Be P t K':=by
 unfold Be at *
 (repeat' split at k)<;>first|exact k.elim|exact hk _ k
theorem TD {env:Env}{h:ae}{o:Oper}{K K':QT}(hk:∀ v h,K v h→K' v h) (k:xY P env h o K):xY P env h o K':=by
 obtain⟨dst,op,ty,pos,after,guard⟩:=o
 have hk':∀ v,K v h→K' v h:=fun v=>hk v h
 have hk2:∀ h',K (.tup []) h'→K' (.tup []) h':=fun h'=>hk _ h'
 cases op<;>simp only[xY]at k ⊢<;>try exact k.elim
 case makeMap t re=>
  cases re with
  | none=>exact Iy hk _ k
  | some x=>exact k.elim
 case lookup=>exact dI (fun _ _ k=>Kl (fun _ _ k=>vx hk' _ _ _ _ _ _ k) k) _ _ k
 case mapUpdate=>exact dI (fun _ _ k=>bl (fun _ k=>DA (fun _ k=>vH hk2 _ _ _ _ _ k) k) _ k) _ _ k
 case insert=>exact dI (fun _ _ k=>bl (fun _ k=>DA (fun _ k=>vH hk2 _ _ _ _ _ k) k) _ k) _ _ k
 case mapEntry=>exact dI (fun _ _ k=>Kl (fun _ _ k=>GS hk _ _ _ _ _ k) k) _ _ k
 case entryStore=>exact dI (fun _ _ k=>bl (fun _ k=>CZ hk2 _ _ _ _ k) _ k) _ _ k
 case range=>
  refine bl (fun _ k=>?_) _ k
  split at k
  ·exact Ll hk _ _ k
  ·exact Mw hk _ _ k
  ·exact k.elim
 case next x b=>
  refine bl (fun _ k=>?_) _ k
  cases b
  ·exact Oo hk _ _ k
  ·exact NU hk _ _ k
 case entry=>exact bl (fun _ k=>xH hk' _ _ k) _ k
 case makeSlice=>
  refine dI (fun _ _ k=>?_) _ _ k
  (repeat' split at k)<;>first|exact k.elim|(rw[if_pos ‹_›];exact EJ hk _ _ _ _ _ k)
 case convert=>
  refine bl (fun _ k=>?_) _ k
  (repeat' split at k)<;>first|exact k.elim|(rw[if_pos ‹_›];exact qP hk' _ _ k)|(rw[if_pos ‹_›];exact GD hk _ _ k)
 case binOp=>
  split at k
  ·refine dI (fun _ _ k=>?_) _ _ k
   (repeat' split at k)<;>first|exact k.elim|(rw[if_pos ‹_›];exact CW hk' _ _ _ _ k)
  ·refine bl (fun _ k=>?_) _ k
   unfold yp at *
   split at k
   ·exact A2 hk' _ _ k
   ·exact uA hk' _ _ k
   ·exact uP hk' _ _ k
   ·exact uV hk' _ _ k
   ·exact k.elim
 case call c=>
  split at k
  ·refine fg (fun _ k=>?_) _ k
   split at k
   ·exact DA (fun _ k=>Mb hk2 _ _ _ _ k) k
   ·exact k.elim
  ·exact k.elim
theorem Uw {env:Env}{h:ae}{o:Oper}{K K':QT}(hk:∀ v h,K v h→K' v h) (k:wY P env h o K):wY P env h o K':=by
 unfold wY at *
 split at k
 ·rename_i hn;rw[if_pos hn];exact TD hk k
 ·rename_i hn;rw[if_neg hn];exact UK hk k
end
end
section
variable [Tabs]
section
variable {P:Program}{G:Gh}{h:ae}{w:World}
omit [Tabs] in
theorem Gl {α:Type}(l:List α) (off:Nat):splice l off []=l:=by simp[splice]
omit [Tabs] in
theorem Ns {i:Nat}{o:AObj}(hi:h[i]?=some o):h.set i o=h:=by
 apply List.ext_getElem?
 intro j
 rw[List.getElem?_set]
 split
 ·rename_i e;subst e
  split
  ·exact hi.symm
  ·rename_i hn;rw[List.getElem?_eq_none (by omega)]at hi;cases hi
 ·rfl
theorem J3 (s:Sim G h w) {i off len sz:Nat}{cs xs:List AV}{x:Value}(hcs:h[i]?=some (.cells cs)) (hx:Rep G (.sl i off len sz) x) {vs:List Value}(hv:RepL G xs vs) (hone:xs.all AV.one=true) (hl:xs.length≤len*sz) (hle:off+len*sz≤cs.length):
  ∃ b c,x=.slice (some b) len c∧∃ G' w',(storeCells b vs).run P w=.ok () w'∧Sim G' (h.set i (.cells (splice cs off xs))) w'∧Evo G h w G' (h.set i (.cells (splice cs off xs))) w':=by
 simp only[Rep]at hx
 obtain⟨b,o,c,ad,h1,h2,h3,h4,rfl⟩:=hx
 refine⟨_,_,rfl,?_⟩
 have hlv:=hv.length
 rcases Nat.eq_zero_or_pos c with hc0|hc0
 ·have:xs=[]:=by
   have:len=0:=by omega
   subst this
   exact List.length_eq_zero_iff.1 (by omega)
  subst this
  simp only[RepL]at hv
  subst hv
  refine⟨G,w,by simp[storeCells],?_,?_⟩
  ·rw[Gl,Ns hcs];exact s
  ·rw[Gl,Ns hcs];exact Evo.refl _ _ _
 ·obtain rfl:=h4 hc0
  obtain⟨b',o',arr,el,lo,hi',e1,e2,e3,e4,e5,e6⟩:=rk s hcs
  rw[h1]at e1
  cases e1
  obtain⟨arr',q2,q3⟩:=uO (P:=P) b (o+off) el lo hi' vs 0 arr w e2 e3 (by omega) (Fk hv hone)
  have hsz:arr'.size=arr.size:=by
   have:=congrArg List.length q3
   rw[ga (by simp;omega)]at this
   simpa using this
  have x:ObjAt G (du w b (.cells arr' el (lo,hi'))) i (.cells (splice cs off xs)):=by
   refine⟨b,o,arr',el,lo,hi',h1,nj w b _ (Array.getElem?_eq_some_iff.1 e2).1,by rw[hsz];exact e3,by rw[ga (by omega)];exact e4,by rw[hsz];exact e5,?_⟩
   intro q a ha
   rw[dw (by omega)]at ha
   have hget:arr'[o+q]?=arr'.toList[o+q]?:=by simp
   rw[hget,q3,dw (by simp;omega)]
   by_cases c1:q<off
   ·rw[if_pos c1]at ha
    rw[if_pos (by omega)]
    simpa using e6 q a ha
   ·rw[if_neg c1]at ha
    rw[if_neg (by omega)]
    by_cases c2:q<off+xs.length
    ·rw[if_pos c2]at ha
     rw[if_pos (by omega)]
     obtain⟨v,h4,h5⟩:=hv.at _ a ha
     exact⟨v,by rw[← h4];congr 1;omega,h5⟩
    ·rw[if_neg c2]at ha
     rw[if_neg (by omega)]
     simpa using e6 q a ha
  obtain⟨s',ev⟩:=xc s hcs rfl h1 rfl x
  exact⟨_,_,q2,s',ev⟩
theorem Ep (s:Sim G h w) {size:Nat}{v:AV}{x:Value}(hx:Rep G v x) {m:Nat}{xs:List AV}(e:cr h size v=some (m,xs)) {k:Nat}(hk:k≤m):
  ∃ vs:List Value,RepL G (xs.take (k*size)) vs∧(Builtin.firstCells size k x).run P w=.ok vs.toArray w:=by
 have hmul:k*size≤m*size:=Nat.mul_le_mul_right _ hk
 have snap:∀ (n c:Nat) (cs:List AV) (base:Option Addr),cr h size (.snap n cs)=some (m,xs)→k≤n→(cs=[]∧n=0∨∃ b o,base=some ⟨b,o,none⟩∧RepAt G cs b o)→
   ∃ vs:List Value,RepL G (xs.take (k*size)) vs∧(Builtin.firstCells size k (.slice base n c)).run P w=.ok vs.toArray w:=by
  intro n c cs base e hkn hb
  simp only[cr]at e
  split at e
  ·rename_i hl
   cases e
   rcases hb with ⟨rfl,rfl⟩|⟨b,o,rfl,h2⟩
   ·exact⟨[],by simp[RepL],by rw[show k=0 by omega];cases base<;>simp[Builtin.firstCells,loadCells,loadCellsFrom]⟩
   ·obtain⟨vs,h3,h4,h5⟩:=vC s h2 hl
    refine⟨vs.take (k*size),?_,?_⟩
    ·refine jt (by simp;omega) fun j a ha=>?_
     rw[List.getElem?_take]at ha ⊢
     split at ha
     ·rename_i hj;rw[if_pos hj];exact h4.at j a ha
     ·cases ha
    ·have:=run_loadCells_list (P:=P) w ⟨b,o,none⟩ (vs.take (k*size)) (fun j v hj=>by
      rw[dF]
      rw[List.getElem?_take]at hj
      split at hj
      ·exact h5 j v hj
      ·cases hj)
     have hlen:(vs.take (k*size)).length=k*size:=by simp;omega
     rw[hlen]at this
     simpa [Builtin.firstCells] using this
  ·cases e
 unfold cr at e
 split at e
 ·rename_i n cs
  have hn:n=m:=by split at e<;>cases e;rfl
  simp only[Rep]at hx
  rcases hx with ⟨rfl,rfl,za,rfl⟩|⟨b,o,c,h1,rfl,h2⟩
  ·exact snap 0 0 [] za (by simpa [cr] using e) (by omega) (.inl ⟨rfl,rfl⟩)
  ·exact snap n c cs _ (by simpa [cr] using e) (by omega) (.inr ⟨b,o,rfl,h2⟩)
 ·rename_i n cs
  have hn:n=m:=by split at e<;>cases e;rfl
  simp only[Rep]at hx
  rcases hx with ⟨rfl,rfl,za,rfl⟩|⟨b,o,rfl,h2⟩
  ·exact snap 0 0 [] za (by simpa [cr] using e) (by omega) (.inl ⟨rfl,rfl⟩)
  ·exact snap n n cs _ (by simpa [cr] using e) (by omega) (.inr ⟨b,o,rfl,h2⟩)
 ·rename_i i off len sz
  split at e
  ·rename_i cs hcs
   split at e
   ·rename_i hc
    obtain⟨rfl,hle⟩:=hc
    cases e
    simp only[Rep]at hx
    obtain⟨b,o,c,ad,h1,h2,h3,h4,rfl⟩:=hx
    obtain⟨vs,q1,q2,_,q4⟩:=np (P:=P) (size:=sz) s (v:=.sl i off k sz) (x:=.slice (some ⟨b,ad,none⟩) k c) (by
     simp only[Rep];exact⟨b,o,c,ad,h1,h2,by omega,h4,rfl⟩) (m:=k) (xs:=(cs.drop off).take (k*sz)) (by simp[cr,hcs];omega)
    refine⟨vs,?_,?_⟩
    ·rw[List.take_take,Nat.min_eq_left hmul];exact q2
    ·simpa [Builtin.firstCells] using q4
   ·cases e
  ·cases e
 ·rename_i s'
  split at e
  ·rename_i h1
   subst h1
   cases e
   simp only[Rep]at hx
   obtain⟨rfl,_⟩:=hx
   refine⟨(s'.data.toList.take k).map fun b=>Value.int .u8 b.toNat,by rw[Nat.mul_one,← List.map_take];exact Ad G _,?_⟩
   simp only[Builtin.firstCells,Sem.run_pure]
   congr 1
   apply Array.toList_inj.1
   simp[ByteArray.extract,ByteArray.copySlice]
  ·cases e
 ·cases e
def DJ (size:Nat) (v x:AV) (h:ae) (K:QT):Prop:=
 match cr h size x with
 | none=>False
 | some (m,xs)=>match v with
   | .sl i off len sz=>(match h[i]? with
     | some (.cells cs)=>(sz=size∧off+len*size≤cs.length∧xs.all AV.one=true)∧K (I (Nat.min m len)) (h.set i (.cells (splice cs off (xs.take (Nat.min m len*size)))))
     | _=>False)
   | .full n _=>Nat.min m n=0∧K (I 0) h
   | .snap n _=>Nat.min m n=0∧K (I 0) h
   | _=>False
structure ab6 (size:Nat) (v x:AV) (h:ae) (K:QT):Prop where
 mk::(out:DJ size v x h K)
theorem XX (s:Sim G h w) {t e ty:TypeId}{ts:Array TypeId}{i:TypeInfo}(ht0:ts[0]?=some t) (ht:P.underlying t=some (.slice e)) (hi:P.info? e=some i) {v x:AV}{a b:Value}(hx:Rep G v a) (hy:Rep G x b) {K:QT}(k:DJ i.size v x h K):
  Ye P G h w (Builtin.copy_ ts ty #[a,b]) K:=by
 unfold DJ at k
 split at k
 ·exact k.elim
 ·rename_i m xs hxs
  obtain⟨_,_,_,hm,_⟩:=np (P:=P) s hy hxs
  have none_:∀ (base:Option Addr) (n c:Nat),a=.slice base n c→Nat.min m n=0→K (I 0) h→Ye P G h w (Builtin.copy_ ts ty #[a,b]) K:=by
   rintro base n c rfl hmn k
   obtain⟨vs,hv1,hv2⟩:=Ep (P:=P) s hy hxs (k:=0) (Nat.zero_le _)
   simp only[Nat.zero_mul,List.take_zero,RepL]at hv1
   subst hv1
   refine⟨I 0,.int .i64 0,h,G,w,?_,by simp[Rep,Value.oneCell'],k,s,Evo.refl _ _ _⟩
   have hmn':min m n=0:=hmn
   cases base<;>simp[Builtin.copy_,ht0,run_underlying ht,hm,sizeOf,typeInfo,hi,hmn',hv2,storeCells,goInt]
  split at k
  ·rename_i j off len sz
   split at k
   ·rename_i cs hcs
    obtain⟨⟨rfl,hle,hone⟩,k⟩:=k
    have hkm:Nat.min m len≤m:=Nat.min_le_left _ _
    have hkl:Nat.min m len≤len:=Nat.min_le_right _ _
    obtain⟨vs,hv1,hv2⟩:=Ep (P:=P) s hy hxs hkm
    obtain⟨ba,c,rfl,G',w',q1,q2,q3⟩:=J3 (P:=P) s hcs hx hv1 (by
     rw[List.all_eq_true]at hone ⊢;exact fun y hy=>hone y (List.mem_of_mem_take hy)) (by simp only[List.length_take];exact Nat.le_trans (Nat.min_le_left _ _) (Nat.mul_le_mul_right _ hkl)) hle
    refine⟨_,.int .i64 (Nat.min m len),_,G',w',?_,by simp[Rep,Value.oneCell'],k,q2,q3⟩
    have hv2':(Builtin.firstCells i.size (min m len) b).run P w=.ok vs.toArray w:=hv2
    simp[Builtin.copy_,ht0,run_underlying ht,hm,sizeOf,typeInfo,hi,hv2',q1,goInt]
   ·exact k.elim
  ·rename_i n cs
   simp only[Rep]at hx
   rcases hx with ⟨rfl,rfl,za,rfl⟩|⟨bb,o,rfl,h2⟩
   ·exact none_ _ _ _ rfl k.1 k.2
   ·exact none_ _ _ _ rfl k.1 k.2
  ·rename_i n cs
   simp only[Rep]at hx
   rcases hx with ⟨rfl,rfl,za,rfl⟩|⟨bb,o,c,_,rfl,h2⟩
   ·exact none_ _ _ _ rfl k.1 k.2
   ·exact none_ _ _ _ rfl k.1 k.2
  ·exact k.elim
theorem Qv {size:Nat}{v x:AV}{h:ae}{K K':QT}(hk:∀ v h,K v h→K' v h) (k:DJ size v x h K):DJ size v x h K':=by
 unfold DJ at *
 split at k
 ·exact k.elim
 ·split at k
  ·split at k
   ·exact⟨k.1,hk _ _ k.2⟩
   ·exact k.elim
  ·exact⟨k.1,hk _ _ k.2⟩
  ·exact⟨k.1,hk _ _ k.2⟩
  ·exact k.elim
def wG (size:Nat) (u v:AV) (h:ae) (K:ae→Prop):Prop:=
 match v with
 | .sl i off len sz=>(match h[i]? with
   | some (.cells cs)=>(u.isTup=false∧u.cells.length=size∧sz=size∧off+len*size≤cs.length∧u.cells.all AV.one=true)∧K (h.set i (.cells (splice cs off (List.replicate len u.cells).flatten)))
   | _=>False)
 | .full 0 _=>K h
 | .snap 0 _=>K h
 | _=>False
structure abi (size:Nat) (u v:AV) (h:ae) (K:ae→Prop):Prop where
 mk::(out:wG size u v h K)
omit [Tabs] in
theorem xD (zs:Array Value):∀ n,(Builtin.zeroCells zs n).toList=(List.replicate n zs.toList).flatten
 | 0=>by simp[Builtin.zeroCells]
 | n+1=>by
   have ih:=xD zs n
   rw[List.replicate_succ',List.flatten_append,← ih]
   simp only[Builtin.zeroCells,Array.toList_map,Array.toList_range,List.flatten_cons,List.flatten_nil,List.append_nil]
   rw[Nat.succ_mul,List.range_add,List.map_append]
   congr 1
   rw[List.map_map]
   apply List.ext_getElem?
   intro j
   simp only[List.getElem?_map,Function.comp_apply]
   by_cases hj:j<zs.size
   ·simp[hj,Nat.mod_eq_of_lt hj]
   ·simp[hj]
theorem Pq {G:Gh}{cs:List AV}{vs:List Value}(r:RepL G cs vs):∀ n,RepL G (List.replicate n cs).flatten (List.replicate n vs).flatten
 | 0=>by simp[RepL]
 | n+1=>by rw[List.replicate_succ,List.replicate_succ,List.flatten_cons,List.flatten_cons];exact r.append (Pq r n)
theorem UG (s:Sim G h w) {t e ty:TypeId}{ts:Array TypeId}{i:TypeInfo}{z:Value}(ht0:ts[0]?=some t) (ht:P.underlying t=some (.slice e)) (hi:P.info? e=some i) (hz:i.zero=some z) {u v:AV}{a:Value}(hx:Rep G v a) (hu:Rep G u z) {K:ae→Prop}(k:wG i.size u v h K):
  Ye P G h w (Builtin.clear_ ts ty #[a]) (fun r h'=>r=.tup []∧K h'):=by
 unfold wG at k
 split at k
 ·rename_i j off len sz
  split at k
  ·rename_i cs hcs
   obtain⟨⟨hut,hul,rfl,hle,hone⟩,k⟩:=k
   have hc:=hu.cells hut
   have hrr:=Pq hc len
   have hlen:(List.replicate len u.cells).flatten.length=len*i.size:=by simp[List.length_flatten,hul]
   have hone':(List.replicate len u.cells).flatten.all AV.one=true:=by
    rw[List.all_eq_true]at hone ⊢
    intro y hy
    obtain⟨l,h1,h2⟩:=List.mem_flatten.1 hy
    rw[(List.mem_replicate.1 h1).2]at h2
    exact hone y h2
   obtain⟨ba,c,rfl,G',w',q1,q2,q3⟩:=J3 (P:=P) s hcs hx hrr hone' (by omega) hle
   refine⟨.tup [],.tuple #[],_,G',w',?_,by simp[Rep,RepL],⟨rfl,k⟩,q2,q3⟩
   rw[← xD]at q1
   cases len with
   | zero=>
     have:w'=w:=by
      simp[Builtin.zeroCells,storeCells]at q1
      exact q1.symm
     subst this
     simp[Builtin.clear_,ht0,run_underlying ht]
   | succ len=>simp[Builtin.clear_,ht0,run_underlying ht,zeroValue,typeInfo,hi,hz,q1]
  ·exact k.elim
 ·simp only[Rep]at hx
  refine⟨.tup [],.tuple #[],h,G,w,?_,by simp[Rep,RepL],⟨rfl,k⟩,s,Evo.refl _ _ _⟩
  rcases hx with ⟨_,rfl,za,rfl⟩|⟨bb,o,rfl,h2⟩<;>(try cases za)<;>simp[Builtin.clear_,ht0,run_underlying ht]
 ·simp only[Rep]at hx
  refine⟨.tup [],.tuple #[],h,G,w,?_,by simp[Rep,RepL],⟨rfl,k⟩,s,Evo.refl _ _ _⟩
  rcases hx with ⟨_,rfl,za,rfl⟩|⟨bb,o,c,_,rfl,h2⟩<;>(try cases za)<;>simp[Builtin.clear_,ht0,run_underlying ht]
 ·exact k.elim
theorem PG {size:Nat}{u v:AV}{h:ae}{K K':ae→Prop}(hk:∀ h,K h→K' h) (k:wG size u v h K):wG size u v h K':=by
 unfold wG at *
 split at k
 ·split at k
  ·exact⟨k.1,hk _ k.2⟩
  ·exact k.elim
 ·exact hk _ k
 ·exact hk _ k
 ·exact k.elim
end
end
section
variable [Tabs]
section
variable {P:Program}{G:Gh}{h:ae}{w:World}
inductive Ext where
 | index
 | count
 | bits
 | frombits
def O8 (P:Program) (f:FuncId):Option Ext:=match P.funcs[f]? with
 | some fn => if fn.body.isNone = true then (if (fn.name == "internal/bytealg.IndexByteString" && fn.origin == "") = true then some .index
   else if (fn.name == "internal/bytealg.CountString" && fn.origin == "") = true then some .count else if (fn.name == "math.Float64bits" && fn.origin == "") = true then some .bits else if (fn.name == "math.Float64frombits" && fn.origin == "") = true then some .frombits else none) else none
 | none=>none
def Aj (e:Ext) (vs:List AV) (K:AV→Prop):Prop:=
 match e,vs with
 | .index,[.lit (.string s),.lit (.int .u8 c)]=>K (I (Lib.indexByte s.data.toList c.toNat.toUInt8))
 | .count,[.lit (.string s),.lit (.int .u8 c)]=>K (I (Lib.countByte s.data.toList c.toNat.toUInt8))
 | .bits,[.lit (.float .f64 b)]=>K (.lit (.int .u64 b))
 | .frombits,[.lit (.int .u64 n)]=>K (.lit (.float .f64 n.toNat))
 | _,_=>False
structure VY (e:Ext) (vs:List AV) (K:AV→Prop):Prop where
 mk::(out:Aj e vs K)
theorem Dm {e:Ext}{vs:List AV}{K K':AV→Prop}(hk:∀ r,K r→K' r) (k:Aj e vs K):Aj e vs K':=by
 unfold Aj at *
 split at k<;>first|exact hk _ k|exact k.elim
theorem XN {e:Ext}{vs:List AV}{K:AV→Prop}(k:Aj e vs K):∃ v,K v∧Aj e vs fun r=>r=v:=by
 unfold Aj at *
 split at k<;>first|exact⟨_,k,rfl⟩|exact k.elim
theorem look_index : Extern.allGenericRows.lookup "internal/bytealg.IndexByteString" = none ∧ Extern.allTypedRows.lookup "internal/bytealg.IndexByteString" = none ∧ Extern.allRows.lookup "internal/bytealg.IndexByteString" = some Extern.BytealgIndexByte.indexByte := ⟨by kernel_rfl, by kernel_rfl, by kernel_rfl⟩
theorem look_count : Extern.allGenericRows.lookup "internal/bytealg.CountString" = none ∧ Extern.allTypedRows.lookup "internal/bytealg.CountString" = none ∧ Extern.allRows.lookup "internal/bytealg.CountString" = some Extern.BytealgCount.count := ⟨by kernel_rfl, by kernel_rfl, by kernel_rfl⟩
theorem look_bits : Extern.allGenericRows.lookup "math.Float64bits" = none ∧ Extern.allTypedRows.lookup "math.Float64bits" = none ∧ Extern.allRows.lookup "math.Float64bits" = some Extern.MathFloatBits.float64bits := ⟨by kernel_rfl, by kernel_rfl, by kernel_rfl⟩
theorem look_frombits : Extern.allGenericRows.lookup "math.Float64frombits" = none ∧ Extern.allTypedRows.lookup "math.Float64frombits" = none ∧ Extern.allRows.lookup "math.Float64frombits" = some Extern.MathFloatBits.float64frombits := ⟨by kernel_rfl, by kernel_rfl, by kernel_rfl⟩
theorem look_next2 : Extern.allNextRows.lookup "math.Float64bits" = none ∧ Extern.allNextRows.lookup "math.Float64frombits" = none := ⟨by kernel_rfl, by kernel_rfl⟩
theorem look_next : Extern.allNextRows.lookup "internal/bytealg.IndexByteString" = none ∧ Extern.allNextRows.lookup "internal/bytealg.CountString" = none ∧ Extern.allNextRows.lookup "" = none := ⟨by kernel_rfl, by kernel_rfl, by kernel_rfl⟩
theorem aah {f:FuncId}{e:Ext}(he:O8 P f=some e) {vs:List AV}{xs:Array Value}(hr:RepL G vs xs.toList) {K:AV→Prop}(k:Aj e vs K):
  ∃ r v,(callFunc f xs).run P w=.ok (.value v) w∧Rep G r v∧K r:=by
 unfold O8 at he
 split at he
 ·rename_i fn hf
  split at he
  ·rename_i hb
   split at he
   ·rename_i hn
    cases he
    simp only[Bool.and_eq_true,beq_iff_eq]at hn
    have h1:Extern.findNext fn=none:=by unfold Extern.findNext;simp only[hn.1,hn.2,look_next.1,look_next.2.2];rfl
    have h2:Extern.find fn=some Extern.BytealgIndexByte.indexByte:=by unfold Extern.find;simp only[hn.1,look_index.1,look_index.2.1,look_index.2.2];rfl
    rw[run_callFunc_extern hf (by rw[hn.1];decide) hb h1 h2]
    have k:∃ s c,vs=[.lit (.string s),.lit (.int .u8 c)]∧K (I (Lib.indexByte s.data.toList c.toNat.toUInt8)):=by
     unfold Aj at k;split at k<;>first|contradiction|exact⟨_,_,rfl,k⟩|exact k.elim
    obtain⟨s,c,rfl,k⟩:=k
    ·obtain⟨a,b,hx,ha,hb⟩:=hr.two
     simp only[Rep]at ha hb
     have:xs=#[a,b]:=by apply Array.toList_inj.1;simpa using hx
     rw[this,ha.1,hb.1,run_indexByte_string,Lib.firstIdx_eq]
     exact⟨_,_,rfl,by simp[Rep,Value.oneCell'],k⟩
   ·split at he
    ·rename_i hn
     cases he
     simp only[Bool.and_eq_true,beq_iff_eq]at hn
     have h1:Extern.findNext fn=none:=by unfold Extern.findNext;simp only[hn.1,hn.2,look_next.2.1,look_next.2.2];rfl
     have h2:Extern.find fn=some Extern.BytealgCount.count:=by unfold Extern.find;simp only[hn.1,look_count.1,look_count.2.1,look_count.2.2];rfl
     rw[run_callFunc_extern hf (by rw[hn.1];decide) hb h1 h2]
     have k:∃ s c,vs=[.lit (.string s),.lit (.int .u8 c)]∧K (I (Lib.countByte s.data.toList c.toNat.toUInt8)):=by
      unfold Aj at k;split at k<;>first|contradiction|exact⟨_,_,rfl,k⟩|exact k.elim
     obtain⟨s,c,rfl,k⟩:=k
     ·obtain⟨a,b,hx,ha,hb⟩:=hr.two
      simp only[Rep]at ha hb
      have:xs=#[a,b]:=by apply Array.toList_inj.1;simpa using hx
      rw[this,ha.1,hb.1,Lib.run_countString]
      exact⟨_,_,rfl,by simp[Rep,Value.oneCell'],k⟩
    ·split at he
     ·rename_i hn
      cases he
      simp only[Bool.and_eq_true,beq_iff_eq]at hn
      have h1:Extern.findNext fn=none:=by unfold Extern.findNext;simp only[hn.1,hn.2,look_next2.1,look_next.2.2];rfl
      have h2:Extern.find fn=some Extern.MathFloatBits.float64bits:=by unfold Extern.find;simp only[hn.1,look_bits.1,look_bits.2.1,look_bits.2.2];rfl
      rw[run_callFunc_extern hf (by rw[hn.1];decide) hb h1 h2]
      have k:∃ b,vs=[.lit (.float .f64 b)]∧K (.lit (.int .u64 b)):=by
       unfold Aj at k;split at k<;>first|contradiction|exact⟨_,rfl,k⟩|exact k.elim
      obtain⟨b,rfl,k⟩:=k
      obtain⟨a,hx,ha⟩:=hr.single
      simp only[Rep]at ha
      have:xs=#[a]:=by apply Array.toList_inj.1;simpa using hx
      rw[this,ha.1]
      exact⟨_,_,rfl,by simp[Rep,Value.oneCell'],k⟩
     ·split at he
      ·rename_i hn
       cases he
       simp only[Bool.and_eq_true,beq_iff_eq]at hn
       have h1:Extern.findNext fn=none:=by unfold Extern.findNext;simp only[hn.1,hn.2,look_next2.2,look_next.2.2];rfl
       have h2:Extern.find fn=some Extern.MathFloatBits.float64frombits:=by unfold Extern.find;simp only[hn.1,look_frombits.1,look_frombits.2.1,look_frombits.2.2];rfl
       rw[run_callFunc_extern hf (by rw[hn.1];decide) hb h1 h2]
       have k:∃ n,vs=[.lit (.int .u64 n)]∧K (.lit (.float .f64 n.toNat)):=by
        unfold Aj at k;split at k<;>first|contradiction|exact⟨_,rfl,k⟩|exact k.elim
       obtain⟨n,rfl,k⟩:=k
       obtain⟨a,hx,ha⟩:=hr.single
       simp only[Rep]at ha
       have:xs=#[a]:=by apply Array.toList_inj.1;simpa using hx
       rw[this,ha.1]
       exact⟨_,_,rfl,by simp[Rep,Value.oneCell'],k⟩
      ·cases he
  ·cases he
 ·cases he
def isX (P:Program):Op→Bool
 | .call c=>match c.callee with
   | .value (.func f)=>(O8 P f).isSome
   | .builtin .copy=>true
   | .builtin .clear=>true
   | _=>false
 | .indexAddr _ (.global _) _=>true
 | .load _ (.global _)=>true
 | _=>false
def YY:Op→Bool
 | .call c=>match c.callee with
   | .value (.func _)=>true
   | _=>false
 | .indexAddr _ (.global _) _=>true
 | .load _ (.global _)=>true
 | _=>false
def Hn (P:Program) (ts:Array TypeId) (K:Value→TypeInfo→Prop):Prop:=
 match ts.toList with
 | t::_=>(match P.underlying t with
   | some (.slice e)=>(match P.info? e with
     | some i=>(match i.zero with|some z=>if okV z=true then K z i else False|none=>False)
     | none=>False)
   | _=>False)
 | _=>False
theorem Fo {ts:Array TypeId}{K:Value→TypeInfo→Prop}(k:Hn P ts K):∃ t e i z,ts[0]?=some t∧P.underlying t=some (.slice e)∧P.info? e=some i∧i.zero=some z∧okV z=true∧K z i:=by
 unfold Hn at k
 split at k
 ·rename_i t rest ht
  split at k
  ·split at k
   ·split at k
    ·split at k
     ·refine⟨t,_,_,_,?_,by assumption,by assumption,by assumption,by assumption,k⟩
      rw[← Array.getElem?_toList,ht];rfl
     ·exact k.elim
    ·exact k.elim
   ·exact k.elim
  ·exact k.elim
 ·exact k.elim
theorem J8 {ts:Array TypeId}{K K':Value→TypeInfo→Prop}(hk:∀ z i,K z i→K' z i) (k:Hn P ts K):Hn P ts K':=by
 unfold Hn at *
 split at k
 ·split at k
  ·split at k
   ·split at k
    ·split at k
     ·rename_i h;rw[if_pos h];exact hk _ _ k
     ·exact k.elim
    ·exact k.elim
   ·exact k.elim
  ·exact k.elim
 ·exact k.elim
def wH (P:Program) (env:Env) (h:ae) (o:Oper) (K:QT):Prop:=
 match o.op with
 | .call c=>match c.callee with
   | .value (.func f)=>dX (kS env c.args.toList) fun vs=>(match O8 P f with|some e=>VY e vs fun r=>K r h|none=>False)
   | .builtin .copy=>dX (kS env c.args.toList) fun vs=>Hn P c.argTypes fun _ i=>(match vs with|[v,x]=>ab6 i.size v x h K|_=>False)
   | .builtin .clear=>dX (kS env c.args.toList) fun vs=>Hn P c.argTypes fun z i=>(match vs with|[v]=>abi i.size (ofV z) v h fun h'=>K (.tup []) h'|_=>False)
   | _=>False
 | .indexAddr t (.global g) i=>(match Tabs.tab g with
   | some cs=>bV (opv env i) fun iv=>ew P t (.cptr cs) iv fun r=>K r h
   | none=>False)
 | .load t (.global g)=>(match Tabs.tab g with
   | some cs=>kL P t (.cptr cs) h fun r=>K r h
   | none=>False)
 | _=>False
def aop (P:Program) (env:Env) (h:ae) (o:Oper) (K:QT):Prop:=if isX P o.op=true then wH P env h o K else wY P env h o K
theorem Sk (s:Sim G h w) {g:Nat}{cs:List AV}(hg:Tabs.tab g=some cs) (a:Act):Rep G (.cptr cs) (a.eval (.global g)):=by
 simp only[Act.eval,Rep]
 exact⟨g,0,rfl,Tabs.tab_ok G g cs s.tab hg⟩
theorem ZP (s:Sim G h w) {env:Env}{a:Act}(r:EnvRep G env a.tmps) {o:Oper}{K:QT}(k:wH P env h o K):UpV P (N0 G h w K) ((execOp a.eval o).run P w):=by
 obtain⟨dst,op,ty,pos,after,guard⟩:=o
 cases op<;>simp only[wH]at k<;>try exact k.elim
 case call c=>
  obtain⟨callee,args,argTypes⟩:=c
  simp only at k
  split at k
  ·rename_i f
   obtain⟨vs,h1,k⟩:=dn k
   split at k
   ·rename_i e he
    have hr:=jc r h1
    obtain⟨rr,v,q1,q2,q3⟩:=aah (w:=w) (xs:=args.map a.eval) he (by simpa using hr) k.out
    simp only[execOp,resolve,Deferred.ofValue,Act.eval,Sem.run_bind,Sem.run_pure,Result.andThen_ok,invoke,Array.append_empty,Array.empty_append]
    rw[q1]
    exact⟨rr,h,G,q2,q3,s,Evo.refl _ _ _⟩
   ·exact k.elim
  ·obtain⟨vs,h1,k⟩:=dn k
   obtain⟨t,e,i,z,ht0,ht,hi,hz,hzo,k2⟩:=Fo k
   have hr:=jc r h1
   clear k
   split at k2
   ·rename_i v u
    obtain⟨x,y,hx,hx2,hx3⟩:=(show RepL G [v,u] (args.map a.eval).toList by simpa using hr).two
    have hargs:args.map a.eval=#[x,y]:=by apply Array.toList_inj.1;simpa using hx
    obtain⟨r',v',h',G',w',q1,q2,q3,q4,q5⟩:=XX (ty:=ty) s ht0 ht hi hx2 hx3 k2.out
    simp only[execOp,resolve,Sem.run_bind,Sem.run_pure,Result.andThen_ok,invoke,builtin,hargs,q1]
    exact⟨r',h',G',q2,q3,q4,q5⟩
   ·exact k2.elim
  ·obtain⟨vs,h1,k⟩:=dn k
   obtain⟨t,e,i,z,ht0,ht,hi,hz,hzo,k2⟩:=Fo k
   have hr:=jc r h1
   clear k
   split at k2
   ·rename_i v
    obtain⟨x,hx,hx2⟩:=(show RepL G [v] (args.map a.eval).toList by simpa using hr).single
    have hargs:args.map a.eval=#[x]:=by apply Array.toList_inj.1;simpa using hx
    obtain⟨r',v',h',G',w',q1,q2,⟨rfl,q3⟩,q4,q5⟩:=UG (ty:=ty) s ht0 ht hi hz hx2 (rU G z hzo) k2.out
    simp only[execOp,resolve,Sem.run_bind,Sem.run_pure,Result.andThen_ok,invoke,builtin,hargs,q1]
    exact⟨_,h',G',q2,q3,q4,q5⟩
   ·exact k2.elim
  ·exact k.elim
 case indexAddr t x i=>
  cases x<;>simp only at k<;>try exact k.elim
  split at k
  ·rename_i cs hg
   obtain⟨iv,h1,k⟩:=aG k
   have hx:=Sk s hg a
   unfold ew at k
   split at k
   ·split at k
    ·exact bd s (zB ‹_› ‹_› hx (aO r h1) k.out)
    ·exact k.elim
   ·split at k
    ·exact bd s (wL ‹_› ‹_› hx (aO r h1) k.out)
    ·exact k.elim
   ·exact k.elim
  ·exact k.elim
 case load t x=>
  cases x<;>simp only at k<;>try exact k.elim
  split at k
  ·rename_i cs hg
   have hx:=Sk s hg a
   unfold kL at k
   split at k
   ·split at k
    ·exact bd s (Cx s ‹_› ‹_› ‹_› hx k.out)
    ·rename_i hd;exact bd s (De s ‹_› (by simpa using hd) hx k.out)
   ·exact k.elim
  ·exact k.elim
theorem Up {env:Env}{h:ae}{o:Oper}{K K':QT}(hk:∀ v h,K v h→K' v h) (k:wH P env h o K):wH P env h o K':=by
 obtain⟨dst,op,ty,pos,after,guard⟩:=o
 cases op<;>simp only[wH]at k ⊢<;>try exact k.elim
 case call c=>
  split at k
  ·refine fg (fun _ k=>?_) _ k
   split at k
   ·exact⟨Dm (fun r k=>hk r h k) k.out⟩
   ·exact k.elim
  ·refine fg (fun _ k=>J8 (fun z i k=>?_) k) _ k
   split at k
   ·exact⟨Qv hk k.out⟩
   ·exact k.elim
  ·refine fg (fun _ k=>J8 (fun z i k=>?_) k) _ k
   split at k
   ·exact⟨PG (fun h k=>hk _ h k) k.out⟩
   ·exact k.elim
  ·exact k.elim
 case indexAddr t x i=>
  cases x<;>simp only at k ⊢<;>try exact k.elim
  split at k
  ·refine bl (fun _ k=>?_) _ k
   unfold ew at *
   (repeat' split at k)<;>first
    | exact k.elim
    | exact iz (fun r k=>hk r h k) _ _ _ k
    | exact eS (fun r k=>hk r h k) _ _ _ _ k
  ·exact k.elim
 case load t x=>
  cases x<;>simp only at k ⊢<;>try exact k.elim
  split at k
  ·unfold kL at *
   split at k
   ·split at k
    ·rename_i hd;rw[if_pos hd];exact gZ (fun r k=>hk r h k) _ _ _ k
    ·rename_i hd;rw[if_neg hd];exact g7 (fun r k=>hk r h k) _ _ k
   ·exact k.elim
  ·exact k.elim
theorem V2 (s:Sim G h w) {env:Env}{a:Act}(r:EnvRep G env a.tmps) {o:Oper}{K:QT}(k:aop P env h o K):UpV P (N0 G h w K) ((execOp a.eval o).run P w):=by
 unfold aop at k
 split at k
 ·exact ZP s r k
 ·exact Zv s r k
theorem kW {env:Env}{h:ae}{o:Oper}{K K':QT}(hk:∀ v h,K v h→K' v h) (k:aop P env h o K):aop P env h o K':=by
 unfold aop at *
 split at k
 ·rename_i hn;rw[if_pos hn];exact Up hk k
 ·rename_i hn;rw[if_neg hn];exact Uw hk k
end
end
section
variable [Tabs]
section
variable {P:Program}{G:Gh}{h:ae}{w:World}{n:Nat}
def putD (env:Env) (d:Option Tmp) (v:AV):Env:=match d with|some d=>(d,v)::env|none=>env
def ft (n:Nat) (d:Option Tmp):Bool:=match d with|some d=>decide (d<n)|none=>true
theorem EnvRep.putD {env:Env}{a:Act}(r:EnvRep G env a.tmps) {d:Option Tmp}(hd:ft a.tmps.size d=true) {v:AV}{x:Value}(hx:Rep G v x):EnvRep G (putD env d v) (a.put d x).tmps:=by
 cases d with
 | none=>exact r
 | some d=>exact r.put (by simpa [ft] using hd) hx
theorem put_size (a:Act) (d:Option Tmp) (x:Value):(a.put d x).tmps.size=a.tmps.size:=by cases d<;>simp[Act.put]
theorem put_defers (a:Act) (d:Option Tmp) (x:Value):(a.put d x).defers=a.defers:=by cases d<;>simp[Act.put]
def qC (P:Program) (n:Nat) (env:Env) (h:ae) (o:Oper) (K:Env→ae→Prop):Prop:=
 if ft n o.dst=true then aop P env h o fun v h'=>K (putD env o.dst v) h' else False
def ifT (v:AV) (X Y Z:Prop):Prop:=match v with|.tup []=>Z|_=>ifB v X Y
def ifG (g:Bool) (v:AV) (X Y Z:Prop):Prop:=match g with|true=>ifT v X Y Z|false=>ifB v X Y
def Uz (ops:Array Oper) (j:Nat):Bool:=match ops[j]? with|some o=>o.guard.isSome|none=>false
omit [Tabs] in
theorem JU {v:AV}{X Y:Prop}(k:ifB v X Y):(v=B true∧X)∨(v=B false∧Y):=by
 unfold ifB at k;split at k
 ·exact .inl ⟨rfl,k⟩
 ·exact .inr ⟨rfl,k⟩
 ·exact k.elim
omit [Tabs] in
theorem Kd {g:Bool}{v:AV}{X Y Z:Prop}(k:ifG g v X Y Z):(v=B true∧X)∨(v=B false∧Y)∨(v=.tup []∧Z):=by
 unfold ifG at k;split at k
 ·unfold ifT at k;split at k
  ·exact .inr (.inr ⟨rfl,k⟩)
  ·exact (JU k).elim .inl fun h=>.inr (.inl h)
 ·exact (JU k).elim .inl fun h=>.inr (.inl h)
theorem Nr {g:Bool}{v:AV}{X Y Z X' Y' Z':Prop}(hx:X→X') (hy:Y→Y') (hz:Z→Z') (k:ifG g v X Y Z):ifG g v X' Y' Z':=by
 unfold ifG at *
 split at k
 ·unfold ifT at *;split at k
  ·exact hz k
  ·exact Bh hx hy k
 ·exact Bh hx hy k
omit [Tabs] in
theorem ST {g:Bool}{X Y Z:Prop}(k:X):ifG g (B true) X Y Z:=by cases g<;>exact k
omit [Tabs] in
theorem S7 {g:Bool}{X Y Z:Prop}(k:Y):ifG g (B false) X Y Z:=by cases g<;>exact k
def jd (P:Program) (n:Nat) (ops:Array Oper):List Nat→Env→ae→(Env→ae→Prop)→Prop
 | [],env,h,K=>K env h
 | i::rest,env,h,K=>match ops[i]? with
   | none=>False
   | some o=>match o.guard with
     | none=>qC P n env h o fun env' h'=>jd P n ops rest env' h' K
     | some (j,want)=>match (ops[j]?).bind (·.dst) with
       | none=>False
       | some s=>bV (get env s) fun v=>
         ifG (Uz ops j) v
          (if want=true then qC P n ((s,B true)::env) h o fun env' h'=>jd P n ops rest env' h' K
           else if ft n o.dst=true then jd P n ops rest (putD ((s,B true)::env) o.dst (.tup [])) h K else False)
          (if want=true then (if ft n o.dst=true then jd P n ops rest (putD ((s,B false)::env) o.dst (.tup [])) h K else False)
           else qC P n ((s,B false)::env) h o fun env' h'=>jd P n ops rest env' h' K)
          (if ft n o.dst=true then jd P n ops rest (putD ((s,.tup [])::env) o.dst (.tup [])) h K else False)
def KY (G:Gh) (h:ae) (w:World) (n:Nat) (D:List Deferred) (K:Env→ae→Prop) (a:Act) (w':World):Prop:=
 ∃ env' h' G',K env' h'∧Sim G' h' w'∧Evo G h w G' h' w'∧EnvRep G' env' a.tmps∧a.tmps.size=n∧a.defers=D
theorem Px {o:Oper}{env:Env}{K:Env→ae→Prop}{a:Act}{Q:Exit→Act→World→Prop}{next:Act→World→Prop}(s:Sim G h w) (hn:a.tmps.size=n) (r:EnvRep G env a.tmps) (k:qC P n env h o K)
  (hnext:∀ a' w',KY G h w n a.defers K a' w'→next a' w'):o.wp P a w next Q:=by
 unfold qC at k
 split at k
 ·rename_i hd
  unfold Oper.wp
  refine DM ?_
  have:=V2 s r k
  unfold UpV at this ⊢
  have conv:∀ v w',N0 G h w (fun v h'=>K (putD env o.dst v) h') v w'→next (a.put o.dst v) w':=fun v w' ⟨rr,h',G',q1,q2,q3,q4⟩=>by
   refine hnext _ _ ⟨_,h',G',q2,q3,q4,(r.mono q4.le).putD (by rw[hn];exact hd) q1,by rw[put_size,hn],put_defers _ _ _⟩
  split at this
  ·exact conv _ _ this
  ·exact conv _ _ this
  ·exact Calls.mono this fun e w'' ⟨v,he,hv⟩=>⟨v,he,conv _ _ hv⟩
  ·exact this.elim
 ·exact k.elim
theorem xC {env:Env}{tmps:Array Value}(r:EnvRep G env tmps) {s:Nat}{v:AV}(h:get env s=some v):EnvRep G ((s,v)::env) tmps:=fun k a e=>by
 simp only[get]at e
 split at e
 ·rename_i hk;subst hk;cases e;exact r _ _ h
 ·exact r k a e
theorem vy {ops:Array Oper}{o:Oper}{j:Nat}{want b:Bool}{s:Nat}{env:Env}{a:Act}(hg:o.guard=some (j,want)) (hs:(ops[j]?).bind (·.dst)=some s) (r:EnvRep G env a.tmps) (hv:get env s=some (B b)):
  Region.wanted o (yielded ops a.tmps)=(b==want):=by
 obtain⟨x,h1,h2⟩:=r s _ hv
 simp only[Rep]at h2
 obtain⟨rfl,_⟩:=h2
 have hy:yielded ops a.tmps j=some b:=by
  unfold yielded
  simp only[hs]
  simp[Array.getD_eq_getD_getElem?,h1]
 simp only[Region.wanted,hg,hy]
 cases b<;>cases want<;>rfl
theorem Bi {ops:Array Oper}{o:Oper}{j:Nat}{want:Bool}{s:Nat}{env:Env}{a:Act}(hg:o.guard=some (j,want)) (hs:(ops[j]?).bind (·.dst)=some s) (r:EnvRep G env a.tmps) (hv:get env s=some (.tup [])):
  Region.wanted o (yielded ops a.tmps)=false:=by
 obtain⟨x,h1,h2⟩:=r s _ hv
 simp only[Rep]at h2
 obtain⟨vs,rfl,h3⟩:=h2
 have hy:yielded ops a.tmps j=none:=by
  unfold yielded
  simp only[hs]
  simp[Array.getD_eq_getD_getElem?,h1]
 simp only[Region.wanted,hg,hy]
 rfl
theorem Gu (ops:Array Oper) (Q:Exit→Act→World→Prop):∀ (l:List Nat) (env:Env) (h:ae) (G:Gh) (w:World) (a:Act) (K:Env→ae→Prop),Sim G h w→a.tmps.size=n→EnvRep G env a.tmps→jd P n ops l env h K→
  (∀ a' w',KY G h w n a.defers K a' w'→Q .normal a' w')→wpOps P ops Q l a w
 | [],env,h,G,w,a,K,s,hn,r,k,hq=>hq a w ⟨env,h,G,k,s,Evo.refl _ _ _,r,hn,rfl⟩
 | i::rest,env,h,G,w,a,K,s,hn,r,k,hq=>by
   unfold jd at k
   unfold wpOps
   split at k
   ·exact k.elim
   ·rename_i o ho
    simp only[ho]
    have go:∀ {env:Env},EnvRep G env a.tmps→qC P n env h o (fun env' h'=>jd P n ops rest env' h' K)→o.wp P a w (wpOps P ops Q rest) Q:=fun r k=>
     Px s hn r k fun a' w' ⟨env',h',G',q1,q2,q3,q4,q5,q6⟩=>
      Gu ops Q rest env' h' G' w' a' K q2 q5 q4 q1 fun a2 w2 ⟨env2,h2,G2,p1,p2,p3,p4,p5,p6⟩=>hq a2 w2 ⟨env2,h2,G2,p1,p2,q3.trans p3,p4,p5,p6.trans q6⟩
    have skip:∀ {env:Env},EnvRep G env a.tmps→ft n o.dst=true→jd P n ops rest (putD env o.dst (.tup [])) h K→wpOps P ops Q rest (a.put o.dst undef) w:=fun r hd k=>
     Gu ops Q rest _ h G w _ K s (by rw[put_size,hn]) (r.putD (by rw[hn];exact hd) (by simp[Rep,RepL,undef])) k fun a2 w2 p=>hq a2 w2 (by rwa [put_defers]at p)
    split at k
    ·rename_i hg
     have:Region.wanted o (yielded ops a.tmps)=true:=by simp[Region.wanted,hg]
     rw[if_pos this]
     exact .inl (go r k)
    ·rename_i j want hg
     split at k
     ·exact k.elim
     ·rename_i sl hsl
      obtain⟨v,hv,k⟩:=aG k
      replace k:=Kd k
      rcases k with ⟨rfl,k⟩|⟨rfl,k⟩|⟨rfl,k⟩
      ·have r':=xC r hv
       have hw:=vy hg hsl r hv
       rw[hw]
       cases want
       ·simp only[Bool.false_eq_true,if_false]at k
        rw[if_neg (by simp)]
        split at k
        ·exact skip r' ‹_› k
        ·exact k.elim
       ·simp only[if_true]at k
        rw[if_pos (by simp)]
        exact .inl (go r' k)
      ·have r':=xC r hv
       have hw:=vy hg hsl r hv
       rw[hw]
       cases want
       ·simp only[Bool.false_eq_true,if_false]at k
        rw[if_pos (by simp)]
        exact .inl (go r' k)
       ·simp only[if_true]at k
        rw[if_neg (by simp)]
        split at k
        ·exact skip r' ‹_› k
        ·exact k.elim
      ·have r':=xC r hv
       rw[Bi hg hsl r hv]
       rw[if_neg (by simp)]
       split at k
       ·exact skip r' ‹_› k
       ·exact k.elim
theorem Ho {id:Nat}{ops:Array Oper}{env:Env}{K:Exit→Env→ae→Prop}(k:jd P n ops (List.range ops.size) env h fun env' h'=>K .normal env' h'):AWp P n (.region id ops false) env h K:=
 fun G w a s hn r=>wp_region (Gu ops _ _ env h G w a _ s hn r k fun a' w' p=>p)
theorem M3 {c:Operand}{x y:Code}{env:Env}{K:Exit→Env→ae→Prop}(k:bV (opv env c) fun v=>ifB v (AWp P n x env h K) (AWp P n y env h K)):AWp P n (.cond c x y) env h K:=by
 intro G w a s hn r
 obtain⟨v,hv,k⟩:=aG k
 have hr:=aO r hv
 unfold ifB at k
 split at k
 ·simp only[Rep]at hr
  exact wp_cond_true hr.1 (k G w a s hn r)
 ·simp only[Rep]at hr
  exact wp_cond_false hr.1 (k G w a s hn r)
 ·exact k.elim
def dt:Code→List Nat
 | .region _ ops _=>ops.toList.filterMap (·.dst)
 | .seq a b=>dt a++dt b
 | .cond _ a b=>dt a++dt b
 | .block _ b=>dt b
 | .loop b=>dt b
 | .scope b=>dt b
 | .rangeFunc _ _ a b=>dt a++dt b
 | _=>[]
def Ch (o:Oper):List Nat:=o.op.operands.toList.filterMap fun|.tmp t=>some t|_=>none
def aaD:List Nat→List Nat
 | []=>[]
 | x::xs=>if xs.contains x then aaD xs else x::aaD xs
def EG (env:Env):List Nat→Option (List AV)
 | []=>some []
 | s::l=>match get env s,EG env l with
   | some v,some vs=>some (v::vs)
   | _,_=>none
def iT (ws:List Nat) (env:Env):Env:=env.filter fun p=>!ws.contains p.1
theorem Ai {ws:List Nat}:∀ {env:Env}{s:Nat}{a:AV},get (iT ws env) s=some a→get env s=some a
 | [],s,a,e=>by simp[iT,get]at e
 | (k,v)::env,s,a,e=>by
   simp only[iT,List.filter_cons]at e
   split at e
   ·simp only[get]at e ⊢
    split
    ·rename_i hk;rw[if_pos hk]at e;exact e
    ·rename_i hk;rw[if_neg hk]at e;exact Ai e
   ·rename_i hc
    have ih:=Ai (ws:=ws) (env:=env) (s:=s) (a:=a) e
    simp only[get]
    split
    ·rename_i hk
     subst hk
     exfalso
     have:∀ env:Env,get (iT ws env) k=none:=fun env=>by
      induction env with
      | nil=>simp[iT,get]
      | cons p env ih=>
        simp only[iT,List.filter_cons]
        split
        ·rename_i hp
         simp only[get]
         rw[if_neg (fun e=>by subst e;exact hc hp)]
         exact ih
        ·exact ih
     rw[show env.filter _=iT ws env from rfl,this]at e
     cases e
    ·exact ih
def ap (vs:List AV) (i:Nat):AV:=(vs[i]?).getD default
def l7 (vs:List AV):Nat→List Nat→Env
 | _,[]=>[]
 | i,k::ks=>(k,ap vs i)::l7 vs (i+1) ks
structure cb (vs:List AV) (h:ae) (B:List AV→ae→(NT)→Prop):Prop where
 mk::(out:∃ J:Nat→NT,(∃ k,J k vs h)∧∀ k vs h,J k vs h→B vs h fun vs' h'=>∃ m,m<k∧J m vs' h')
def ab3 (ws ks:List Nat) (body:Env→ae→(Exit→Env→ae→Prop)→Prop) (env:Env) (h:ae) (K:Exit→Env→ae→Prop):Prop:=
 dX (EG env ks) fun vs0=>cb vs0 h fun vs h next=>body (l7 vs 0 ks++iT ws env) h fun e env' h'=>match e with
  | .normal=>dX (EG env' ks) fun vs'=>next vs' h'
  | e=>K e env' h'
abbrev MQ:=List (Nat×List Nat×List Nat)
def ry:Code→Nat
 | .region id _ _=>id+1
 | .seq a b=>match ry a with|0=>ry b|k=>k
 | .cond _ a b=>match ry a with|0=>ry b|k=>k
 | .block _ b=>ry b
 | .loop b=>ry b
 | .scope b=>ry b
 | _=>0
def Rm:MQ→Nat→Option (List Nat×List Nat)
 | [],_=>none
 | (k,p)::r,i=>if k=i then some p else Rm r i
def Qb (c:Code) (ws ks:List Nat):Bool:=((dt c).all ws.contains&&ws.all (dt c).contains)&&ks.all ws.contains
theorem DG {c:Code}{ws ks:List Nat}(h:Qb c ws ks=true):(∀ s,s∈dt c→s∈ws)∧(∀ s,s∈ws→s∈dt c)∧∀ s,s∈ks→s∈ws:=by
 simp only[Qb,Bool.and_eq_true,List.all_eq_true]at h
 exact⟨fun s hs=>by simpa using h.1.1 s hs,fun s hs=>by simpa using h.1.2 s hs,fun s hs=>by simpa using h.2 s hs⟩
end
end
section
variable [Tabs]
section
variable {P:Program}
theorem Wb {K:AV→Prop}(op:BinOp) (x y:AV) (k:Ez op x y K):∃ v,K v∧Ez op x y fun r=>r=v:=by
 unfold Ez at *
 (repeat' split at k)<;>first|exact k.elim|exact⟨_,k,rfl⟩|exact⟨_,k.2,k.1,rfl⟩|exact⟨_,k.2.2,k.1,k.2.1,rfl⟩|(refine⟨_,k,?_⟩;simp_all;done)|(refine⟨_,k.2,?_⟩;simp_all;done)|(refine⟨_,k.2.2,?_⟩;simp_all;done)
theorem VL {K:AV→Prop}(op:BinOp) (x y:AV) (k:xi op x y K):∃ v,K v∧xi op x y fun r=>r=v:=by
 unfold xi at *
 (repeat' split at k)<;>first|exact k.elim|exact⟨_,k,rfl⟩|exact⟨_,k.2,k.1,rfl⟩|exact⟨_,k.2.2,k.1,k.2.1,rfl⟩|(refine⟨_,k,?_⟩;simp_all;done)|(refine⟨_,k.2,?_⟩;simp_all;done)|(refine⟨_,k.2.2,?_⟩;simp_all;done)
theorem Vh {K:AV→Prop}(op:BinOp) (x y:AV) (k:wd op x y K):∃ v,K v∧wd op x y fun r=>r=v:=by
 unfold wd at *
 (repeat' split at k)<;>first|exact k.elim|exact⟨_,k,rfl⟩|exact⟨_,k.2,k.1,rfl⟩|exact⟨_,k.2.2,k.1,k.2.1,rfl⟩|(refine⟨_,k,?_⟩;simp_all;done)|(refine⟨_,k.2,?_⟩;simp_all;done)|(refine⟨_,k.2.2,?_⟩;simp_all;done)
theorem Zt {K:AV→Prop}(op:UnOp) (x:AV) (k:pUn op x K):∃ v,K v∧pUn op x fun r=>r=v:=by
 unfold pUn at *
 (repeat' split at k)<;>first|exact k.elim|exact⟨_,k,rfl⟩|exact⟨_,k.2,k.1,rfl⟩|exact⟨_,k.2.2,k.1,k.2.1,rfl⟩|(refine⟨_,k,?_⟩;simp_all;done)|(refine⟨_,k.2,?_⟩;simp_all;done)|(refine⟨_,k.2.2,?_⟩;simp_all;done)
theorem NZ {K:AV→Prop}(d:IntKind) (x:AV) (k:mN d x K):∃ v,K v∧mN d x fun r=>r=v:=by
 unfold mN at *
 (repeat' split at k)<;>first|exact k.elim|exact⟨_,k,rfl⟩|exact⟨_,k.2,k.1,rfl⟩|exact⟨_,k.2.2,k.1,k.2.1,rfl⟩|(refine⟨_,k,?_⟩;simp_all;done)|(refine⟨_,k.2,?_⟩;simp_all;done)|(refine⟨_,k.2.2,?_⟩;simp_all;done)
theorem PH {K:AV→Prop}(d:FloatKind) (x:AV) (k:mU d x K):∃ v,K v∧mU d x fun r=>r=v:=by
 unfold mU at *
 (repeat' split at k)<;>first|exact k.elim|exact⟨_,k,rfl⟩|exact⟨_,k.2,k.1,rfl⟩|exact⟨_,k.2.2,k.1,k.2.1,rfl⟩|(refine⟨_,k,?_⟩;simp_all;done)|(refine⟨_,k.2,?_⟩;simp_all;done)|(refine⟨_,k.2.2,?_⟩;simp_all;done)
theorem Nb {K:AV→Prop}(x:AV) (k:lV x K):∃ v,K v∧lV x fun r=>r=v:=by
 unfold lV at *
 (repeat' split at k)<;>first|exact k.elim|exact⟨_,k,rfl⟩|exact⟨_,k.2,k.1,rfl⟩|exact⟨_,k.2.2,k.1,k.2.1,rfl⟩|(refine⟨_,k,?_⟩;simp_all;done)|(refine⟨_,k.2,?_⟩;simp_all;done)|(refine⟨_,k.2.2,?_⟩;simp_all;done)
theorem X7 {K:AV→Prop}(x:AV) (k:IR x K):∃ v,K v∧IR x fun r=>r=v:=by
 unfold IR at *
 (repeat' split at k)<;>first|exact k.elim|exact⟨_,k,rfl⟩|exact⟨_,k.2,k.1,rfl⟩|exact⟨_,k.2.2,k.1,k.2.1,rfl⟩|(refine⟨_,k,?_⟩;simp_all;done)|(refine⟨_,k.2,?_⟩;simp_all;done)|(refine⟨_,k.2.2,?_⟩;simp_all;done)
theorem Gj {K:AV→Prop}(n:Nat) (x:AV) (k:eZ n x K):∃ v,K v∧eZ n x fun r=>r=v:=by
 unfold eZ at *
 (repeat' split at k)<;>first|exact k.elim|exact⟨_,k,rfl⟩|exact⟨_,k.2,k.1,rfl⟩|exact⟨_,k.2.2,k.1,k.2.1,rfl⟩|(refine⟨_,k,?_⟩;simp_all;done)|(refine⟨_,k.2,?_⟩;simp_all;done)|(refine⟨_,k.2.2,?_⟩;simp_all;done)
theorem Se {K:AV→Prop}(n:Nat) (x:AV) (h:ae) (k:nM n x h K):∃ v,K v∧nM n x h fun r=>r=v:=by
 unfold nM at *
 (repeat' split at k)<;>first|exact k.elim|exact⟨_,k,rfl⟩|exact⟨_,k.2,k.1,rfl⟩|exact⟨_,k.2.2,k.1,k.2.1,rfl⟩|(refine⟨_,k,?_⟩;simp_all;done)|(refine⟨_,k.2,?_⟩;simp_all;done)|(refine⟨_,k.2.2,?_⟩;simp_all;done)
theorem Sb {K:AV→Prop}(x:AV) (h:ae) (k:mc x h K):∃ v,K v∧mc x h fun r=>r=v:=by
 unfold mc at *
 (repeat' split at k)<;>first|exact k.elim|exact⟨_,k,rfl⟩|exact⟨_,k.2,k.1,rfl⟩|exact⟨_,k.2.2,k.1,k.2.1,rfl⟩|(refine⟨_,k,?_⟩;simp_all;done)|(refine⟨_,k.2,?_⟩;simp_all;done)|(refine⟨_,k.2.2,?_⟩;simp_all;done)
theorem QG {K:AV→Prop}(o n:Nat) (x:AV) (k:qU o n x K):∃ v,K v∧qU o n x fun r=>r=v:=by
 unfold qU at *
 (repeat' split at k)<;>first|exact k.elim|exact⟨_,k,rfl⟩|exact⟨_,k.2,k.1,rfl⟩|exact⟨_,k.2.2,k.1,k.2.1,rfl⟩|(refine⟨_,k,?_⟩;simp_all;done)|(refine⟨_,k.2,?_⟩;simp_all;done)|(refine⟨_,k.2.2,?_⟩;simp_all;done)
theorem RV {K:AV→Prop}(o:Nat) (x:AV) (k:qx o x K):∃ v,K v∧qx o x fun r=>r=v:=by
 unfold qx at *
 (repeat' split at k)<;>first|exact k.elim|exact⟨_,k,rfl⟩|exact⟨_,k.2,k.1,rfl⟩|exact⟨_,k.2.2,k.1,k.2.1,rfl⟩|(refine⟨_,k,?_⟩;simp_all;done)|(refine⟨_,k.2,?_⟩;simp_all;done)|(refine⟨_,k.2.2,?_⟩;simp_all;done)
theorem Ps {K:AV→Prop}(x i:AV) (k:k8 x i K):∃ v,K v∧k8 x i fun r=>r=v:=by
 unfold k8 at *
 (repeat' split at k)<;>first|exact k.elim|exact⟨_,k,rfl⟩|exact⟨_,k.2,k.1,rfl⟩|exact⟨_,k.2.2,k.1,k.2.1,rfl⟩|(refine⟨_,k,?_⟩;simp_all;done)|(refine⟨_,k.2,?_⟩;simp_all;done)|(refine⟨_,k.2.2,?_⟩;simp_all;done)
theorem Hf {K:AV→Prop}(n:Nat) (x i:AV) (k:dp n x i K):∃ v,K v∧dp n x i fun r=>r=v:=by
 unfold dp at *
 (repeat' split at k)<;>first|exact k.elim|exact⟨_,k,rfl⟩|exact⟨_,k.2,k.1,rfl⟩|exact⟨_,k.2.2,k.1,k.2.1,rfl⟩|(refine⟨_,k,?_⟩;simp_all;done)|(refine⟨_,k.2,?_⟩;simp_all;done)|(refine⟨_,k.2.2,?_⟩;simp_all;done)
theorem EX {K:AV→Prop}(m n:Nat) (x i:AV) (k:cR m n x i K):∃ v,K v∧cR m n x i fun r=>r=v:=by
 unfold cR at *
 (repeat' split at k)<;>first|exact k.elim|exact⟨_,k,rfl⟩|exact⟨_,k.2,k.1,rfl⟩|exact⟨_,k.2.2,k.1,k.2.1,rfl⟩|(refine⟨_,k,?_⟩;simp_all;done)|(refine⟨_,k.2,?_⟩;simp_all;done)|(refine⟨_,k.2.2,?_⟩;simp_all;done)
theorem PU {K:AV→Prop}(x:AV) (a b:Option AV) (k:iX x a b K):∃ v,K v∧iX x a b fun r=>r=v:=by
 unfold iX at *
 (repeat' split at k)<;>first|exact k.elim|exact⟨_,k,rfl⟩|exact⟨_,k.2,k.1,rfl⟩|exact⟨_,k.2.2,k.1,k.2.1,rfl⟩|(refine⟨_,k,?_⟩;simp_all;done)|(refine⟨_,k.2,?_⟩;simp_all;done)|(refine⟨_,k.2.2,?_⟩;simp_all;done)
theorem O3 {K:AV→Prop}(n:Nat) (x:AV) (a b:Option AV) (k:ij n x a b K):∃ v,K v∧ij n x a b fun r=>r=v:=by
 unfold ij at *
 (repeat' split at k)<;>first|exact k.elim|exact⟨_,k,rfl⟩|exact⟨_,k.2,k.1,rfl⟩|exact⟨_,k.2.2,k.1,k.2.1,rfl⟩|(refine⟨_,k,?_⟩;simp_all;done)|(refine⟨_,k.2,?_⟩;simp_all;done)|(refine⟨_,k.2.2,?_⟩;simp_all;done)
theorem PL {K:AV→Prop}(x:AV) (k:ma x K):∃ v,K v∧ma x fun r=>r=v:=by
 unfold ma at *
 (repeat' split at k)<;>first|exact k.elim|exact⟨_,k,rfl⟩|exact⟨_,k.2,k.1,rfl⟩|exact⟨_,k.2.2,k.1,k.2.1,rfl⟩|(refine⟨_,k,?_⟩;simp_all;done)|(refine⟨_,k.2,?_⟩;simp_all;done)|(refine⟨_,k.2.2,?_⟩;simp_all;done)
theorem T1 {K:AV→Prop}(x:AV) (k:zC x K):∃ v,K v∧zC x fun r=>r=v:=by
 unfold zC at *
 (repeat' split at k)<;>first|exact k.elim|exact⟨_,k,rfl⟩|exact⟨_,k.2,k.1,rfl⟩|exact⟨_,k.2.2,k.1,k.2.1,rfl⟩|(refine⟨_,k,?_⟩;simp_all;done)|(refine⟨_,k.2,?_⟩;simp_all;done)|(refine⟨_,k.2.2,?_⟩;simp_all;done)
theorem VF {K:AV→Prop}(x:AV) (k:zD x K):∃ v,K v∧zD x fun r=>r=v:=by
 unfold zD at *
 (repeat' split at k)<;>first|exact k.elim|exact⟨_,k,rfl⟩|exact⟨_,k.2,k.1,rfl⟩|exact⟨_,k.2.2,k.1,k.2.1,rfl⟩|(refine⟨_,k,?_⟩;simp_all;done)|(refine⟨_,k.2,?_⟩;simp_all;done)|(refine⟨_,k.2.2,?_⟩;simp_all;done)
theorem U1 {K:AV→Prop}(x:AV) (h:ae) (k:y6 x h K):∃ v,K v∧y6 x h fun r=>r=v:=by
 unfold y6 at *
 (repeat' split at k)<;>first|exact k.elim|exact⟨_,k,rfl⟩|exact⟨_,k.2,k.1,rfl⟩|exact⟨_,k.2.2,k.1,k.2.1,rfl⟩|(refine⟨_,k,?_⟩;simp_all;done)|(refine⟨_,k.2,?_⟩;simp_all;done)|(refine⟨_,k.2.2,?_⟩;simp_all;done)
theorem Lf {K:AV→Prop}(i:Nat) (x:AV) (k:iA i x K):∃ v,K v∧iA i x fun r=>r=v:=by
 unfold iA at *
 (repeat' split at k)<;>first|exact k.elim|exact⟨_,k,rfl⟩|exact⟨_,k.2,k.1,rfl⟩|exact⟨_,k.2.2,k.1,k.2.1,rfl⟩|(refine⟨_,k,?_⟩;simp_all;done)|(refine⟨_,k.2,?_⟩;simp_all;done)|(refine⟨_,k.2.2,?_⟩;simp_all;done)
theorem X0 {K:AV→Prop}(x y:AV) (k:EV x y K):∃ v,K v∧EV x y fun r=>r=v:=by
 unfold EV at *
 split at k
 ·exact⟨_,k,rfl⟩
 ·exact k.elim
theorem Yi {K:AV→Prop}(x y:AV) (k:Et x y K):∃ v,K v∧Et x y fun r=>r=v:=by
 unfold Et at *
 split at k
 ·exact⟨_,k,rfl⟩
 ·exact k.elim
theorem Sf {K:AV→Prop}(z:List AV) (ps:List (Nat×Nat×AV)) (k:pa z ps K):∃ v,K v∧pa z ps fun r=>r=v:=by
 unfold pa at *
 (repeat' split at k)<;>first|exact k.elim|exact⟨_,k,rfl⟩|exact⟨_,k.2,k.1,rfl⟩|exact⟨_,k.2.2,k.1,k.2.1,rfl⟩|(refine⟨_,k,?_⟩;simp_all;done)|(refine⟨_,k.2,?_⟩;simp_all;done)|(refine⟨_,k.2.2,?_⟩;simp_all;done)
theorem Sa {K:AV→Prop}(t:TypeId) (x:AV) (k:CO t x K):∃ v,K v∧CO t x fun r=>r=v:=⟨_,k,rfl⟩
theorem EE {K:AV→Prop}(n m:Nat) (vs:List AV) (k:g9 n m vs K):∃ v,K v∧g9 n m vs fun r=>r=v:=⟨_,k.2,k.1,rfl⟩
theorem YE {K:AV→Prop}(op:BinOp) (x y:AV) (k:ai op x y K):∃ v,K v∧ai op x y fun r=>r=v:=let ⟨v,h1,h2⟩:=Wb op x y k.out;⟨v,h1,⟨h2⟩⟩
theorem UO {K:AV→Prop}(op:BinOp) (x y:AV) (k:Kz op x y K):∃ v,K v∧Kz op x y fun r=>r=v:=let ⟨v,h1,h2⟩:=VL op x y k.out;⟨v,h1,⟨h2⟩⟩
theorem UW {K:AV→Prop}(op:BinOp) (x y:AV) (k:DH op x y K):∃ v,K v∧DH op x y fun r=>r=v:=let ⟨v,h1,h2⟩:=Vh op x y k.out;⟨v,h1,⟨h2⟩⟩
theorem ZD {K:AV→Prop}(op:UnOp) (x:AV) (k:qUn op x K):∃ v,K v∧qUn op x fun r=>r=v:=let ⟨v,h1,h2⟩:=Zt op x k.out;⟨v,h1,⟨h2⟩⟩
theorem Oi {K:AV→Prop}(d:IntKind) (x:AV) (k:ci d x K):∃ v,K v∧ci d x fun r=>r=v:=let ⟨v,h1,h2⟩:=NZ d x k.out;⟨v,h1,⟨h2⟩⟩
theorem PC {K:AV→Prop}(d:FloatKind) (x:AV) (k:rD d x K):∃ v,K v∧rD d x fun r=>r=v:=let ⟨v,h1,h2⟩:=PH d x k.out;⟨v,h1,⟨h2⟩⟩
theorem M9 {K:AV→Prop}(x:AV) (k:yr x K):∃ v,K v∧yr x fun r=>r=v:=let ⟨v,h1,h2⟩:=Nb x k.out;⟨v,h1,⟨h2⟩⟩
theorem V1 {K:AV→Prop}(x:AV) (k:aE x K):∃ v,K v∧aE x fun r=>r=v:=let ⟨v,h1,h2⟩:=X7 x k.out;⟨v,h1,⟨h2⟩⟩
theorem FK {K:AV→Prop}(n:Nat) (x:AV) (k:ab n x K):∃ v,K v∧ab n x fun r=>r=v:=let ⟨v,h1,h2⟩:=Gj n x k.out;⟨v,h1,⟨h2⟩⟩
theorem FN {K:AV→Prop}(n:Nat) (x:AV) (h:ae) (k:aw n x h K):∃ v,K v∧aw n x h fun r=>r=v:=let ⟨v,h1,h2⟩:=Se n x h k.out;⟨v,h1,⟨h2⟩⟩
theorem Hc {K:AV→Prop}(x:AV) (h:ae) (k:ag x h K):∃ v,K v∧ag x h fun r=>r=v:=let ⟨v,h1,h2⟩:=Sb x h k.out;⟨v,h1,⟨h2⟩⟩
theorem QX {K:AV→Prop}(o n:Nat) (x:AV) (k:Dt o n x K):∃ v,K v∧Dt o n x fun r=>r=v:=let ⟨v,h1,h2⟩:=QG o n x k.out;⟨v,h1,⟨h2⟩⟩
theorem Qj {K:AV→Prop}(o:Nat) (x:AV) (k:Dv o x K):∃ v,K v∧Dv o x fun r=>r=v:=let ⟨v,h1,h2⟩:=RV o x k.out;⟨v,h1,⟨h2⟩⟩
theorem OA {K:AV→Prop}(x i:AV) (k:bj x i K):∃ v,K v∧bj x i fun r=>r=v:=let ⟨v,h1,h2⟩:=Ps x i k.out;⟨v,h1,⟨h2⟩⟩
theorem xR {K:AV→Prop}(n:Nat) (x i:AV) (k:am n x i K):∃ v,K v∧am n x i fun r=>r=v:=let ⟨v,h1,h2⟩:=Hf n x i k.out;⟨v,h1,⟨h2⟩⟩
theorem vM {K:AV→Prop}(m n:Nat) (x i:AV) (k:cd m n x i K):∃ v,K v∧cd m n x i fun r=>r=v:=let ⟨v,h1,h2⟩:=EX m n x i k.out;⟨v,h1,⟨h2⟩⟩
theorem OM {K:AV→Prop}(x:AV) (a b:Option AV) (k:bm x a b K):∃ v,K v∧bm x a b fun r=>r=v:=let ⟨v,h1,h2⟩:=PU x a b k.out;⟨v,h1,⟨h2⟩⟩
theorem NG {K:AV→Prop}(n:Nat) (x:AV) (a b:Option AV) (k:ir n x a b K):∃ v,K v∧ir n x a b fun r=>r=v:=let ⟨v,h1,h2⟩:=O3 n x a b k.out;⟨v,h1,⟨h2⟩⟩
theorem O5 {K:AV→Prop}(x:AV) (k:Bn x K):∃ v,K v∧Bn x fun r=>r=v:=let ⟨v,h1,h2⟩:=PL x k.out;⟨v,h1,⟨h2⟩⟩
theorem Vv {K:AV→Prop}(x:AV) (k:bH x K):∃ v,K v∧bH x fun r=>r=v:=let ⟨v,h1,h2⟩:=T1 x k.out;⟨v,h1,⟨h2⟩⟩
theorem Ul {K:AV→Prop}(x:AV) (k:aY x K):∃ v,K v∧aY x fun r=>r=v:=let ⟨v,h1,h2⟩:=VF x k.out;⟨v,h1,⟨h2⟩⟩
theorem UX {K:AV→Prop}(x:AV) (h:ae) (k:JK x h K):∃ v,K v∧JK x h fun r=>r=v:=let ⟨v,h1,h2⟩:=U1 x h k.out;⟨v,h1,⟨h2⟩⟩
theorem L8 {K:AV→Prop}(i:Nat) (x:AV) (k:an i x K):∃ v,K v∧an i x fun r=>r=v:=let ⟨v,h1,h2⟩:=Lf i x k.out;⟨v,h1,⟨h2⟩⟩
theorem Y0 {K:AV→Prop}(x y:AV) (k:Co x y K):∃ v,K v∧Co x y fun r=>r=v:=let ⟨v,h1,h2⟩:=X0 x y k.out;⟨v,h1,⟨h2⟩⟩
theorem YP {K:AV→Prop}(x y:AV) (k:F0 x y K):∃ v,K v∧F0 x y fun r=>r=v:=let ⟨v,h1,h2⟩:=Yi x y k.out;⟨v,h1,⟨h2⟩⟩
theorem P4 {K:AV→Prop}(z:List AV) (ps:List (Nat×Nat×AV)) (k:ax z ps K):∃ v,K v∧ax z ps fun r=>r=v:=let ⟨v,h1,h2⟩:=Sf z ps k.out;⟨v,h1,⟨h2⟩⟩
theorem Qw {K:AV→Prop}(t:TypeId) (x:AV) (k:wB t x K):∃ v,K v∧wB t x fun r=>r=v:=let ⟨v,h1,h2⟩:=Sa t x k.out;⟨v,h1,⟨h2⟩⟩
theorem EQ {K:AV→Prop}(n m:Nat) (vs:List AV) (k:ao n m vs K):∃ v,K v∧ao n m vs fun r=>r=v:=let ⟨v,h1,h2⟩:=EE n m vs k.out;⟨v,h1,⟨h2⟩⟩
end
end
end Go.Proofs.YtgkmmcdhhkllnaaGreatDoor.AL
