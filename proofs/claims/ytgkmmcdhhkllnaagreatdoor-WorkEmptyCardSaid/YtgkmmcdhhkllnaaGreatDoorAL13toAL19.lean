import Derived.Test.YtgkmmcdhhkllnaaGreatDoorAL9ctoAL13v
import Derived.WalkKit
import Derived.ProofKit
import Derived.OpenShut
import Derived.Carry
set_option linter.all false
set_option autoImplicit true
set_option relaxedAutoImplicit true
set_option maxRecDepth 100000
namespace Go.Proofs.YtgkmmcdhhkllnaaGreatDoor.AL
section
variable [Tabs]
section
variable {P:Program}
def YQ:Op→Bool
 | .move _|.assign _|.pick ..|.build ..|.buildSlice ..|.load ..|.nilCheck _|.binOp ..|.unOp ..|.convert ..|.makeInterface ..|.makeFunc ..|.slice ..|.fieldAddr ..|.field ..|.indexAddr ..|.index ..|.extract ..=>true
 | .call c=>match c.callee with
   | .builtin .len=>true
   | .builtin .max=>true
   | .builtin .min=>true
   | _=>false
 | _=>false
def acq (P:Program):Op→Bool
 | .load ..=>true
 | .call c=>match c.callee,c.argTypes.toList with
   | .builtin .len,[t]=>match P.underlying t with|some (.map _ _)=>true|_=>false
   | _,_=>false
 | _=>false
theorem aY {K:AV→Prop}{o:Option AV}{v:AV}(h:o=some v) (k:K v):bW o K:=by subst h;exact k
theorem mq {K:List AV→Prop}{o:Option (List AV)}{v:List AV}(h:o=some v) (k:K v):d6 o K:=by subst h;exact k
theorem m7 {K:Option AV→Prop}{o:Option (Option AV)}{v:Option AV}(h:o=some v) (k:K v):BZ o K:=by subst h;exact k
theorem ZI {env:Env}{h:ae}{o:Oper}{K:QT}(hq:YQ o.op=true) (k:yq P env h o K):∃ v,K v h∧yq P env h o fun r h'=>r=v∧h'=h:=by
 obtain⟨dst,op,ty,pos,after,guard⟩:=o
 have up:∀ {v:AV} (r:AV),r=v→r=v∧True:=fun r e=>⟨e,trivial⟩
 cases op<;>simp only[yq,YQ,Bool.false_eq_true]at k hq ⊢
 case move=>obtain⟨v,e,k⟩:=aH k;exact⟨v,k,aY e ⟨rfl,trivial⟩⟩
 case assign=>obtain⟨v,e,k⟩:=aH k;exact⟨v,k,aY e ⟨rfl,trivial⟩⟩
 case pick=>
  obtain⟨c,e,k⟩:=aH k
  obtain⟨x,e1,k⟩:=aH k
  obtain⟨y,e2,k⟩:=aH k
  have:∀ {X:Prop},X→True:=fun _=>trivial
  unfold ifB at k
  split at k
  ·exact⟨x,k,aY e (aY e1 (aY e2 ⟨rfl,trivial⟩))⟩
  ·exact⟨y,k,aY e (aY e1 (aY e2 ⟨rfl,trivial⟩))⟩
  ·exact k.elim
 case build=>
  obtain⟨vs,e,k⟩:=dI k
  unfold xO at k
  (repeat' split at k)<;>first
   | exact k.elim
   | (obtain⟨v,k1,k2⟩:=RM _ _ k
      refine⟨v,k1,mq e ?_⟩
      simp only[xO, *,if_true]
      exact xz up _ _ k2)
 case buildSlice=>
  obtain⟨vs,e,k⟩:=dI k
  unfold ig at k
  (repeat' split at k)<;>first
   | exact k.elim
   | (obtain⟨v,k1,k2⟩:=Fj _ _ _ k
      refine⟨v,k1,mq e ?_⟩
      simp only[ig, *]
      rw[if_pos ‹_›]
      exact nQ up _ _ _ k2)
 case load=>
  obtain⟨x,e,k⟩:=aH k
  unfold kY at k
  (repeat' split at k)<;>first
   | exact k.elim
   | (obtain⟨v,k1,k2⟩:=HZ _ _ _ k
      refine⟨v,k1,aY e ?_⟩
      simp only[kY, *,if_true]
      exact ic up _ _ _ k2)
   | (obtain⟨v,k1,k2⟩:=F8 _ _ k
      refine⟨v,k1,aY e ?_⟩
      simp only[kY, *,↓reduceIte,Bool.false_eq_true]
      exact ib up _ _ k2)
 case nilCheck=>
  obtain⟨x,e,k⟩:=aH k
  obtain⟨v,k1,k2⟩:=Xe _ k
  exact⟨v,k1,aY e (DY up _ k2)⟩
 case binOp=>
  obtain⟨x,e,k⟩:=aH k
  obtain⟨y,e1,k⟩:=aH k
  unfold Qn at k
  (repeat' split at k)<;>first
   | exact k.elim
   | (obtain⟨v,k1,k2⟩:=Zf _ _ _ k
      refine⟨v,k1,aY e (aY e1 ?_)⟩
      simp only[Qn, *]
      exact tN up _ _ _ k2)
   | (obtain⟨v,k1,k2⟩:=UK _ _ _ k
      refine⟨v,k1,aY e (aY e1 ?_)⟩
      simp only[Qn, *]
      exact Ao up _ _ _ k2)
   | (obtain⟨v,k1,k2⟩:=VT _ _ _ k
      refine⟨v,k1,aY e (aY e1 ?_)⟩
      simp only[Qn, *]
      exact Au up _ _ _ k2)
 case unOp=>
  obtain⟨x,e,k⟩:=aH k
  obtain⟨v,k1,k2⟩:=aaO _ _ k
  exact⟨v,k1,aY e (Hi up _ _ k2)⟩
 case convert=>
  obtain⟨x,e,k⟩:=aH k
  unfold ES at k
  (repeat' split at k)<;>first
   | exact k.elim
   | (obtain⟨v,k1,k2⟩:=OC _ _ k
      refine⟨v,k1,aY e ?_⟩
      simp only[ES, *]
      exact vf up _ _ k2)
   | (obtain⟨v,k1,k2⟩:=OZ _ _ k
      refine⟨v,k1,aY e ?_⟩
      simp only[ES, *]
      exact u4 up _ _ k2)
   | (obtain⟨v,k1,k2⟩:=PH _ k
      refine⟨v,k1,aY e ?_⟩
      simp only[ES, *]
      exact uP up _ k2)
 case makeInterface=>
  obtain⟨x,e,k⟩:=aH k
  unfold D9 at k
  (repeat' split at k)<;>first
   | exact k.elim
   | (rename_i hn ht
      obtain⟨v,k1,k2⟩:=RJ _ _ k
      refine⟨v,k1,aY e ?_⟩
      unfold D9
      split
      ·rename_i he;rw[ht]at he;cases he;exact (hn _ rfl).elim
      ·exact wD up _ _ k2
      ·rename_i he;rw[ht]at he;cases he)
 case makeFunc=>
  obtain⟨x,e,k⟩:=dI k
  obtain⟨y,e1,k⟩:=dI k
  exact⟨_,k,mq e (mq e1 ⟨rfl,trivial⟩)⟩
 case slice=>
  obtain⟨x,e,k⟩:=aH k
  obtain⟨l,e1,k⟩:=tZ k
  obtain⟨u,e2,k⟩:=tZ k
  obtain⟨m,e3,k⟩:=tZ k
  unfold nU at k
  (repeat' split at k)<;>first
   | exact k.elim
   | (obtain⟨v,k1,k2⟩:=OH _ _ _ k
      refine⟨v,k1,aY e (m7 e1 (m7 e2 (m7 e3 ?_)))⟩
      simp only[nU, *]
      exact u5 up _ _ _ k2)
   | (obtain⟨v,k1,k2⟩:=OY _ _ _ _ k
      refine⟨v,k1,aY e (m7 e1 (m7 e2 (m7 e3 ?_)))⟩
      simp only[nU, *]
      exact ve up _ _ _ _ k2)
   | (obtain⟨v,k1,k2⟩:=NV _ k
      refine⟨v,k1,aY e (m7 e1 (m7 e2 (m7 e3 ?_)))⟩
      simp only[nU, *]
      exact uQ up _ k2)
 case fieldAddr=>
  obtain⟨x,e,k⟩:=aH k
  unfold oc at k
  (repeat' split at k)<;>first
   | exact k.elim
   | (obtain⟨v,k1,k2⟩:=Ix _ _ k
      refine⟨v,k1,aY e ?_⟩
      simp only[oc, *,↓reduceIte]
      exact pi up _ _ k2)
 case field=>
  obtain⟨x,e,k⟩:=aH k
  unfold xg EM at k
  (repeat' split at k)<;>first
   | exact k.elim
   | (obtain⟨v,k1,k2⟩:=Ta _ _ _ k
      refine⟨v,k1,aY e ?_⟩
      simp only[xg,EM, *,if_true]
      exact x9 up _ _ _ k2)
   | (obtain⟨v,k1,k2⟩:=Sv _ _ k
      refine⟨v,k1,aY e ?_⟩
      simp only[xg,EM, *,↓reduceIte,Bool.false_eq_true]
      exact yu up _ _ k2)
 case indexAddr=>
  obtain⟨x,e,k⟩:=aH k
  obtain⟨y,e1,k⟩:=aH k
  unfold eF at k
  (repeat' split at k)<;>first
   | exact k.elim
   | (obtain⟨v,k1,k2⟩:=ww _ _ _ k
      refine⟨v,k1,aY e (aY e1 ?_)⟩
      simp only[eF, *]
      exact iM up _ _ _ k2)
   | (obtain⟨v,k1,k2⟩:=vW _ _ _ _ k
      refine⟨v,k1,aY e (aY e1 ?_)⟩
      simp only[eF, *]
      exact fc up _ _ _ _ k2)
 case index=>
  obtain⟨x,e,k⟩:=aH k
  obtain⟨y,e1,k⟩:=aH k
  unfold C8 at k
  (repeat' split at k)<;>first
   | exact k.elim
   | (obtain⟨v,k1,k2⟩:=Ps _ _ k
      refine⟨v,k1,aY e (aY e1 ?_)⟩
      simp only[C8, *]
      exact u2 up _ _ k2)
 case extract=>
  obtain⟨x,e,k⟩:=aH k
  obtain⟨v,k1,k2⟩:=L7 _ _ k
  exact⟨v,k1,aY e (tD up _ _ k2)⟩
 case call c=>
  obtain⟨vs,e,k⟩:=dI k
  split at hq
  ·rename_i hc
   simp only[hc]at k
   split at k
   ·rename_i v t hv
    unfold Dw at k
    (repeat' split at k)<;>first
     | exact k.elim
     | (obtain⟨v,k1,k2⟩:=Wm _ k
        refine⟨v,k1,mq e ?_⟩
        simp only[hc,Dw, *]
        exact Ay up _ k2)
     | (obtain⟨v,k1,k2⟩:=WE _ k
        refine⟨v,k1,mq e ?_⟩
        simp only[hc,Dw, *]
        exact AN up _ k2)
     | (obtain⟨v,k1,k2⟩:=WJ _ _ k
        refine⟨v,k1,mq e ?_⟩
        simp only[hc,Dw, *]
        exact AB up _ _ k2)
   ·exact k.elim
  ·rename_i hc
   simp only[hc]at k
   split at k
   ·obtain⟨v,k1,k2⟩:=ZF _ _ k
    refine⟨v,k1,mq e ?_⟩
    simp only[hc]
    exact C2 up _ _ k2
   ·exact k.elim
  ·rename_i hc
   simp only[hc]at k
   split at k
   ·obtain⟨v,k1,k2⟩:=XI _ _ k
    refine⟨v,k1,mq e ?_⟩
    simp only[hc]
    exact C7 up _ _ k2
   ·exact k.elim
  ·exact absurd hq (by simp)
theorem Wf {env:Env}{h h2:ae}{o:Oper}{R:AV→Prop}(hq:YQ o.op=true) (hh:acq P o.op=false) (k:yq P env h o fun r _=>R r):yq P env h2 o fun r _=>R r:=by
 obtain⟨dst,op,ty,pos,after,guard⟩:=o
 cases op<;>simp only[yq,YQ,acq,Bool.true_eq_false,Bool.false_eq_true]at k hq hh ⊢<;>try exact k
 case call c=>
  refine fx (fun vs k=>?_) _ k
  split at hq
  ·rename_i hc
   simp only[hc]at k hh ⊢
   split at k
   ·rename_i v t hv
    simp only[hv]at hh
    unfold Dw at k ⊢
    split at k<;>rename_i ht
    ·exact k
    ·exact k
    ·simp[ht]at hh
    ·exact k
   ·exact k
  ·rename_i hc
   simp only[hc]at k ⊢
   exact k
  ·rename_i hc
   simp only[hc]at k ⊢
   exact k
  ·exact absurd hq (by simp)
theorem DX {env env':Env}{x:Operand}(h:∀ t,x=.tmp t→get env t=get env' t):opv env x=opv env' x:=by
 cases x<;>simp only[opv]
 exact h _ rfl
theorem gu {env env':Env}:∀ {l:List Operand},(∀ x∈l,opv env x=opv env' x)→lq env l=lq env' l
 | [],_=>rfl
 | x::l,h=>by
   simp only[lq,h x (by simp),gu fun y hy=>h y (List.mem_cons_of_mem _ hy)]
theorem Av {env env':Env}:∀ {l:Option Operand},(∀ x∈l,opv env x=opv env' x)→Fd env l=Fd env' l
 | none,_=>rfl
 | some x,h=>by simp only[Fd,h x (by simp)]
theorem RZ {env env':Env}{h:ae}{o:Oper}{K:QT}(he:∀ t∈CA o,get env t=get env' t):yq P env h o K=yq P env' h o K:=by
 have ho:∀ x∈o.op.operands,opv env x=opv env' x:=fun x hx=>DX fun t e=>he t (by
  subst e
  exact List.mem_filterMap.2 ⟨.tmp t,by simpa using hx,rfl⟩)
 clear he
 obtain⟨dst,op,ty,pos,after,guard⟩:=o
 cases op<;>simp only[Op.operands]at ho<;>simp only[yq]
 case pick c a b=>simp only[ho c (by simp),ho a (by simp),ho b (by simp)]
 case build t ps=>rw[gu fun x hx=>ho x (by simpa using hx)]
 case buildSlice t n ps=>rw[gu fun x hx=>ho x (by simpa using hx)]
 case makeFunc f fi ca=>rw[gu (l:=fi.toList) fun x hx=>ho x (by simp at hx;simp[hx]),gu (l:=ca.toList) fun x hx=>ho x (by simp at hx;simp[hx])]
 case slice t x lo hi mx=>
  rw[ho x (by simp),Av (l:=lo) fun y hy=>ho y (by simp at hy;simp[hy]),Av (l:=hi) fun y hy=>ho y (by simp at hy;simp[hy]),Av (l:=mx) fun y hy=>ho y (by simp at hy;simp[hy])]
 case call c=>
  rw[gu (l:=c.args.toList) fun x hx=>ho x (by simp at hx;simp[Call.operands,hx])]
  congr 1
  funext vs
  split
  ·rename_i f hc
   rw[ho f (by simp[Call.operands,hc])]
  ·rfl
  ·rfl
  ·rfl
  ·rfl
  ·rfl
 all_goals (first|rfl|(simp only[ho _ (by simp)];done)|(simp_all;done))
def Yf (P:Program):Op→Bool
 | .lookup ..=>true
 | .entry _=>true
 | .convert s _ _=>match P.underlying s with|some (.slice _)=>true|_=>false
 | .binOp _ t _ _ _=>match P.underlying t with|some (.slice _)=>false|_=>true
 | _=>false
def abN (P:Program):Op→Bool
 | .lookup ..=>true
 | .entry _=>true
 | .convert ..=>true
 | _=>false
def Yg (P:Program) (o:Op):Bool:=if E6 P o=true then Yf P o else YQ o
def abV (P:Program) (o:Op):Bool:=if E6 P o=true then abN P o else acq P o
def qOp (P:Program) (o:Op):Bool:=if isX P o=true then Zb o else Yg P o
def hOp (P:Program) (o:Op):Bool:=if isX P o=true then false else abV P o
theorem Pp {d:TypeDesc}{ok:Bool}{z x key:AV}{h:ae}{K:AV→Prop}(k:ir d ok z x key h K):∃ v,K v∧ir d ok z x key h fun r=>r=v:=by
 unfold ir at *
 split at k
 ·split at k
  ·split at k
   ·rename_i hc;exact⟨_,k,by rw[if_pos hc]⟩
   ·exact k.elim
  ·split at k
   ·split at k
    ·rename_i hc
     split at k
     ·rename_i hm;exact⟨_,k,by rw[if_pos hc]⟩
     ·rename_i hm;exact⟨_,k,by rw[if_pos hc]⟩
    ·exact k.elim
   ·exact k.elim
  ·exact k.elim
 ·exact k.elim
theorem I7 {x:AV}{h:ae}{K:AV→Prop}(k:g8 x h K):∃ v,K v∧g8 x h fun r=>r=v:=by
 unfold g8 at *
 split at k
 ·rename_i hc
  split at k
  ·split at k
   ·exact⟨_,k,by rw[if_pos hc]⟩
   ·exact k.elim
  ·exact k.elim
 ·exact k.elim
theorem SF {x:AV}{h:ae}{K:AV→Prop}(k:pm x h K):∃ v,K v∧pm x h fun r=>r=v:=by
 unfold pm at *
 split at k
 ·split at k
  ·split at k
   ·split at k
    ·split at k
     ·rename_i hc;exact⟨_,k,by rw[if_pos hc]⟩
     ·exact k.elim
    ·exact k.elim
   ·exact k.elim
  ·exact k.elim
 ·exact k.elim
theorem WV {op:BinOp}{b:Bool}{K:AV→Prop}(k:rh op b K):∃ v,K v∧rh op b fun r=>r=v:=by
 unfold rh at *
 split at k
 ·exact⟨_,k,rfl⟩
 ·exact⟨_,k,rfl⟩
 ·exact k.elim
theorem Zh {op:BinOp}{ds:List TypeDesc}{x y:AV}{K:AV→Prop}(k:Fw op ds x y K):∃ v,K v∧Fw op ds x y fun r=>r=v:=by
 unfold Fw at *
 split at k
 ·split at k
  ·exact WV k
  ·exact k.elim
 ·exact k.elim
theorem P9 {op:BinOp}{x:AV}{K:AV→Prop}(k:mw op x K):∃ v,K v∧mw op x fun r=>r=v:=by
 unfold mw at *
 split at k<;>first|exact k.elim|exact⟨_,k,rfl⟩
theorem QH {op:BinOp}{x:AV}{K:AV→Prop}(k:mp op x K):∃ v,K v∧mp op x fun r=>r=v:=by
 unfold mp at *
 split at k<;>first|exact k.elim|exact⟨_,k,rfl⟩
theorem QF {op:BinOp}{x:AV}{K:AV→Prop}(k:mc op x K):∃ v,K v∧mc op x fun r=>r=v:=by
 unfold mc at *
 split at k<;>first|exact k.elim|exact⟨_,k,rfl⟩
theorem Yb {env:Env}{h:ae}{o:Oper}{K:QT}(hn:E6 P o.op=true) (hq:Yf P o.op=true) (k:wy P env h o K):∃ v,K v h∧wy P env h o fun r h'=>r=v∧h'=h:=by
 obtain⟨dst,op,ty,pos,after,guard⟩:=o
 have up:∀ {v:AV} (r:AV),r=v→r=v∧True:=fun r e=>⟨e,trivial⟩
 cases op<;>simp only[wy,Yf,Bool.false_eq_true]at k hq ⊢
 case lookup=>
  obtain⟨a,e1,k⟩:=aH k
  obtain⟨b,e2,k⟩:=aH k
  have k0:=k
  obtain⟨kt,et,d,i,z,q1,q2,q3,q4,q5,k⟩:=F4 k
  obtain⟨v,k1,k2⟩:=Pp k.out
  refine⟨v,k1,aY e1 (aY e2 ?_)⟩
  unfold Dq
  simp only[q1,q2,q3,q4,q5,if_true]
  exact vr up _ _ _ _ _ _ ⟨k2⟩
 case entry x=>
  obtain⟨a,e1,k⟩:=aH k
  obtain⟨v,k1,k2⟩:=SF k.out
  exact⟨v,k1,aY e1 (yr up _ _ ⟨k2⟩)⟩
 case convert s d x=>
  obtain⟨a,e1,k⟩:=aH k
  split at k
  ·split at k
   ·rename_i hb
    obtain⟨v,k1,k2⟩:=I7 k.out
    refine⟨v,k1,aY e1 ?_⟩
    rw[if_pos hb]
    exact rc up _ _ ⟨k2⟩
   ·exact k.elim
  ·rename_i hs _;simp[hs]at hq
  ·exact k.elim
 case binOp op t x y yt=>
  split at k
  ·obtain⟨a,e1,k⟩:=aH k
   obtain⟨b,e2,k⟩:=aH k
   split at k
   ·split at k
    ·rename_i hc
     obtain⟨v,k1,k2⟩:=Zh k.out
     refine⟨v,k1,aY e1 (aY e2 ?_)⟩
     show (if _ then _ else _)
     rw[if_pos hc]
     exact DU up _ _ _ _ ⟨k2⟩
    ·exact k.elim
   ·exact k.elim
  ·obtain⟨a,e1,k⟩:=aH k
   unfold yG at *
   split at k
   ·rename_i ht _;simp[ht]at hq
   ·obtain⟨v,k1,k2⟩:=P9 k.out
    exact⟨v,k1,aY e1 (uZ up _ _ ⟨k2⟩)⟩
   ·obtain⟨v,k1,k2⟩:=QH k.out
    exact⟨v,k1,aY e1 (vu up _ _ ⟨k2⟩)⟩
   ·obtain⟨v,k1,k2⟩:=QF k.out
    exact⟨v,k1,aY e1 (uX up _ _ ⟨k2⟩)⟩
   ·exact k.elim
theorem V8 {env:Env}{h h2:ae}{o:Oper}{R:AV→Prop}(hn:E6 P o.op=true) (hq:Yf P o.op=true) (hh:abN P o.op=false) (k:wy P env h o fun r _=>R r):wy P env h2 o fun r _=>R r:=by
 obtain⟨dst,op,ty,pos,after,guard⟩:=o
 cases op<;>simp only[wy,Yf,abN,Bool.true_eq_false,Bool.false_eq_true]at k hq hh ⊢<;>exact k
theorem Sc {env env':Env}{h:ae}{o:Oper}{K:QT}(he:∀ t∈CA o,get env t=get env' t):wy P env h o K=wy P env' h o K:=by
 have ho:∀ x∈o.op.operands,opv env x=opv env' x:=fun x hx=>DX fun t e=>he t (by
  subst e
  exact List.mem_filterMap.2 ⟨.tmp t,by simpa using hx,rfl⟩)
 clear he
 obtain⟨dst,op,ty,pos,after,guard⟩:=o
 cases op<;>simp only[Op.operands]at ho<;>simp only[wy]
 case makeMap t re=>cases re<;>rfl
 case mapUpdate t m k v=>rw[ho m (by simp),ho k (by simp),ho v (by simp)]
 case insert t m k v=>rw[ho m (by simp),ho k (by simp),ho v (by simp)]
 case entryStore t m k v=>rw[ho m (by simp),ho k (by simp),ho v (by simp)]
 case binOp op t x y yt=>rw[ho x (by simp),ho y (by simp)]
 case call c=>
  split
  ·rw[gu (l:=c.args.toList) fun x hx=>ho x (by simp at hx;simp[Call.operands,hx])]
  ·rfl
 all_goals (first|rfl|(simp only[ho _ (by simp)];done)|(simp_all;done))
theorem W5 {env:Env}{h:ae}{o:Oper}{K:QT}(hq:Yg P o.op=true) (k:wY P env h o K):∃ v,K v h∧wY P env h o fun r h'=>r=v∧h'=h:=by
 unfold wY Yg at *
 by_cases hn:E6 P o.op=true
 ·rw[if_pos hn]at hq k;simp only[if_pos hn];exact Yb hn hq k
 ·rw[if_neg hn]at hq k;simp only[if_neg hn];exact ZI hq k
theorem Wj {env:Env}{h h2:ae}{o:Oper}{R:AV→Prop}(hq:Yg P o.op=true) (hh:abV P o.op=false) (k:wY P env h o fun r _=>R r):wY P env h2 o fun r _=>R r:=by
 unfold wY Yg abV at *
 by_cases hn:E6 P o.op=true
 ·rw[if_pos hn]at hq hh k ⊢;exact V8 hn hq hh k
 ·rw[if_neg hn]at hq hh k ⊢;exact Wf hq hh k
theorem Sl {env env':Env}{h:ae}{o:Oper}{K:QT}(he:∀ t∈CA o,get env t=get env' t):wY P env h o K=wY P env' h o K:=by
 unfold wY
 rw[Sc he,RZ he]
theorem Xy {env:Env}{h:ae}{o:Oper}{K:QT}(hq:Zb o.op=true) (k:xY P env h o K):∃ v,K v h∧xY P env h o fun r h'=>r=v∧h'=h:=by
 obtain⟨dst,op,ty,pos,after,guard⟩:=o
 have up:∀ {v:AV} (r:AV),r=v→r=v∧True:=fun r e=>⟨e,trivial⟩
 cases op<;>simp only[xY]at k ⊢<;>try exact k.elim
 case call c=>
  simp only[Zb]at hq
  split at hq
  ·rename_i f hc
   simp only[hc]at k ⊢
   obtain⟨vs,h1,k⟩:=dI k
   rw[h1]
   simp only[d6]
   split at k
   ·obtain⟨v,k1,k2⟩:=YF k.out
    exact⟨v,k1,⟨DE up k2⟩⟩
   ·exact k.elim
  ·cases hq
 case indexAddr t x i=>
  cases x<;>simp only at k ⊢<;>try exact k.elim
  split at k
  ·obtain⟨iv,h1,k⟩:=aH k
   rw[h1]
   simp only[bW]
   unfold eF at *
   split at k
   ·split at k
    ·obtain⟨v,k1,k2⟩:=ww _ _ _ k
     exact⟨v,k1,iM up _ _ _ k2⟩
    ·exact k.elim
   ·split at k
    ·obtain⟨v,k1,k2⟩:=vW _ _ _ _ k
     exact⟨v,k1,fc up _ _ _ _ k2⟩
    ·exact k.elim
   ·exact k.elim
  ·exact k.elim
 case load t x=>
  cases x<;>simp only at k ⊢<;>try exact k.elim
  split at k
  ·unfold kY at *
   split at k
   ·split at k
    ·rename_i hd
     obtain⟨v,k1,k2⟩:=HZ _ _ _ k
     exact⟨v,k1,by rw[if_pos hd];exact ic up _ _ _ k2⟩
    ·rename_i hd
     obtain⟨v,k1,k2⟩:=F8 _ _ k
     exact⟨v,k1,by rw[if_neg hd];exact ib up _ _ k2⟩
   ·exact k.elim
  ·exact k.elim
theorem Vt {env:Env}{h h2:ae}{o:Oper}{R:AV→Prop}(hq:Zb o.op=true) (k:xY P env h o fun r _=>R r):xY P env h2 o fun r _=>R r:=by
 obtain⟨dst,op,ty,pos,after,guard⟩:=o
 cases op<;>simp only[xY]at k ⊢<;>try exact k.elim
 case call c=>
  simp only[Zb]at hq
  split at hq
  ·rename_i f hc
   simp only[hc]at k ⊢
   exact k
  ·cases hq
 case indexAddr t x i=>
  cases x<;>simp only at k ⊢<;>try exact k.elim
  exact k
 case load t x=>
  cases x<;>simp only at k ⊢<;>try exact k.elim
  split at k
  ·unfold kY at *
   split at k
   ·split at k
    ·rename_i hd;rw[if_pos hd];exact⟨k.out⟩
    ·rename_i hd;rw[if_neg hd];exact⟨k.out⟩
   ·exact k.elim
  ·exact k.elim
theorem QW {env env':Env}{h:ae}{o:Oper}{K:QT}(he:∀ t∈CA o,get env t=get env' t):xY P env h o K=xY P env' h o K:=by
 have ho:∀ x∈o.op.operands,opv env x=opv env' x:=fun x hx=>DX fun t e=>he t (by
  subst e
  exact List.mem_filterMap.2 ⟨.tmp t,by simpa using hx,rfl⟩)
 clear he
 obtain⟨dst,op,ty,pos,after,guard⟩:=o
 cases op<;>simp only[Op.operands]at ho<;>simp only[xY]
 case load t x=>cases x<;>rfl
 case indexAddr t x i=>cases x<;>first|rfl|(simp only[] ;rw[ho i (by simp)])
 case call c=>
  split
  ·rw[gu (l:=c.args.toList) fun x hx=>ho x (by simp at hx;simp[Call.operands,hx])]
  ·rw[gu (l:=c.args.toList) fun x hx=>ho x (by simp at hx;simp[Call.operands,hx])]
  ·rw[gu (l:=c.args.toList) fun x hx=>ho x (by simp at hx;simp[Call.operands,hx])]
  ·rfl
theorem Td {env:Env}{h:ae}{o:Oper}{K:QT}(hq:qOp P o.op=true) (k:aop P env h o K):∃ v,K v h∧aop P env h o fun r h'=>r=v∧h'=h:=by
 unfold aop qOp at *
 by_cases hn:isX P o.op=true
 ·rw[if_pos hn]at hq k;simp only[if_pos hn];exact Xy hq k
 ·rw[if_neg hn]at hq k;simp only[if_neg hn];exact W5 hq k
theorem Yu {env:Env}{h h2:ae}{o:Oper}{R:AV→Prop}(hq:qOp P o.op=true) (hh:hOp P o.op=false) (k:aop P env h o fun r _=>R r):aop P env h2 o fun r _=>R r:=by
 unfold aop qOp hOp at *
 by_cases hn:isX P o.op=true
 ·rw[if_pos hn]at hq k ⊢;exact Vt hq k
 ·rw[if_neg hn]at hq hh k ⊢;exact Wj hq hh k
theorem U2 {env env':Env}{h:ae}{o:Oper}{K:QT}(he:∀ t∈CA o,get env t=get env' t):aop P env h o K=aop P env' h o K:=by
 unfold aop
 rw[QW he,Sl he]
end
end
section
variable [Tabs]
section
variable {P:Program}{n:Nat}
abbrev qM:=List (Nat×(ae→Prop))
def rj:List (Nat×Nat)→Nat→Nat
 | [],_=>0
 | (k,m)::r,i=>if k=i then m else rj r i
def sT (m:Nat):qM→ae→Prop→Prop
 | [],_,k=>k
 | (q,c)::r,h,k=>if m.testBit q=true then sT m r h k else c h∧sT m r h k
def qC (P:Program) (n:Nat) (m:Nat) (i:Nat) (o:Oper) (env:Env) (h:ae) (pend:qM) (K:Env→ae→qM→Prop):Prop:=
 if fG n o.dst=true then
  if qOp P o.op=true then
   aop P env h o fun v h'=>K (putD env o.dst v) h' (if hOp P o.op=true then (i,fun h2=>aop P env h2 o fun r _=>r=v)::pend else pend)
  else aop P env h o fun v h'=>sT m pend h' (K (putD env o.dst v) h' pend)
 else False
def nM (P:Program) (n:Nat) (ops:Array Oper) (ms:List (Nat×Nat)):List Nat→Env→ae→qM→(Env→ae→Prop)→Prop
 | [],env,h,_,K=>K env h
 | i::rest,env,h,pend,K=>match ops[i]? with
   | none=>False
   | some o=>match o.guard with
     | none=>qC P n (rj ms i) i o env h pend fun env' h' pend'=>nM P n ops ms rest env' h' pend' K
     | some (j,want)=>match (ops[j]?).bind (·.dst) with
       | none=>False
       | some s=>bW (get env s) fun v=>
         ifG (VG ops j) v
          (if want=true then qC P n (rj ms i) i o ((s,B true)::env) h pend fun env' h' pend'=>nM P n ops ms rest env' h' pend' K
           else if fG n o.dst=true then nM P n ops ms rest (putD ((s,B true)::env) o.dst (.tup [])) h pend K else False)
          (if want=true then (if fG n o.dst=true then nM P n ops ms rest (putD ((s,B false)::env) o.dst (.tup [])) h pend K else False)
           else qC P n (rj ms i) i o ((s,B false)::env) h pend fun env' h' pend'=>nM P n ops ms rest env' h' pend' K)
          (if fG n o.dst=true then nM P n ops ms rest (putD ((s,.tup [])::env) o.dst (.tup [])) h pend K else False)
def vR (o:Oper):List Nat:=(o.after.toList.filter (Region.binds .any)).map (·.on)
def A4 (ops:Array Oper):List Nat→List (Nat×Nat)→List (Nat×Nat)
 | [],ms=>ms
 | i::r,ms=>A4 ops r ((i,match ops[i]? with|some o=>(vR o).foldl (fun m p=>m ||| 1 <<< p ||| rj ms p) 0|none=>0)::ms)
def Tg (f:Nat→Nat→Bool):List Nat→Bool
 | []=>true
 | i::r=>r.all (f i)&&Tg f r
def M0 (ops:Array Oper):List Nat→List Nat→Bool
 | _,[]=>true
 | seen,i::r=>(match ops[i]? with|some o=>(vR o).all seen.contains|none=>false)&&M0 ops (i::seen) r
def XH (P:Program) (ops:Array Oper) (ms:List (Nat×Nat)) (i j:Nat):Bool:=
 match ops[i]?,ops[j]? with
 | some oi,some oj=>
   (i != j)&&(match oi.dst,oj.dst with|some d,some e=>d != e|_,_=>true)&&
   ((rj ms j).testBit i||(qOp P oi.op&&(match oi.dst with|some d=>!(oj.looksAt ops).contains d|none=>true)&&(match oj.dst with|some d=>!(oi.looksAt ops).contains d|none=>true)))
 | _,_=>false
def uJ (P:Program) (ops:Array Oper) (L:List Nat):Bool:=(List.range ops.size).all L.contains&&M0 ops [] L&&Tg (XH P ops (A4 ops L [])) L
def RP (ops:Array Oper) (D:Nat→Bool):Prop:=∀ i o,ops[i]?=some o→D i=true→∀ p∈vR o,D p=true
def Jw (ops:Array Oper) (j i:Nat):Prop:=∀ D,RP ops D→(∀ o,ops[i]?=some o→∀ p∈vR o,D p=true)→D j=true
theorem Bt {ms:List (Nat×Nat)}{j:Nat}:∀ (l:List Nat) (m:Nat),(l.foldl (fun m p=>m ||| 1 <<< p ||| rj ms p) m).testBit j=true→m.testBit j=true∨∃ p∈l,p=j∨(rj ms p).testBit j=true
 | [],m,h=>.inl h
 | p::l,m,h=>by
   rcases Bt l _ h with h|⟨q,hq,h⟩
   ·simp only[Nat.testBit_or,Bool.or_eq_true]at h
    rcases h with (h|h)|h
    ·exact .inl h
    ·refine .inr ⟨p,by simp,.inl ?_⟩
     rw[Nat.one_shiftLeft,Nat.testBit_two_pow]at h
     simpa using h
    ·exact .inr ⟨p,by simp,.inr h⟩
   ·exact .inr ⟨q,by simp[hq],h⟩
theorem wU {ops:Array Oper}:∀ (L:List Nat) (ms:List (Nat×Nat)),(∀ i j,(rj ms i).testBit j=true→Jw ops j i)→∀ i j,(rj (A4 ops L ms) i).testBit j=true→Jw ops j i
 | [],ms,h=>h
 | k::L,ms,h=>by
   refine wU L _ fun i j hb=>?_
   simp only[rj]at hb
   split at hb
   ·rename_i hk
    subst hk
    split at hb
    ·rename_i o ho
     rcases Bt _ _ hb with hb|⟨p,hp,hb⟩
     ·simp at hb
     ·intro D hc hD
      have hp1:=hD o ho p hp
      rcases hb with rfl|hb
      ·exact hp1
      ·exact h p j hb D hc fun o2 ho2=>hc p o2 ho2 hp1
    ·simp at hb
   ·exact h i j hb
theorem EW {ops:Array Oper}:∀ {L seen:List Nat},M0 ops seen L=true→∀ {A B:List Nat}{i:Nat},L=A++i::B→∃ o,ops[i]?=some o∧∀ p∈vR o,p∈seen∨p∈A
 | [],seen,h,A,B,i,e=>by simp at e
 | k::L,seen,h,A,B,i,e=>by
   simp only[M0,Bool.and_eq_true]at h
   cases A with
   | nil=>
     simp only[List.nil_append,List.cons.injEq]at e
     obtain⟨rfl,rfl⟩:=e
     have h1:=h.1
     split at h1
     ·rename_i o ho
      exact⟨o,ho,fun p hp=>.inl (by simpa using List.all_eq_true.1 h1 p hp)⟩
     ·cases h1
   | cons a A=>
     simp only[List.cons_append,List.cons.injEq]at e
     obtain⟨rfl,rfl⟩:=e
     obtain⟨o,ho,hp⟩:=EW h.2 rfl
     refine⟨o,ho,fun p hp'=>?_⟩
     rcases hp p hp' with h|h
     ·simp only[List.mem_cons]at h
      rcases h with rfl|h
      ·exact .inr (by simp)
      ·exact .inl h
     ·exact .inr (by simp[h])
theorem Ib {f:Nat→Nat→Bool}:∀ {L:List Nat},Tg f L=true→∀ {A B:List Nat},L=A++B→∀ i∈A,∀ j∈B,f i j=true
 | [],h,A,B,e,i,hi,j,hj=>by
   have:A=[]∧B=[]:=by simpa using e.symm
   rw[this.1]at hi;cases hi
 | k::L,h,A,B,e,i,hi,j,hj=>by
   simp only[Tg,Bool.and_eq_true]at h
   cases A with
   | nil=>cases hi
   | cons a A=>
     simp only[List.cons_append,List.cons.injEq]at e
     obtain⟨rfl,rfl⟩:=e
     rcases List.mem_cons.1 hi with rfl|hi
     ·exact List.all_eq_true.1 h.1 j (by simp[hj])
     ·exact Ib h.2 rfl i hi j hj
structure Canon (P:Program) (ops:Array Oper) (L:List Nat):Prop where
 all:∀ i o,ops[i]?=some o→i∈L
 order:∀ {A B:List Nat} {i:Nat},L=A++i::B→∃ o,ops[i]?=some o∧∀ p∈vR o,p∈A
 pair:∀ {A B:List Nat},L=A++B→∀ i∈A,∀ j∈B,∀ oi oj,ops[i]?=some oi→ops[j]?=some oj→i≠j∧(∀ d,oi.dst=some d→oj.dst≠some d)∧
  (Jw ops i j∨(qOp P oi.op=true∧(∀ d,oi.dst=some d→d∉oj.looksAt ops)∧(∀ d,oj.dst=some d→d∉oi.looksAt ops)))
theorem WQ {ops:Array Oper}{L:List Nat}(h:uJ P ops L=true):Canon P ops L:=by
 simp only[uJ,Bool.and_eq_true]at h
 obtain⟨⟨h1,h2⟩,h3⟩:=h
 refine⟨fun i o ho=>?_,fun e=>?_,fun {A B} e i hi j hj oi oj hoi hoj=>?_⟩
 ·have:=List.all_eq_true.1 h1 i (List.mem_range.2 (Array.getElem?_eq_some_iff.1 ho).1)
  simpa using this
 ·obtain⟨o,ho,hp⟩:=EW h2 e
  exact⟨o,ho,fun p hp'=>(hp p hp').resolve_left (by simp)⟩
 ·have:=Ib h3 e i hi j hj
  simp only[XH,hoi,hoj,Bool.and_eq_true,bne_iff_ne,ne_eq,Bool.or_eq_true]at this
  obtain⟨⟨q1,q2⟩,q3⟩:=this
  refine⟨q1,fun d hd he=>?_,?_⟩
  ·simp[hd,he]at q2
  ·rcases q3 with q3|⟨⟨q3,q4⟩,q5⟩
   ·exact .inl (wU L [] (fun i j hb=>by simp[rj]at hb) _ _ q3)
   ·refine .inr ⟨q3,fun d hd=>?_,fun d hd=>?_⟩
    ·simpa [hd] using q4
    ·simpa [hd] using q5
section
variable {ops:Array Oper}{L:List Nat}(hc:Canon P ops L)
include hc
theorem Canon.closed {C rest:List Nat}(e:L=C++rest):RP ops C.contains:=by
 intro i o ho hi p hp
 simp only[List.contains_eq_mem,decide_eq_true_eq]at hi ⊢
 obtain⟨A,B,rfl⟩:=List.append_of_mem hi
 obtain⟨o',ho',h⟩:=hc.order (A:=A) (i:=i) (B:=B++rest) (by rw[e];simp)
 rw[ho]at ho';cases ho'
 simp[h p hp]
theorem Canon.must {A B:List Nat}{i j:Nat}(e:L=A++i::B) (m:Jw ops j i):j∈A:=by
 have:=m A.contains (hc.closed e) fun o ho p hp=>by
  obtain⟨o',ho',h⟩:=hc.order e
  rw[ho]at ho';cases ho'
  simpa using h p hp
 simpa using this
theorem Canon.notMem {A B:List Nat}{i:Nat}(e:L=A++i::B):i∉A:=fun hi=>by
 obtain⟨o,ho,_⟩:=hc.order e
 exact (hc.pair e i hi i (by simp) o o ho ho).1 rfl
theorem Canon.uniq {i j:Nat}{oi oj:Oper}{d:Nat}(hi:ops[i]?=some oi) (hj:ops[j]?=some oj) (di:oi.dst=some d) (dj:oj.dst=some d):i=j:=by
 obtain⟨A,B,e⟩:=List.append_of_mem (hc.all i oi hi)
 have hm:=hc.all j oj hj
 rw[e]at hm
 simp only[List.mem_append,List.mem_cons]at hm
 rcases hm with hm|rfl|hm
 ·exact ((hc.pair e j hm i (by simp) oj oi hj hi).2.1 d dj di).elim
 ·rfl
 ·exact ((hc.pair (A:=A++[i]) (B:=B) (by rw[e];simp) i (by simp) j hm oi oj hi hj).2.1 d di dj).elim
theorem Canon.cmp {i j:Nat}{oi oj:Oper}{d:Nat}(hi:ops[i]?=some oi) (hj:ops[j]?=some oj) (di:oi.dst=some d) (lj:d∈oj.looksAt ops):i=j∨Jw ops i j∨Jw ops j i:=by
 obtain⟨A,B,e⟩:=List.append_of_mem (hc.all j oj hj)
 have hm:=hc.all i oi hi
 rw[e]at hm
 simp only[List.mem_append,List.mem_cons]at hm
 rcases hm with hm|rfl|hm
 ·rcases (hc.pair e i hm j (by simp) oi oj hi hj).2.2 with h|h
  ·exact .inr (.inl h)
  ·exact (h.2.1 d di lj).elim
 ·exact .inl rfl
 ·rcases (hc.pair (A:=A++[j]) (B:=B) (by rw[e];simp) j (by simp) i hm oj oi hj hi).2.2 with h|h
  ·exact .inr (.inr h)
  ·exact (h.2.2 d di lj).elim
theorem Canon.self {i:Nat}{o:Oper}(hi:ops[i]?=some o):¬ Jw ops i i:=fun m=>by
 obtain⟨A,B,e⟩:=List.append_of_mem (hc.all i o hi)
 exact hc.notMem e (hc.must e m)
end
def tL (env:Env):List Nat→Env
 | []=>[]
 | s::l=>match get env s with|some v=>(s,v)::tL env l|none=>tL env l
theorem qx {env:Env}:∀ {l:List Nat}{s:Nat},s∈l→get (tL env l) s=get env s
 | k::l,s,h=>by
   simp only[tL]
   split
   ·rename_i v hv
    simp only[get]
    split
    ·rename_i hk;subst hk;exact hv.symm
    ·rename_i hk;exact qx ((List.mem_cons.1 h).resolve_left (Ne.symm hk))
   ·rename_i hv
    rcases List.mem_cons.1 h with rfl|h
    ·by_cases hm:s∈l
     ·exact qx hm
     ·rw[hv]
      have:∀ l:List Nat,s∉l→get (tL env l) s=none:=fun l=>by
       induction l with
       | nil=>intro _;rfl
       | cons k l ih=>
         intro hs
         simp only[List.mem_cons,not_or]at hs
         simp only[tL]
         split
         ·simp only[get,if_neg (Ne.symm hs.1)];exact ih hs.2
         ·exact ih hs.2
      exact this l hm
    ·exact qx h
theorem tF {env:Env}:∀ {l:List Nat}{s:Nat}{v:AV},get (tL env l) s=some v→s∈l
 | [],s,v,h=>by simp[tL,get]at h
 | k::l,s,v,h=>by
   simp only[tL]at h
   split at h
   ·simp only[get]at h
    split at h
    ·rename_i hk;simp[hk]
    ·exact List.mem_cons_of_mem _ (tF h)
   ·exact List.mem_cons_of_mem _ (tF h)
end
end
section
variable [Tabs]
section
variable {P:Program}{n:Nat}{ops:Array Oper}{L:List Nat}
structure Inv (ops:Array Oper) (L:List Nat) (D:Nat→Bool) (C rest:List Nat) (fj env:Env) (G:Gh) (tmps:Array Value):Prop where
 split:L=C++rest
 closed:RP ops D
 sub:∀ i,D i=true→i∈C
 same:∀ s,(∀ i o,i∈C→ops[i]?=some o→o.dst≠some s)→get env s=get fj s
 old:∀ s v,(∃ i o,ops[i]?=some o∧o.dst=some s∧D i=false)→get fj s=some v→∃ x,tmps[s]?=some x∧Rep G v x
 new:∀ s v,(∀ i o,ops[i]?=some o→o.dst=some s→D i=true)→get env s=some v→∃ x,tmps[s]?=some x∧Rep G v x
structure ab3 (ops:Array Oper) (i:Nat) (o:Oper) (fj env envq:Env):Prop where
 r1:∀ s∈o.looksAt ops,(∃ (i0:Nat) (o0:Oper),ops[i0]?=some o0∧o0.dst=some s∧Jw ops i0 i)→get envq s=get env s
 r2:∀ s∈o.looksAt ops,(¬ ∃ (i0:Nat) (o0:Oper),ops[i0]?=some o0∧o0.dst=some s∧Jw ops i0 i)→get envq s=get fj s
def jc (ops:Array Oper) (o:Oper) (envq:Env) (b:Bool):Prop:=
 match o.guard with
 | none=>b=true
 | some (j,want)=>∃ sl,(ops[j]?).bind (·.dst)=some sl∧(get envq sl=some (B (b==want))∨(b=false∧get envq sl=some (.tup [])))
structure Known (P:Program) (n:Nat) (ops:Array Oper) (i:Nat) (o:Oper) (fj env:Env) (h:ae) (pend:qM):Prop where
 mk::(out:fG n o.dst=true∧∃ envq v,ab3 ops i o fj env envq∧(∀ d,o.dst=some d→get env d=some v)∧
  ((jc ops o envq false∧v=.tup [])∨
   (jc ops o envq true∧qOp P o.op=true∧(aop P envq h o fun r h'=>r=v∧h'=h)∧(hOp P o.op=true→(i,fun h2=>aop P envq h2 o fun r _=>r=v)∈pend))))
variable {D:Nat→Bool}{C rest:List Nat}{fj env:Env}{G:Gh}{tmps:Array Value}(hc:Canon P ops L)
include hc
theorem Inv.reads (I:Inv ops L D C rest fj env G tmps) {i:Nat}{o:Oper}(hi:ops[i]?=some o) (hD:D i=false) (hp:∀ p∈vR o,D p=true) {envq:Env}(se:ab3 ops i o fj env envq):
  EnvRep G (tL envq (o.looksAt ops)) tmps:=by
 intro s v e
 have hs:=tF e
 rw[qx hs]at e
 have hpr:∀ o',ops[i]?=some o'→∀ p∈vR o',D p=true:=fun o' ho'=>by rw[hi]at ho';cases ho';exact hp
 by_cases hw:∃ (i0:Nat) (o0:Oper),ops[i0]?=some o0∧o0.dst=some s∧Jw ops i0 i
 ·have hw':=hw
  obtain⟨i0,o0,h1,h2,h3⟩:=hw'
  refine I.new s v (fun i1 o1 h4 h5=>?_) (by rw[← se.r1 s hs hw];exact e)
  have:=hc.uniq h1 h4 h2 h5
  subst this
  exact h3 D I.closed hpr
 ·rw[se.r2 s hs hw]at e
  by_cases hex:∃ (i0:Nat) (o0:Oper),ops[i0]?=some o0∧o0.dst=some s
  ·obtain⟨i0,o0,h1,h2⟩:=hex
   refine I.old s v ⟨i0,o0,h1,h2,?_⟩ e
   rcases hc.cmp h1 hi h2 hs with rfl|h|h
   ·exact hD
   ·exact (hw ⟨i0,o0,h1,h2,h⟩).elim
   ·cases hd:D i0 with
    | false=>rfl
    | true=>
      have:=h D I.closed fun o' ho' p hp'=>I.closed i0 o' ho' hd p hp'
      rw[hD]at this;cases this
  ·refine I.new s v (fun i1 o1 h4 h5=>(hex ⟨i1,o1,h4,h5⟩).elim) ?_
   rw[I.same s fun i1 o1 _ h4 h5=>hex ⟨i1,o1,h4,h5⟩]
   exact e
theorem Inv.sees (I:Inv ops L D C rest fj env G tmps) {i:Nat}{post:List Nat}(hr:rest=i::post) {o:Oper}(hi:ops[i]?=some o) {env1:Env}(he:∀ s,get env1 s=get env s):ab3 ops i o fj env env1 where
 r1:=fun s _ _=>he s
 r2:=fun s hs hw=>by
  rw[he,I.same s fun i1 o1 hm h4 h5=>?_]
  have e:L=C++i::post:=by rw[I.split,hr]
  rcases hc.cmp h4 hi h5 hs with rfl|h|h
  ·exact hc.notMem e hm
  ·exact hw ⟨i1,o1,h4,h5,h⟩
  ·obtain⟨A,B,rfl⟩:=List.append_of_mem hm
   have h1:=hc.must (A:=A) (i:=i1) (B:=B++i::post) (by rw[e];simp) h
   have:=hc.notMem e
   simp[h1]at this
theorem Inv.get_put (I:Inv ops L D C rest fj env G tmps) {i:Nat}{post:List Nat}(hr:rest=i::post) {o:Oper}(hi:ops[i]?=some o) {env1:Env}(he:∀ s,get env1 s=get env s) {v:AV}{s:Nat}(hs:o.dst≠some s):
  get (putD env1 o.dst v) s=get env s:=by
 rw[← he s]
 cases hd:o.dst with
 | none=>rfl
 | some d=>rw[hd]at hs;simp only[putD,get,if_neg (fun e=>hs (congrArg some e))]
theorem Inv.grow (I:Inv ops L D C rest fj env G tmps) {i:Nat}{post:List Nat}(hr:rest=i::post) {o:Oper}(hi:ops[i]?=some o) {env1:Env}(he:∀ s,get env1 s=get env s) {v:AV}:
  Inv ops L D (C++[i]) post fj (putD env1 o.dst v) G tmps where
 split:=by rw[I.split,hr];simp
 closed:=I.closed
 sub:=fun j hj=>by simp[I.sub j hj]
 same:=fun s hs=>by
  rw[I.get_put hc hr hi he (hs i o (by simp) hi)]
  exact I.same s fun j oj hj=>hs j oj (by simp[hj])
 old:=I.old
 new:=fun s u hs e=>by
  rw[I.get_put hc hr hi he ?_]at e
  ·exact I.new s u hs e
  ·intro hd
   have:=I.sub i (hs i o hi hd)
   exact hc.notMem (by rw[I.split,hr]) this
omit hc in
theorem Inv.mono (I:Inv ops L D C rest fj env G tmps) {G':Gh}(le:G.le G'):Inv ops L D C rest fj env G' tmps where
 split:=I.split
 closed:=I.closed
 sub:=I.sub
 same:=I.same
 old:=fun s v h e=>let ⟨x,h1,h2⟩:=I.old s v h e;⟨x,h1,Rep.mono le _ _ h2⟩
 new:=fun s v h e=>let ⟨x,h1,h2⟩:=I.new s v h e;⟨x,h1,Rep.mono le _ _ h2⟩
theorem Inv.done (I:Inv ops L D C rest fj env G tmps) {i:Nat}{o:Oper}(hi:ops[i]?=some o) (hm:i∈C) (hp:∀ p∈vR o,D p=true) {D':Nat→Bool}(hD':∀ k,D' k=true↔k=i∨D k=true) {a:Act}(ha:a.tmps=tmps) (hd:fG a.tmps.size o.dst=true)
  {v:AV} (hv:∀ d,o.dst=some d→get env d=some v) {x:Value} (hx:Rep G v x):Inv ops L D' C rest fj env G (a.put o.dst x).tmps:=by
 have keep:∀ s,o.dst≠some s→(a.put o.dst x).tmps[s]?=tmps[s]?:=fun s hs=>by
  rw[← ha]
  cases hdd:o.dst with
  | none=>rfl
  | some d=>rw[hdd]at hs;simp only[Act.put];rw[Array.getElem?_setIfInBounds_ne (fun e=>hs (congrArg some e))]
 refine⟨I.split,?_,?_,I.same,?_,?_⟩
 ·intro k ok hk hDk p hpm
  rcases (hD' k).1 hDk with rfl|hDk
  ·rw[hi]at hk;cases hk
   exact (hD' p).2 (.inr (hp p hpm))
  ·exact (hD' p).2 (.inr (I.closed k ok hk hDk p hpm))
 ·intro k hk
  rcases (hD' k).1 hk with rfl|hk
  ·exact hm
  ·exact I.sub k hk
 ·rintro s u ⟨k,ok,h1,h2,h3⟩ e
  have hne:k≠i∧D k=false:=by
   constructor
   ·rintro rfl
    have:=(hD' k).2 (.inl rfl)
    rw[h3]at this;cases this
   ·cases hDk:D k with
    | false=>rfl
    | true=>have:=(hD' k).2 (.inr hDk);rw[h3]at this;cases this
  rw[keep s fun hds=>hne.1 (hc.uniq h1 hi h2 hds)]
  exact I.old s u ⟨k,ok,h1,h2,hne.2⟩ e
 ·intro s u hs e
  by_cases hds:o.dst=some s
  ·rw[hv s hds]at e
   cases e
   refine⟨x,?_,hx⟩
   rw[hds]
   rw[hds]at hd
   simp only[fG,decide_eq_true_eq]at hd
   simp[Act.put,hd]
  ·rw[keep s hds]
   refine I.new s u (fun k ok h1 h2=>?_) e
   rcases (hD' k).1 (hs k ok h1 h2) with rfl|h
   ·rw[hi]at h1;cases h1;exact (hds h2).elim
   ·exact h
theorem Known.grow (I:Inv ops L D C rest fj env G tmps) {i:Nat}{post:List Nat}(hr:rest=i::post) {o:Oper}(hi:ops[i]?=some o) {env1:Env}(he:∀ s,get env1 s=get env s) {v:AV}{q:Nat}{oq:Oper}(hq:ops[q]?=some oq) (hm:q∈C)
  {h:ae} {pend pend':qM} (hpe:∀ p∈pend,p∈pend') (k:Known P n ops q oq fj env h pend):Known P n ops q oq fj (putD env1 o.dst v) h pend':=by
 obtain⟨hd,envq,vq,se,hv,hk⟩:=k.out
 have e:L=C++i::post:=by rw[I.split,hr]
 refine⟨hd,envq,vq,⟨fun s hs hw=>?_,se.r2⟩,fun d hdd=>?_,?_⟩
 ·rw[se.r1 s hs hw,I.get_put hc hr hi he]
  obtain⟨i0,o0,h1,h2,h3⟩:=hw
  intro hds
  have:=hc.uniq h1 hi h2 hds
  subst this
  obtain⟨A,B,rfl⟩:=List.append_of_mem hm
  have hA:=hc.must (A:=A) (i:=q) (B:=B++i0::post) (by rw[e];simp) h3
  have:=hc.notMem e
  simp[hA]at this
 ·rw[I.get_put hc hr hi he,hv d hdd]
  intro hds
  have:=hc.uniq hq hi hdd hds
  subst this
  exact hc.notMem e hm
 ·exact hk.imp id fun ⟨h1,h2,h3,h4⟩=>⟨h1,h2,h3,fun hh=>hpe _ (h4 hh)⟩
omit hc in
theorem AX {m:Nat}{h:ae}{k:Prop}:∀ {pend:qM},sT m pend h k→k∧∀ p∈pend,m.testBit p.1=false→p.2 h
 | [],hk=>⟨hk,fun p hp=>by cases hp⟩
 | (q,c)::r,hk=>by
   simp only[sT]at hk
   split at hk
   ·rename_i hb
    obtain⟨h1,h2⟩:=AX hk
    refine⟨h1,fun p hp hb'=>?_⟩
    rcases List.mem_cons.1 hp with rfl|hp
    ·rw[hb]at hb';cases hb'
    ·exact h2 p hp hb'
   ·obtain⟨hc',hk⟩:=hk
    obtain⟨h1,h2⟩:=AX hk
    refine⟨h1,fun p hp hb'=>?_⟩
    rcases List.mem_cons.1 hp with rfl|hp
    ·exact hc'
    ·exact h2 p hp hb'
omit hc in
theorem oh {o:Oper}{envq:Env}{b:Bool}{a:Act}(r:EnvRep G (tL envq (o.looksAt ops)) a.tmps) (hg:jc ops o envq b):Region.wanted o (yielded ops a.tmps)=b:=by
 unfold jc at hg
 split at hg
 ·rename_i h0
  subst hg
  simp[Region.wanted,h0]
 ·rename_i j want h0
  obtain⟨sl,h1,h2⟩:=hg
  have hs:sl∈o.looksAt ops:=by simp[Oper.looksAt,h0,h1]
  rw[← qx hs]at h2
  rcases h2 with h2|⟨rfl,h2⟩
  ·rw[vt h0 h1 r h2]
   cases b<;>cases want<;>rfl
  ·exact BH h0 h1 r h2
end
end
section
variable [Tabs]
section
variable {P:Program}{n:Nat}{ops:Array Oper}{L:List Nat}{ms:List (Nat×Nat)}
theorem Li {p:Nat}{r:List Nat}{env:Env}{h:ae}{pend:qM}{K:Env→ae→Prop}(k:nM P n ops ms (p::r) env h pend K):
  ∃ o env1,ops[p]?=some o∧(∀ s,get env1 s=get env s)∧
    ((jc ops o env1 true∧qC P n (rj ms p) p o env1 h pend fun env' h' pend'=>nM P n ops ms r env' h' pend' K)∨
     (jc ops o env1 false∧fG n o.dst=true∧nM P n ops ms r (putD env1 o.dst (.tup [])) h pend K)):=by
 unfold nM at k
 split at k
 ·exact k.elim
 ·rename_i o ho
  split at k
  ·rename_i hg
   exact⟨o,env,ho,fun _=>rfl,.inl ⟨by simp[jc,hg],k⟩⟩
  ·rename_i j want hg
   split at k
   ·exact k.elim
   ·rename_i s hs
    obtain⟨v,hv,k⟩:=aH k
    have same:∀ {u:AV},v=u→∀ t,get ((s,u)::env) t=get env t:=fun e t=>by
     simp only[get];split
     ·rename_i h;subst h;rw[hv,e]
     ·rfl
    replace k:=J0 k
    rcases k with ⟨e,k⟩|⟨e,k⟩|⟨e,k⟩
    ·refine⟨o,(s,B true)::env,ho,same e,?_⟩
     cases want
     ·simp only[Bool.false_eq_true,if_false]at k
      split at k
      ·exact .inr ⟨by simp only[jc,hg];exact⟨s,hs,.inl (by simp[get])⟩,‹_›,k⟩
      ·exact k.elim
     ·simp only[if_true]at k
      exact .inl ⟨by simp only[jc,hg];exact⟨s,hs,.inl (by simp[get])⟩,k⟩
    ·refine⟨o,(s,B false)::env,ho,same e,?_⟩
     cases want
     ·simp only[Bool.false_eq_true,if_false]at k
      exact .inl ⟨by simp only[jc,hg];exact⟨s,hs,.inl (by simp[get])⟩,k⟩
     ·simp only[if_true]at k
      split at k
      ·exact .inr ⟨by simp only[jc,hg];exact⟨s,hs,.inl (by simp[get])⟩,‹_›,k⟩
      ·exact k.elim
    ·refine⟨o,(s,.tup [])::env,ho,same e,?_⟩
     split at k
     ·exact .inr ⟨by simp only[jc,hg];exact⟨s,hs,.inr ⟨by simp,by simp[get]⟩⟩,‹_›,k⟩
     ·exact k.elim
variable {D:Nat→Bool}{fj:Env}{G:Gh}{tmps:Array Value}{h:ae}{K:Env→ae→Prop}(hc:Canon P ops L)
include hc
theorem tt {env:Env}{d:Nat}{o:Option Tmp}(h:o=some d) (v:AV):get (putD env o v) d=some v:=by subst h;simp[putD,get]
theorem Un {i:Nat}{oi:Oper}(hi:ops[i]?=some oi) (hD:D i=false) (hp:∀ p∈vR oi,D p=true):∀ (rest C:List Nat) (env:Env) (pend:qM),Inv ops L D C rest fj env G tmps→nM P n ops ms rest env h pend K→
  (∀ q∈C,D q=false→∀ oq,ops[q]?=some oq→Known P n ops q oq fj env h pend)→
  ∃ C' rest' env' pend',Inv ops L D C' rest' fj env' G tmps∧nM P n ops ms rest' env' h pend' K∧(∀ q∈C',D q=false→∀ oq,ops[q]?=some oq→Known P n ops q oq fj env' h pend')∧(i∈C'∨∃ post,rest'=i::post∧qOp P oi.op=false)
 | [],C,env,pend,I,k,kn=>by
   refine⟨C,[],env,pend,I,k,kn,.inl ?_⟩
   have:=hc.all i oi hi
   rw[I.split]at this
   simpa using this
 | p::r,C,env,pend,I,k,kn=>by
   by_cases hm:i∈C
   ·exact⟨C,p::r,env,pend,I,k,kn,.inl hm⟩
   have k0:=k
   obtain⟨o,env1,ho,hsame,k⟩:=Li k
   by_cases hq:qOp P o.op=true
   ·-- one that changes nothing
    have fin:∀ (v:AV) (pend':qM),(∀ x∈pend,x∈pend')→fG n o.dst=true→nM P n ops ms r (putD env1 o.dst v) h pend' K→
      ((jc ops o env1 false∧v=.tup [])∨(jc ops o env1 true∧qOp P o.op=true∧(aop P env1 h o fun r h'=>r=v∧h'=h)∧(hOp P o.op=true→(p,fun h2=>aop P env1 h2 o fun r _=>r=v)∈pend')))→
      ∃ C' rest' env' pend',Inv ops L D C' rest' fj env' G tmps∧nM P n ops ms rest' env' h pend' K∧(∀ q∈C',D q=false→∀ oq,ops[q]?=some oq→Known P n ops q oq fj env' h pend')∧(i∈C'∨∃ post,rest'=i::post∧qOp P oi.op=false):=by
     intro v pend' hpe hd k hk
     refine Un hi hD hp r (C++[p]) (putD env1 o.dst v) pend' (I.grow hc rfl ho hsame) k fun q hqm hqD oq hoq=>?_
     rcases List.mem_append.1 hqm with hqm|hqm
     ·exact (kn q hqm hqD oq hoq).grow hc I rfl ho hsame hoq hqm hpe
     ·have:q=p:=by simpa using hqm
      subst this
      rw[ho]at hoq;cases hoq
      have se:=I.sees hc rfl ho hsame
      have e:L=C++q::r:=I.split
      refine⟨hd,env1,v,⟨fun s hs hw=>?_,se.r2⟩,fun d hdd=>tt hc hdd v,hk⟩
      rw[I.get_put hc rfl ho hsame,hsame]
      intro hds
      obtain⟨i0,o0,h1,h2,h3⟩:=hw
      have:=hc.uniq h1 ho h2 hds
      subst this
      exact hc.self ho h3
    rcases k with ⟨hg,k⟩|⟨hg,hd,k⟩
    ·unfold qC at k
     by_cases hd:fG n o.dst=true
     ·rw[if_pos hd,if_pos hq]at k
      obtain⟨v,k1,k2⟩:=Td hq k
      refine fin v _ (fun x hx=>?_) hd k1 (.inr ⟨hg,hq,k2,fun hh=>?_⟩)
      ·split
       ·exact List.mem_cons_of_mem _ hx
       ·exact hx
      ·rw[if_pos hh];simp
     ·rw[if_neg hd]at k;exact k.elim
    ·exact fin (.tup []) pend (fun _ h=>h) hd k (.inl ⟨hg,rfl⟩)
   ·by_cases hpi:p=i
    ·subst hpi
     rw[hi]at ho;cases ho
     exact⟨C,p::r,env,pend,I,k0,kn,.inr ⟨r,rfl,by simpa using hq⟩⟩
    ·exfalso
     have hir:i∈r:=by
      have:=hc.all i oi hi
      rw[I.split]at this
      simp only[List.mem_append,List.mem_cons]at this
      rcases this with h|h|h
      ·exact (hm h).elim
      ·exact (hpi h.symm).elim
      ·exact h
     rcases (hc.pair (A:=C++[p]) (B:=r) (by rw[I.split];simp) p (by simp) i hir o oi ho hi).2.2 with h|h
     ·have:=h D I.closed fun o' ho' p' hp'=>by rw[hi]at ho';cases ho';exact hp p' hp'
      exact hc.notMem I.split (I.sub p this)
     ·exact hq h.1
theorem T0 {Q:Exit→Act→World→Prop}{next:Act→World→Prop}{o:Oper}{envq:Env}{a:Act}{w:World}{K':QT}(s:Sim G h w) (r:EnvRep G (tL envq (o.looksAt ops)) a.tmps) (k:aop P envq h o K')
  (hnext:∀ v x h' G' w',Rep G' v x→K' v h'→Sim G' h' w'→Evo G h w G' h' w'→next (a.put o.dst x) w'):o.wp P a w next Q:=by
 have k':aop P (tL envq (o.looksAt ops)) h o K':=by
  rw[U2 (env':=envq)]
  ·exact k
  ·intro t ht
   exact qx (List.mem_append_left _ ht)
 unfold Oper.wp
 refine EB ?_
 have:=Y0 s r k'
 unfold UpV at this ⊢
 split at this
 ·obtain⟨v,h',G',q1,q2,q3,q4⟩:=this;exact hnext _ _ _ _ _ q1 q2 q3 q4
 ·obtain⟨v,h',G',q1,q2,q3,q4⟩:=this;exact hnext _ _ _ _ _ q1 q2 q3 q4
 ·exact Calls.mono this fun e w'' ⟨x,he,hv⟩=>⟨x,he,by obtain⟨v,h',G',q1,q2,q3,q4⟩:=hv;exact hnext _ _ _ _ _ q1 q2 q3 q4⟩
 ·exact this.elim
omit hc in
theorem Oa {p:Nat→Prop}:∀ {L:List Nat},(∃ x∈L,p x)→∃ A i B,L=A++i::B∧p i∧∀ x∈A,¬ p x
 | [],h=>by obtain⟨x,hx,_⟩:=h;cases hx
 | y::L,h=>by
   by_cases hy:p y
   ·exact⟨[],y,L,rfl,hy,fun x hx=>by cases hx⟩
   ·obtain⟨x,hx,hpx⟩:=h
    rcases List.mem_cons.1 hx with rfl|hx
    ·exact (hy hpx).elim
    ·obtain⟨A,i,B,rfl,h1,h2⟩:=Oa ⟨x,hx,hpx⟩
     refine⟨y::A,i,B,rfl,h1,fun x hx=>?_⟩
     rcases List.mem_cons.1 hx with rfl|hx
     ·exact hy
     ·exact h2 x hx
theorem T5 {C rest:List Nat}{env:Env}{pend:qM}(I:Inv ops L D C rest fj env G tmps) (hall:∀ i o,ops[i]?=some o→D i=true) (k:nM P n ops ms rest env h pend K):K env h∧EnvRep G env tmps:=by
 refine⟨?_,fun s v e=>I.new s v (fun i o hi _=>hall i o hi) e⟩
 cases rest with
 | nil=>exact k
 | cons p r=>
   exfalso
   obtain⟨o,ho,_⟩:=hc.order I.split
   exact hc.notMem I.split (I.sub p (hall p o ho))
theorem YO (hms:ms=A4 ops L []) {h0:ae}{G0:Gh}{w0:World}{Df:List Deferred}{Q:Exit→Act→World→Prop}(hq:∀ a' w',LL G0 h0 w0 n Df K a' w'→Q .normal a' w'):
  ∀ (fuel:Nat) (listed:Array Bool) (a:Act) (w:World) (G:Gh) (h:ae) (C rest:List Nat) (env:Env) (pend:qM) (U:List Nat),listed.size=ops.size→
    Inv ops L (fun k=>listed.getD k false) C rest fj env G a.tmps→(∀ q∈C,listed.getD q false=false→∀ oq,ops[q]?=some oq→Known P n ops q oq fj env h pend)→Sim G h w→a.tmps.size=n→a.defers=Df→Evo G0 h0 w0 G h w→
    nM P n ops ms rest env h pend K→U.length≤fuel→(∀ i,i<ops.size→listed.getD i false=false→i∈U)→wpAny P .any ops Q fuel listed a w:=by
 intro fuel
 induction fuel with
 | zero=>
   intro listed a w G h C rest env pend U hsz I kn s hn hdf ev k hU hUm
   have hU0:U=[]:=by simpa using hU
   subst hU0
   have hall:∀ i o,ops[i]?=some o→listed.getD i false=true:=fun i o ho=>by
    cases hd:listed.getD i false with
    | true=>rfl
    | false=>have:=hUm i (Array.getElem?_eq_some_iff.1 ho).1 hd;cases this
   obtain⟨k1,k2⟩:=T5 hc I hall k
   refine⟨?_,hq a w ⟨env,h,G,k1,s,ev,k2,hn,hdf⟩⟩
   apply List.eq_nil_iff_forall_not_mem.2
   intro i hi
   obtain⟨hi0,o,ho,_⟩:=mem_ready.1 hi
   have h1:=hall i o ho
   have hlt:i<listed.size:=by rw[hsz];exact (Array.getElem?_eq_some_iff.1 ho).1
   simp[hlt]at hi0 h1
   rw[hi0]at h1;cases h1
 | succ fuel ih=>
   intro listed a w G h C rest env pend U hsz I kn s hn hdf ev k hU hUm
   refine⟨fun hr=>?_,fun i hir=>?_⟩
   ·-- nothing is ready: all is done
    have hall:∀ i o,ops[i]?=some o→listed.getD i false=true:=fun i o ho=>by
     cases hd:listed.getD i false with
     | true=>rfl
     | false=>
       exfalso
       obtain⟨A,j,B,e,h1,h2⟩:=Oa (p:=fun k=>listed.getD k false=false) ⟨i,hc.all i o ho,hd⟩
       obtain⟨oj,hj,hpj⟩:=hc.order e
       have:j∈Region.ready .any ops listed:=mem_ready.2 ⟨by
        have hlt:j<listed.size:=by rw[hsz];exact (Array.getElem?_eq_some_iff.1 hj).1
        simp[hlt]at h1 ⊢;exact h1,oj,hj,fun e he hb=>by
         have:=h2 e.on (hpj e.on (List.mem_map.2 ⟨e,List.mem_filter.2 ⟨by simpa using he,hb⟩,rfl⟩))
         simpa using this⟩
       rw[hr]at this;cases this
    obtain⟨k1,k2⟩:=T5 hc I hall k
    exact hq a w ⟨env,h,G,k1,s,ev,k2,hn,hdf⟩
   ·obtain⟨hi0,o,ho,hpre⟩:=mem_ready.1 hir
    have hlt:i<listed.size:=by rw[hsz];exact (Array.getElem?_eq_some_iff.1 ho).1
    have hD:listed.getD i false=false:=by simp[hlt]at hi0 ⊢;exact hi0
    have hp:∀ p∈vR o,listed.getD p false=true:=fun p hp=>by
     obtain⟨e,he,rfl⟩:=List.mem_map.1 hp
     obtain⟨he1,he2⟩:=List.mem_filter.1 he
     exact hpre e (by simpa using he1) he2
    obtain⟨C',rest',env',pend',I',k',kn',hcase⟩:=Un hc ho hD hp rest C env pend I k kn
    have hD':∀ k,(listed.setIfInBounds i true).getD k false=true↔k=i∨listed.getD k false=true:=fun k=>by
     by_cases hki:i=k
     ·subst hki;simp[hlt]
     ·rw[getD_set_ne false hki];simp[Ne.symm hki]
    have hDf:∀ k,(listed.setIfInBounds i true).getD k false=false→k≠i∧listed.getD k false=false:=fun k hk=>by
     have:=hD' k
     rw[hk]at this
     simp only[Bool.false_eq_true,false_iff,not_or,Bool.not_eq_true]at this
     exact this
    have hU':(U.erase i).length≤fuel:=by
     have:=hUm i (by rw[← hsz];exact hlt) hD
     rw[List.length_erase_of_mem this];omega
    have hUm':∀ j,j<ops.size→(listed.setIfInBounds i true).getD j false=false→j∈U.erase i:=fun j hj hjD=>by
     obtain⟨q1,q2⟩:=hDf j hjD
     exact (List.mem_erase_of_ne q1).2 (hUm j hj q2)
    unfold wpOp
    simp only[ho]
    rcases hcase with hm|⟨post,rfl,hnq⟩
    ·-- wg already
     obtain⟨hd,envq,v,se,hv,hk⟩:=(kn' i hm hD o ho).out
     have hr:=I'.reads hc ho hD hp se
     have go:∀ (x:Value) (G':Gh) (w':World),Rep G' v x→Sim G' h w'→Evo G h w G' h w'→wpAny P .any ops Q fuel (listed.setIfInBounds i true) (a.put o.dst x) w':=fun x G' w' hx s' ev'=>
      ih _ _ w' G' h C' rest' env' pend' (U.erase i) (by simp[hsz]) ((I'.mono ev'.le).done hc ho hm hp hD' rfl (by rw[hn];exact hd) hv hx)
       (fun q hqm hqD oq hoq=>kn' q hqm (hDf q hqD).2 oq hoq) s' (by rw[AL.put_size,hn]) (by rw[AL.put_defers,hdf]) (ev.trans ev') k' hU' hUm'
     rcases hk with ⟨hg,rfl⟩|⟨hg,hqo,hk,_⟩
     ·rw[oh hr hg]
      simp only[Bool.false_eq_true,if_false]
      exact go undef G w (by simp[Rep,RepL,undef]) s (Evo.refl _ _ _)
     ·rw[oh hr hg]
      simp only[if_true]
      refine .inl (T0 (G:=G) (h:=h) hc s hr hk fun v' x h' G' w' hx hk' s' ev'=>?_)
      obtain⟨rfl,rfl⟩:=hk'
      exact go x G' w' hx s' ev'
    ·-- the next one in the order
     obtain⟨o',env1,ho',hsame,k'⟩:=Li k'
     rw[ho]at ho';cases ho'
     have se:=I'.sees hc rfl ho hsame
     have hr:=I'.reads hc ho hD hp se
     have grown:∀ {v:AV} {q:Nat} {oq:Oper} {pend2:qM},ops[q]?=some oq→q∈C'++[i]→(listed.setIfInBounds i true).getD q false=false→Known P n ops q oq fj (putD env1 o.dst v) h pend':=fun {v q oq pend2} hoq hqm hqD=>by
      obtain⟨q1,q2⟩:=hDf q hqD
      have hqm:q∈C':=by
       rcases List.mem_append.1 hqm with h|h
       ·exact h
       ·exact (q1 (by simpa using h)).elim
      exact (kn' q hqm q2 oq hoq).grow hc I' rfl ho hsame hoq hqm fun _ h=>h
     rcases k' with ⟨hg,k'⟩|⟨hg,hd,k'⟩
     ·rw[oh hr hg]
      simp only[if_true]
      unfold qC at k'
      by_cases hd:fG n o.dst=true
      ·rw[if_pos hd,if_neg (by simp[hnq])]at k'
       refine .inl (T0 (G:=G) (h:=h) hc s hr k' fun v x h' G' w' hx hk' s' ev'=>?_)
       obtain⟨hk1,hk2⟩:=AX hk'
       have I2:=((I'.grow hc rfl ho hsame (v:=v)).mono ev'.le).done hc ho (by simp) hp hD' (a:=a) rfl (by rw[hn];exact hd) (fun d hdd=>tt hc hdd v) hx
       refine ih _ _ w' G' h' _ post _ pend' (U.erase i) (by simp[hsz]) I2 (fun q hqm hqD oq hoq=>?_) s' (by rw[AL.put_size,hn]) (by rw[AL.put_defers,hdf]) (ev.trans ev') hk1 hU' hUm'
       obtain⟨hdq,envq,vq,seq,hvq,hkq⟩:=(grown (v:=v) (pend2:=pend') hoq hqm hqD).out
       refine⟨hdq,envq,vq,seq,hvq,?_⟩
       rcases hkq with hkq|⟨g1,g2,g3,g4⟩
       ·exact .inl hkq
       ·refine .inr ⟨g1,g2,?_,g4⟩
        have up:∀ (k:aop P envq h' oq fun r _=>r=vq),aop P envq h' oq fun r h''=>r=vq∧h''=h':=fun k=>by
         obtain⟨v2,e,k2⟩:=Td g2 k
         subst e;exact k2
        by_cases hh:hOp P oq.op=true
        ·refine up (hk2 _ (g4 hh) ?_)
         cases hb:(rj ms i).testBit q with
         | false=>rfl
         | true=>
           exfalso
           rw[hms]at hb
           have hmust:=wU L [] (fun i j hb=>by simp[rj]at hb) i q hb
           have:=hmust (fun k=>listed.getD k false) I'.closed fun o' ho' p hp'=>by rw[ho]at ho';cases ho';exact hp p hp'
           simp only[(hDf q hqD).2]at this
           cases this
        ·exact up (Yu g2 (by simpa using hh) (k7 (fun v h e=>e.1) g3))
      ·rw[if_neg hd]at k';exact k'.elim
     ·rw[oh hr hg]
      simp only[Bool.false_eq_true,if_false]
      have I2:=(I'.grow hc rfl ho hsame (v:=.tup [])).done hc ho (by simp) hp hD' (a:=a) rfl (by rw[hn];exact hd) (fun d hdd=>tt hc hdd _) (x:=undef) (by simp[Rep,RepL,undef])
      exact ih _ _ w G h _ post _ pend' (U.erase i) (by simp[hsz]) I2 (fun q hqm hqD oq hoq=>grown (pend2:=pend') hoq hqm hqD) s (by rw[AL.put_size,hn]) (by rw[AL.put_defers,hdf]) ev k' hU' hUm'
end
section
variable {P:Program}{n:Nat}
theorem KQ (m i:Nat):(Array.replicate m false).getD i false=false:=by
 rw[Array.getD_eq_getD_getElem?,Array.getElem?_replicate]
 split<;>rfl
theorem Kr {id:Nat}{ops:Array Oper}{L:List Nat}{env:Env}{h:ae}{K:Exit→Env→ae→Prop}(hm:P.follows .mixedOrders=true) (hok:uJ P ops L=true)
  (k:nM P n ops (A4 ops L []) L env h [] fun env' h'=>K .normal env' h'):AWp P n (.region id ops true) env h K:=by
 intro G w a s hn r
 have hc:=WQ hok
 refine wp_region_any hm ?_
 have s':Sim G h { w with drawn:=w.drawn+1 }:=(s.drawn _).1
 have ev:Evo G h w G h { w with drawn:=w.drawn+1 }:=⟨Gh.le.refl G,Nat.le_refl _,rfl,rfl,rfl,fun _ _ _=>rfl,fun _ h=>.inl h,fun _ _ _ h=>.inl h⟩
 refine YO (fj:=env) hc rfl (G0:=G) (h0:=h) (w0:=w) (Df:=a.defers) (K:=fun env' h'=>K .normal env' h') (fun a' w' p=>p) ops.size _ a _ G h [] L env [] (List.range ops.size) (by simp) ⟨rfl,?_,?_,?_,?_,?_⟩ ?_ s' hn rfl ev k (by simp) (fun i hi _=>List.mem_range.2 hi)
 ·intro i o ho hd p hp
  have:=(KQ ops.size i).symm.trans hd;cases this
 ·intro i hd
  have:=(KQ ops.size i).symm.trans hd;cases this
 ·exact fun s _=>rfl
 ·exact fun s v _ e=>r s v e
 ·exact fun s v _ e=>r s v e
 ·intro q hq;cases hq
end
end
section
variable [Tabs]
section
variable {P:Program}{G:Gh}{h:ae}{w:World}{n:Nat}
def den (P:Program) (n:Nat) (pl:Nl):Code→Env→ae→(Exit→Env→ae→Prop)→Prop
 | .skip,env,h,K=>K .normal env h
 | .ret,env,h,K=>K .ret env h
 | .exit id,env,h,K=>K (.exit id) env h
 | .goto l,env,h,K=>K (.goto l) env h
 | .label _,env,h,K=>K .normal env h
 | .region _ ops false,env,h,K=>jG P n ops (List.range ops.size) env h fun env' h'=>K .normal env' h'
 | .region id ops true,env,h,K=>match S1 pl (1000000+id) with
   | some (l,_)=>if (P.follows .mixedOrders&&uJ P ops l)=true then nM P n ops (A4 ops l []) l env h [] fun env' h'=>K .normal env' h' else False
   | none=>False
 | .seq x y,env,h,K=>den P n pl x env h fun e env' h'=>match e with|.normal=>den P n pl y env' h' K|e=>K e env' h'
 | .cond c x y,env,h,K=>bW (opv env c) fun v=>ifB v (den P n pl x env h K) (den P n pl y env h K)
 | .block id c,env,h,K=>den P n pl c env h fun e env' h'=>match e with|.exit i=>if i=id then K .normal env' h' else K (.exit i) env' h'|e=>K e env' h'
 | .loop c,env,h,K=>match S1 pl (sF c) with
   | some (ws,ks)=>if SZ c ws ks=true then acY ws ks (fun env' h' K'=>den P n pl c env' h' K') env h K else False
   | none=>False
 | _,_,_,_=>False
end
section
variable {P:Program}{n:Nat}{pl:Nl}
theorem wS:∀ {ks:List Nat}{vs pre ws:List AV}{env env':Env}{s:Nat}{a:AV},vs=pre++ws→Fc env' ks=some ws→get (mj vs pre.length ks++env) s=some a→get env' s=some a∨get env s=some a
 | [],vs,pre,ws,env,env',s,a,hv,h,e=>.inr (by simpa [mj] using e)
 | k::ks,vs,pre,ws,env,env',s,a,hv,h,e=>by
   simp only[Fc]at h
   split at h
   ·rename_i v vs' h1 h2
    cases h
    simp only[mj,List.cons_append,get]at e
    split at e
    ·rename_i hk
     subst hk
     subst hv
     simp[aq]at e
     subst e
     exact .inl h1
    ·exact wS (vs:=vs) (pre:=pre++[v]) (ws:=vs') (by rw[hv];simp) h2 (by simpa using e)
   ·cases h
theorem Ve {ks:List Nat}{vs:List AV}{env env':Env}(h:Fc env ks=some vs) (k:∀ s a,get env' s=some a→get env s=some a) (s:Nat) (a:AV) (e:get (mj vs 0 ks++env') s=some a):get env s=some a:=
 (wS (pre:=[]) (by simp) h e).elim id (k s a)
def Keep (ws:List Nat) (env env':Env):Prop:=∀ s,s∉ws→get env' s=get env s
theorem Keep.refl (ws:List Nat) (env:Env):Keep ws env env:=fun _ _=>rfl
theorem Keep.trans {ws:List Nat}{a b c:Env}(x:Keep ws a b) (y:Keep ws b c):Keep ws a c:=fun s hs=>(y s hs).trans (x s hs)
theorem Keep.mono {ws ws':List Nat}{a b:Env}(x:Keep ws a b) (h:∀ s,s∈ws→s∈ws'):Keep ws' a b:=fun s hs=>x s fun m=>hs (h s m)
theorem Keep.putD {ws:List Nat}(env:Env) {d:Option Tmp}(v:AV) (h:∀ s,d=some s→s∈ws):Keep ws env (putD env d v):=fun s hs=>by
 cases d with
 | none=>rfl
 | some d=>
   simp only[AL.putD,get]
   rw[if_neg (fun e=>by subst e;exact hs (h d rfl))]
theorem Keep.know {ws:List Nat}(env:Env) {s:Nat}(v:AV) (h:s∈ws):Keep ws env ((s,v)::env):=fun k hk=>by
 simp only[get]
 rw[if_neg (fun e=>by subst e;exact hk h)]
def Fo (ops:Array Oper):List Nat:=ops.toList.filterMap (·.dst)
theorem Cm {ops:Array Oper}{i s:Nat}{o:Oper}(ho:ops[i]?=some o) (hd:o.dst=some s):s∈Fo ops:=by
 simp only[Fo,List.mem_filterMap]
 exact⟨o,Array.mem_toList_iff.2 (Array.mem_of_getElem? ho),hd⟩
theorem It {env:Env}{h:ae}{o:Oper}{K K':Env→ae→Prop}(hk:∀ v h',K (putD env o.dst v) h'→K' (putD env o.dst v) h') (k:qA P n env h o K):qA P n env h o K':=by
 unfold qA at *
 split at k
 ·rename_i hd;rw[if_pos hd];exact k7 (fun v h' k=>hk v h' k) k
 ·exact k.elim
theorem u1 (ops:Array Oper):∀ (l:List Nat) (env:Env) (h:ae) (K K':Env→ae→Prop),(∀ env' h',Keep (Fo ops) env env'→K env' h'→K' env' h')→jG P n ops l env h K→jG P n ops l env h K'
 | [],env,h,K,K',hk,k=>hk env h (Keep.refl _ _) k
 | i::rest,env,h,K,K',hk,k=>by
   unfold jG at *
   split at k
   ·exact k.elim
   ·rename_i o ho
    have hd:∀ s,o.dst=some s→s∈Fo ops:=fun s e=>Cm ho e
    have go:∀ {env1:Env},Keep (Fo ops) env env1→qA P n env1 h o (fun env' h'=>jG P n ops rest env' h' K)→qA P n env1 h o (fun env' h'=>jG P n ops rest env' h' K'):=fun hk1 k=>
     It (fun v h' k=>u1 ops rest _ h' K K' (fun env2 h2 hk2 k2=>hk env2 h2 ((hk1.trans (Keep.putD _ v hd)).trans hk2) k2) k) k
    have skip:∀ {env1:Env},Keep (Fo ops) env env1→jG P n ops rest (putD env1 o.dst (.tup [])) h K→jG P n ops rest (putD env1 o.dst (.tup [])) h K':=fun hk1 k=>
     u1 ops rest _ h K K' (fun env2 h2 hk2 k2=>hk env2 h2 ((hk1.trans (Keep.putD _ _ hd)).trans hk2) k2) k
    split at k
    ·exact go (Keep.refl _ _) k
    ·rename_i j want hg
     split at k
     ·exact k.elim
     ·rename_i sl hsl
      have hs:sl∈Fo ops:=by
       cases hj:ops[j]? with
       | none=>simp[hj]at hsl
       | some oj=>rw[hj]at hsl;exact Cm hj (by simpa using hsl)
      refine bk (fun v k=>Pa ?_ ?_ ?_ k) _ k
      ·intro k
       split at k
       ·rename_i hw;rw[if_pos hw];exact go (Keep.know _ _ hs) k
       ·rename_i hw
        rw[if_neg hw]
        split at k
        ·rename_i hd;rw[if_pos hd];exact skip (Keep.know _ _ hs) k
        ·exact k.elim
      ·intro k
       split at k
       ·rename_i hw
        rw[if_pos hw]
        split at k
        ·rename_i hd;rw[if_pos hd];exact skip (Keep.know _ _ hs) k
        ·exact k.elim
       ·rename_i hw;rw[if_neg hw];exact go (Keep.know _ _ hs) k
      ·intro k
       split at k
       ·rename_i hd;rw[if_pos hd];exact skip (Keep.know _ _ hs) k
       ·exact k.elim
theorem xA {m:Nat}{h:ae}{k k':Prop}(hk:k→k'):∀ {pend:qM},sT m pend h k→sT m pend h k'
 | [],x=>hk x
 | (q,c)::r,x=>by
   simp only[sT]at x ⊢
   split at x
   ·rename_i hb;rw[if_pos hb];exact xA hk x
   ·rename_i hb;rw[if_neg hb];exact⟨x.1,xA hk x.2⟩
theorem HQ {m i:Nat}{env:Env}{h:ae}{o:Oper}{pend:qM}{K K':Env→ae→qM→Prop}(hk:∀ v h' pend',K (putD env o.dst v) h' pend'→K' (putD env o.dst v) h' pend') (k:qC P n m i o env h pend K):qC P n m i o env h pend K':=by
 unfold qC at *
 by_cases hd:fG n o.dst=true
 ·rw[if_pos hd]at k ⊢
  by_cases hq:qOp P o.op=true
  ·rw[if_pos hq]at k ⊢;exact k7 (fun v h' k=>hk v h' _ k) k
  ·rw[if_neg hq]at k ⊢;exact k7 (fun v h' k=>xA (hk v h' _) k) k
 ·rw[if_neg hd]at k;exact k.elim
theorem yN (ops:Array Oper) (ms:List (Nat×Nat)):∀ (l:List Nat) (env:Env) (h:ae) (pend:qM) (K K':Env→ae→Prop),(∀ env' h',Keep (Fo ops) env env'→K env' h'→K' env' h')→nM P n ops ms l env h pend K→nM P n ops ms l env h pend K'
 | [],env,h,pend,K,K',hk,k=>hk env h (Keep.refl _ _) k
 | i::rest,env,h,pend,K,K',hk,k=>by
   unfold nM at *
   split at k
   ·exact k.elim
   ·rename_i o ho
    have hd:∀ s,o.dst=some s→s∈Fo ops:=fun s e=>Cm ho e
    have go:∀ {env1:Env},Keep (Fo ops) env env1→qC P n (rj ms i) i o env1 h pend (fun env' h' pend'=>nM P n ops ms rest env' h' pend' K)→qC P n (rj ms i) i o env1 h pend (fun env' h' pend'=>nM P n ops ms rest env' h' pend' K'):=fun hk1 k=>
     HQ (fun v h' pend' k=>yN ops ms rest _ h' pend' K K' (fun env2 h2 hk2 k2=>hk env2 h2 ((hk1.trans (Keep.putD _ v hd)).trans hk2) k2) k) k
    have skip:∀ {env1:Env},Keep (Fo ops) env env1→nM P n ops ms rest (putD env1 o.dst (.tup [])) h pend K→nM P n ops ms rest (putD env1 o.dst (.tup [])) h pend K':=fun hk1 k=>
     yN ops ms rest _ h pend K K' (fun env2 h2 hk2 k2=>hk env2 h2 ((hk1.trans (Keep.putD _ _ hd)).trans hk2) k2) k
    split at k
    ·exact go (Keep.refl _ _) k
    ·rename_i j want hg
     split at k
     ·exact k.elim
     ·rename_i sl hsl
      have hs:sl∈Fo ops:=by
       cases hj:ops[j]? with
       | none=>simp[hj]at hsl
       | some oj=>rw[hj]at hsl;exact Cm hj (by simpa using hsl)
      refine bk (fun v k=>Pa ?_ ?_ ?_ k) _ k
      ·intro k
       split at k
       ·rename_i hw;rw[if_pos hw];exact go (Keep.know _ _ hs) k
       ·rename_i hw
        rw[if_neg hw]
        split at k
        ·rename_i hd;rw[if_pos hd];exact skip (Keep.know _ _ hs) k
        ·exact k.elim
      ·intro k
       split at k
       ·rename_i hw
        rw[if_pos hw]
        split at k
        ·rename_i hd;rw[if_pos hd];exact skip (Keep.know _ _ hs) k
        ·exact k.elim
       ·rename_i hw;rw[if_neg hw];exact go (Keep.know _ _ hs) k
      ·intro k
       split at k
       ·rename_i hd;rw[if_pos hd];exact skip (Keep.know _ _ hs) k
       ·exact k.elim
theorem mW {ws:List Nat}:∀ {env:Env}{s:Nat}{a:AV},get (iX ws env) s=some a→s∉ws
 | [],s,a,e=>by simp[iX,get]at e
 | (k,v)::env,s,a,e=>by
   simp only[iX,List.filter_cons]at e
   split at e
   ·rename_i hc
    simp only[get]at e
    split at e
    ·rename_i hk;subst hk;simpa using hc
    ·exact mW (env:=env) e
   ·exact mW (env:=env) e
theorem xd {ws:List Nat}{s:Nat}(hs:s∉ws):∀ (env:Env),get (iX ws env) s=get env s
 | []=>rfl
 | (k,v)::env=>by
   simp only[iX,List.filter_cons]
   have ih:=xd hs env
   simp only[iX]at ih
   split
   ·simp only[get,ih]
   ·rename_i hc
    have hne:k≠s:=fun e=>by subst e;simp at hc;exact hs hc
    simp only[get,if_neg hne,ih]
theorem rP:∀ {ks:List Nat}{vs:List AV}{i:Nat}{env:Env}{s:Nat},s∉ks→get (mj vs i ks++env) s=get env s
 | [],vs,i,env,s,_=>by simp[mj]
 | k::ks,vs,i,env,s,h=>by
   simp only[List.mem_cons,not_or]at h
   simp only[mj,List.cons_append,get,if_neg (Ne.symm h.1)]
   exact rP h.2
theorem HK:∀ (c:Code) (env:Env) (h:ae) (K K':Exit→Env→ae→Prop),(∀ e env' h',Keep (dy c) env env'→K e env' h'→K' e env' h')→den P n pl c env h K→den P n pl c env h K':=by
 intro c
 induction c with
 | skip=>exact fun env h K K' hk k=>hk _ _ _ (Keep.refl _ _) k
 | ret=>exact fun env h K K' hk k=>hk _ _ _ (Keep.refl _ _) k
 | exit id=>exact fun env h K K' hk k=>hk _ _ _ (Keep.refl _ _) k
 | goto l=>exact fun env h K K' hk k=>hk _ _ _ (Keep.refl _ _) k
 | label l=>exact fun env h K K' hk k=>hk _ _ _ (Keep.refl _ _) k
 | region id ops d=>
   intro env h K K' hk k
   cases d with
   | false=>exact u1 ops _ env h _ _ (fun env' h' q k=>hk _ _ _ q k) k
   | true=>
     unfold den at k ⊢
     split at k
     ·rename_i l x hp
      split at k
      ·rename_i hok
       rw[if_pos hok]
       exact yN ops _ _ env h _ _ _ (fun env' h' q k=>hk _ _ _ q k) k
      ·exact k.elim
     ·exact k.elim
 | seq x y hx hy=>
   intro env h K K' hk k
   refine hx env h _ _ (fun e env1 h1 q k=>?_) k
   have q':Keep (dy (.seq x y)) env env1:=q.mono fun s hs=>by simp only[dy,List.mem_append];exact .inl hs
   cases e<;>first
    | exact hk _ _ _ q' k
    | exact hy env1 h1 _ _ (fun e env2 h2 q2 k2=>hk _ _ _ (q'.trans (q2.mono fun s hs=>by simp only[dy,List.mem_append];exact .inr hs)) k2) k
 | cond c x y hx hy=>
   intro env h K K' hk k
   refine bk (fun v k=>Cn (fun k=>?_) (fun k=>?_) k) _ k
   ·exact hx env h _ _ (fun e env' h' q k=>hk _ _ _ (q.mono fun s hs=>by simp only[dy,List.mem_append];exact .inl hs) k) k
   ·exact hy env h _ _ (fun e env' h' q k=>hk _ _ _ (q.mono fun s hs=>by simp only[dy,List.mem_append];exact .inr hs) k) k
 | block id c hc=>
   intro env h K K' hk k
   refine hc env h _ _ (fun e env' h' q k=>?_) k
   cases e<;>first
    | exact hk _ _ _ q k
    | (simp only at k ⊢
       split at k
       ·rename_i hi;rw[if_pos hi];exact hk _ _ _ q k
       ·rename_i hi;rw[if_neg hi];exact hk _ _ _ q k)
 | loop c hc=>
   intro env h K K' hk k
   unfold den at k ⊢
   split at k
   ·rename_i ws ks hp
    split at k
    ·rename_i hok
     rw[if_pos hok]
     obtain⟨ho1,ho3,ho2⟩:=EG hok
     refine fx (fun vs0 k=>?_) _ k
     obtain⟨⟨J,h0,hr⟩⟩:=k
     refine⟨⟨J,h0,fun k vs h' hJ=>hc _ _ _ _ (fun e env' h'' q k=>?_) (hr k vs h' hJ)⟩⟩
     have q':Keep ws env env':=fun s hs=>by
      rw[q.mono ho1 s hs,rP (fun m=>hs (ho2 s m)),xd hs]
     have q'':Keep (dy (.loop c)) env env':=q'.mono ho3
     cases e<;>first
      | exact k
      | exact hk _ _ _ q'' k
    ·exact k.elim
   ·exact k.elim
 | scope c hc=>exact fun env h K K' hk k=>k.elim
 | rangeFunc f ps a b ha hb=>exact fun env h K K' hk k=>k.elim
 | refuse why=>exact fun env h K K' hk k=>k.elim
theorem MH:∀ (c:Code) (env:Env) (h:ae) (K:Exit→Env→ae→Prop),den P n pl c env h K→AWp P n c env h K:=by
 intro c
 induction c with
 | skip=>exact fun env h K k=>PN k
 | ret=>exact fun env h K k=>Tk k
 | exit id=>exact fun env h K k=>PE k
 | goto l=>exact fun env h K k=>NS k
 | label l=>exact fun env h K k=>Kh k
 | region id ops d=>
   intro env h K k
   cases d with
   | false=>exact HI k
   | true=>
     unfold den at k
     split at k
     ·rename_i l x hp
      split at k
      ·rename_i hok
       simp only[Bool.and_eq_true]at hok
       exact Kr hok.1 hok.2 k
      ·exact k.elim
     ·exact k.elim
 | seq x y hx hy=>
   intro env h K k
   refine LW ((hx env h _ k).mono fun e env' h' q=>?_)
   cases e<;>first|exact hy _ _ _ q|exact q
 | cond c x y hx hy=>
   intro env h K k
   refine Qu ?_
   obtain⟨v,h1,h2⟩:=aH k
   simp only[h1,bW]
   unfold ifB at h2 ⊢
   split at h2
   ·exact hx _ _ _ h2
   ·exact hy _ _ _ h2
   ·exact h2.elim
 | block id c hc=>exact fun env h K k=>JW (hc env h _ k)
 | loop c hc=>
   intro env h K k
   unfold den at k
   split at k
   ·rename_i ws ks hp
    split at k
    ·rename_i hok
     obtain⟨ho1,ho3,ho2⟩:=EG hok
     obtain⟨vs0,hv0,⟨J,⟨k0,hJ0⟩,hr⟩⟩:=dI k
     clear k
     have hweak:∀ {env1 env2:Env} {h:ae} {K:Exit→Env→ae→Prop} {c:Code},(∀ s a,get env2 s=some a→get env1 s=some a)→AWp P n c env2 h K→AWp P n c env1 h K:=
      fun hs k G w a s hn r=>k G w a s hn fun q b e=>r q b (hs q b e)
     refine X6 (fun k env' h'=>∃ vs,env'=mj vs 0 ks++iX ws env∧J k vs h') ?_ ?_ |> hweak (env2:=mj vs0 0 ks++iX ws env) (Ve hv0 fun s a e=>A9 e)
     ·exact⟨k0,vs0,rfl,hJ0⟩
     ·rintro k env' h' ⟨vs,rfl,hJ⟩
      refine (hc _ _ _ (HK c _ _ _ (fun e env2 h2=>(match e with|.normal=>d6 (Fc env2 ks) fun vs'=>∃ m,m<k∧J m vs' h2|e=>K e env2 h2)∧Keep (dy c) (mj vs 0 ks++iX ws env) env2) (fun e env2 h2 q k=>⟨k,q⟩) (hr k vs h' hJ))).mono fun e env2 h2 q=>?_
      obtain⟨q,hkeep⟩:=q
      cases e<;>first
       | exact q
       | (obtain⟨vs',hv',m,hm,hJ'⟩:=dI q
          refine⟨m,mj vs' 0 ks++iX ws env,hm,⟨vs',rfl,hJ'⟩,fun s a e=>?_⟩
          rcases wS (pre:=[]) (by simp) hv' e with e|e
          ·exact e
          ·have hs:=mW e
           rw[hkeep s (fun m=>hs (ho1 s m)),rP (fun m=>hs (ho2 s m))]
           exact e)
    ·exact k.elim
   ·exact k.elim
 | scope c hc=>exact fun env h K k=>k.elim
 | rangeFunc f ps a b ha hb=>exact fun env h K k=>k.elim
 | refuse why=>exact fun env h K k=>k.elim
end
end
section
variable [Tabs]
section
variable {P:Program}{G:Gh}{h:ae}{w:World}{n:Nat}
def JF (P:Program) (env:Env) (h:ae):List ResultVar→(List AV→Prop)→Prop
 | [],K=>K []
 | .tmp t::rs,K=>bW (get env t) fun v=>JF P env h rs fun vs=>K (v::vs)
 | .cell a t::rs,K=>bW (get env a) fun p=>kY P t p h fun v=>JF P env h rs fun vs=>K (v::vs)
def zP:List AV→AV
 | [v]=>v
 | vs=>.tup vs
def IZ (P:Program) (rs:List ResultVar) (env:Env) (h:ae) (Q:QT):Prop:=JF P env h rs fun vs=>Q (zP vs) h
def fj:Nat→List AV→Env
 | _,[]=>[]
 | k,v::vs=>(k,v)::fj (k+1) vs
def adc (P:Program) (pl:Nl) (fn:Func) (c:Code) (args:List AV) (h:ae) (Q:QT):Prop:=
 den P fn.ntmps pl c (fj 0 args) h fun e env' h'=>match e with
  | .normal=>IZ P fn.results.toList env' h' Q
  | .ret=>IZ P fn.results.toList env' h' Q
  | _=>False
theorem LA (s:Sim G h w) {env:Env}{tmps:Array Value}(r:EnvRep G env tmps):∀ (rs:List ResultVar) (K:List AV→Prop),JF P env h rs K→
  ∃ vs xs,(rs.mapM fun (r:ResultVar)=>(match r with|.tmp t=>pure (tmps.getD t undef)|.cell a t=>do loadVar t (← asAddr (tmps.getD a undef)):Sem Value)).run P w=.ok xs w∧RepL G vs xs∧K vs
 | [],K,k=>⟨[],[],by simp,by simp[RepL],k⟩
 | .tmp t::rs,K,k=>by
   obtain⟨v,h1,k⟩:=aH k
   obtain⟨vs,xs,h2,h3,h4⟩:=LA s r rs _ k
   obtain⟨x,h5,h6⟩:=r _ _ h1
   refine⟨v::vs,x::xs,?_,by simp only[RepL];exact⟨x,xs,rfl,h6,h3⟩,h4⟩
   simp only[List.mapM_cons,Sem.run_bind,Sem.run_pure,Result.andThen_ok]
   rw[h2]
   simp[Array.getD_eq_getD_getElem?,h5]
 | .cell a t::rs,K,k=>by
   obtain⟨p,h1,k1⟩:=aH k
   clear k
   obtain⟨x,h5,h6⟩:=r _ _ h1
   have hload:∃ v y,(loadVar t =<< asAddr x:Sem Value).run P w=.ok y w∧Rep G v y∧JF P env h rs fun vs=>K (v::vs):=by
    have key:∀ {K':AV→Prop},Yl P G w (Instr.loadAt t x) K'→∃ v y,(loadVar t =<< asAddr x:Sem Value).run P w=.ok y w∧Rep G v y∧K' v:=by
     rintro K' ⟨v,y,q1,q2,q3⟩
     refine⟨v,y,?_,q2,q3⟩
     have hx:∃ a,x=.pointer (some a):=by
      unfold Instr.loadAt Instr.sureAddr at q1
      split at q1
      ·exact⟨_,rfl⟩
      ·simp at q1
     obtain⟨ad,rfl⟩:=hx
     simpa [Instr.loadAt,Instr.sureAddr,asAddr,Bind.bindLeft] using q1
    unfold kY at k1
    split at k1
    ·rename_i d i ht hi
     split at k1
     ·rename_i hd;exact key (DR s ht hd hi h6 k1.out)
     ·rename_i hd;exact key (C5 s ht (by simpa using hd) h6 k1.out)
    ·exact k1.elim
   obtain⟨v,y,q1,q2,q3⟩:=hload
   obtain⟨vs,xs,h2,h3,h4⟩:=LA s r rs _ q3
   refine⟨v::vs,y::xs,?_,by simp only[RepL];exact⟨y,xs,rfl,q2,h3⟩,h4⟩
   have hg:tmps.getD a undef=x:=by simp[Array.getD_eq_getD_getElem?,h5]
   simp only[List.mapM_cons,hg]
   have q1':(do loadVar t (← asAddr x):Sem Value).run P w=.ok y w:=q1
   rw[Sem.run_bind,q1']
   simp only[Result.andThen_ok,Sem.run_bind]
   rw[h2]
   simp
theorem qp (s:Sim G h w) {env:Env}{fn:Func}{tmps:Array Value}(r:EnvRep G env tmps) {Q:QT}(k:IZ P fn.results.toList env h Q):
  ∃ v x,(results fn tmps).run P w=.ok x w∧Rep G v x∧Q v h:=by
 obtain⟨vs,xs,h1,h2,h3⟩:=LA s r _ _ k
 have hm:(fn.results.mapM fun (r:ResultVar)=>(match r with|.tmp t=>pure (tmps.getD t undef)|.cell a t=>do loadVar t (← asAddr (tmps.getD a undef)):Sem Value)).run P w=.ok xs.toArray w:=by
  rw[Array.mapM_eq_mapM_toList]
  simp only[Sem.run_map,h1,Result.andThen_ok]
 refine⟨zP vs,if h:xs.toArray.size=1 then xs.toArray[0] else .tuple xs.toArray,?_,?_,h3⟩
 ·simp only[results,Sem.run_bind]
  exact congrArg (fun r=>Result.andThen r fun a w'=>(pure (if h:a.size=1 then a[0] else .tuple a):Sem Value).run P w') hm
 ·have hl:=h2.length
  unfold zP
  split
  ·obtain⟨x,rfl,hx⟩:=h2.single
   simpa using hx
  ·rename_i hne
   have:¬ xs.toArray.size=1:=fun e=>by
    have:vs.length=1:=by simp at e;omega
    obtain⟨v,rfl⟩:=List.length_eq_one_iff.1 this
    exact hne v rfl
   rw[dif_neg this]
   simp only[Rep]
   exact⟨xs,rfl,h2⟩
theorem tQ:∀ (vs:List AV) (k s:Nat) (a:AV),get (fj k vs) s=some a→k≤s∧vs[s-k]?=some a
 | [],k,s,a,e=>by simp[fj,get]at e
 | v::vs,k,s,a,e=>by
   simp only[fj,get]at e
   split at e
   ·rename_i hk;subst hk;simp at e;subst e;simp
   ·rename_i hk
    have:=tQ vs (k+1) s a e
    refine⟨by omega,?_⟩
    rw[show s-k=(s-(k+1))+1 by omega]
    simpa using this.2
theorem Na {f : FuncId} {fn : Func} {c : Code} {args : List AV} {Q : QT} (hf : P.funcs[f]? = some fn) (hb : fn.body = some c) (hname : (fn.name == "runtime.NumGoroutine") = false) (hn : args.length ≤ fn.ntmps)
  {pl:Nl} (k:adc P pl fn c args h Q):ACall P f args h Q:=by
 refine⟨⟨fn,hf,hname,by simp[hb]⟩,fun G w vs s r=>?_⟩
 refine calls_of_wp hf hb ?_
 have hl:=r.length
 have hre:EnvRep G (fj 0 args) (vs.toArray++Array.replicate (fn.ntmps-vs.toArray.size) undef):=fun k a e=>by
  obtain⟨_,h1⟩:=tQ args 0 k a e
  obtain⟨v,h2,h3⟩:=r.at _ _ h1
  have hk:k<vs.length:=(List.getElem?_eq_some_iff.1 h2).1
  exact⟨v,by rw[Array.getElem?_append_left (by simpa using hk)];simpa using h2,h3⟩
 have W:=MH c _ _ _ k G w { tmps:=vs.toArray++Array.replicate (fn.ntmps-vs.toArray.size) undef,defers:=[] } s (by simp;omega) hre
 refine wp_mono W fun e a w' ⟨env',h',G',hk,s',ev,r',hn',hd'⟩=>?_
 cases e with
 | normal=>
   obtain⟨v,x,q1,q2,q3⟩:=qp s' r' hk
   exact⟨hd',x,q1,v,x,h',G',rfl,q2,q3,s',ev⟩
 | ret=>
   obtain⟨v,x,q1,q2,q3⟩:=qp s' r' hk
   exact⟨hd',x,q1,v,x,h',G',rfl,q2,q3,s',ev⟩
 | exit id=>exact hk.elim
 | goto l=>exact hk.elim
 | panic ch=>exact hk.elim
 | outgrown=>exact hk.elim
end
end
section
open Go.RowKit Go.ChangeShapes
variable [Tabs]
section
variable {P:Program}
def G0 (W:World):Gh:={ loc:=fun _=>none,cap:=fun _=>0,F:=fun b o=>W.cell? ⟨b,o,none⟩ }
theorem adg {W:World}(ht:Tabs.ok (fun b o=>W.cell? ⟨b,o,none⟩)):Sim (G0 W) [] W where
 obj:=fun i o h=>by simp at h
 dom:=fun i p h=>by simp[G0]at h
 apart:=fun i j oi oj p q h=>by simp at h
 frz:=fun b o v h=>h
 sep:=fun i o p h=>by simp at h
 tab:=ht
theorem Nn {W w':World}{G G':Gh}{h':ae}(ev:Evo G [] W G' h' w'):Below W.heap.size W w':=
 ⟨ev.os,ev.tape,ev.output,ev.size,fun k hk=>ev.frame k hk fun ⟨i,o,p,h,_⟩=>by simp at h⟩
theorem S0 {f:FuncId}{args:List AV}{vs:List Value}{W:World}(ht:Tabs.ok (fun b o=>W.cell? ⟨b,o,none⟩)) (hr:RepL (G0 W) args vs) (c:ACall P f args [] fun r h'=>r=B true):
  Calls P f vs.toArray W fun e w'=>e=.returned (.bool true)∧Below W.heap.size W w':=
 (c.calls (G0 W) W vs (adg ht) hr).mono fun e w' ⟨r,v,h',G',he,hv,hq,s,ev⟩=>by
  subst hq
  simp only[Rep]at hv
  obtain⟨rfl,_⟩:=hv
  exact⟨he,Nn ev⟩
theorem zF {H:Type}{enc:TypeId×Value→H}(hl:laidOutB P=true) {W W':World}(hb:Below W.heap.size W W'):∀ {ts:List TypeId}{vs:List Value}{ds:List (DataW H)}{ps:List MemPlace},(∀ t∈ts,P.readableRec t=true∧t<P.types.size)→
  DataW.TrodAll enc P W 0 (fun _=>true) true ts vs ds ps→(∀ x∈ps,x.block<W.heap.size)→DataW.TrodAll enc P W' 0 (fun b=>decide (b<W.heap.size)) true ts vs ds ps
 | [],vs,ds,ps,_,h,_=>by
   obtain⟨rfl,rfl,rfl⟩:=trodAll_nil h
   exact trodAll_mk0
 | t::ts,vs,ds,ps,hr,h,hlt=>by
   obtain⟨v,vs',d,ds',p,q,rfl,rfl,rfl,h1,h2⟩:=trodAll_cons h
   exact trodAll_cons_mk (RowKit.Below.trod hl (hr t (by simp)).1 (hr t (by simp)).2 h1 hb fun x hx=>hlt x (by simp[hx])) (zF hl hb (fun u hu=>hr u (by simp[hu])) h2 fun x hx=>hlt x (by simp[hx]))
theorem Vn {H:Type}{enc:TypeId×Value→H}{f:Func}{s:ChangeSpec}{fresh:Bool}{W W':World}{args:Array Value}{ds gs:List (DataW H)}{before:List MemPlace}{t:TypeId}(hl:laidOutB P=true)
  (hrd:∀ t∈f.params.toList,P.readableRec t=true∧t<P.types.size) (hs:s.vars=[]) (hrt:f.resultTypes=#[t]) (ht:P.underlying t=some .bool)
  (hW:DataW.Whole enc P f.params.toList s.vars false W args.toList ds gs before) (hres:(s.fn H (ds++gs)).results=[.lit (.bool true)]) (hargs:(s.fn H (ds++gs)).args=ds) (hvars:(s.fn H (ds++gs)).vars=[]) (hb:Below W.heap.size W W'):
  s.post enc P f false fresh false false W args (.bool true) W':=by
 have hlt:=hW.lt
 obtain⟨p,q,hA,hV,hpq,hfz,hn⟩:=id hW
 rw[hs]at hV
 obtain⟨rfl,rfl⟩:=trodVars_none hV
 simp only[List.append_nil]at hpq
 subst hpq
 refine⟨ds,[],before,[],before,[],hW,?_,?_,?_,hb.frame _,fun h=>by cases h⟩
 ·rw[hres,hrt]
  exact trodAll_mk1 (shut_bool ht true)
 ·rw[hargs]
  exact zF hl hb hrd hA hlt
 ·rw[hvars,hs];rfl
