import Derived.Test.YtgkmmcdhhkllnaaGreatDoorAL9ctoAL13v
import Derived.WalkKit
import Derived.ProofKit
import Derived.OpenShut
import Derived.Carry
set_option linter.all false
set_option autoImplicit true
set_option relaxedAutoImplicit true
set_option maxRecDepth 100000
namespace Go.Proofs.YtgkmmcdhhkllnaaGreatDoor.AL
section
variable [Tabs]
section
variable {P:Program}
def X0:Op→Bool
 | .move _|.assign _|.pick ..|.build ..|.buildSlice ..|.load ..|.nilCheck _|.binOp ..|.unOp ..|.convert ..|.makeInterface ..|.makeFunc ..|.slice ..|.fieldAddr ..|.field ..|.indexAddr ..|.index ..|.extract ..=>true
 | .call c=>match c.callee with
   | .builtin .len=>true
   | .builtin .max=>true
   | .builtin .min=>true
   | _=>false
 | _=>false
def acq (P:Program):Op→Bool
 | .load ..=>true
 | .call c=>match c.callee,c.argTypes.toList with
   | .builtin .len,[t]=>match P.underlying t with|some (.map _ _)=>true|_=>false
   | _,_=>false
 | _=>false
theorem aY {K:AV→Prop}{o:Option AV}{v:AV}(h:o=some v) (k:K v):bV o K:=by subst h;exact k
theorem mJ {K:List AV→Prop}{o:Option (List AV)}{v:List AV}(h:o=some v) (k:K v):d7 o K:=by subst h;exact k
theorem mI {K:Option AV→Prop}{o:Option (Option AV)}{v:Option AV}(h:o=some v) (k:K v):CB o K:=by subst h;exact k
theorem Yb {env:Env}{h:ae}{o:Oper}{K:QT}(hq:X0 o.op=true) (k:wR P env h o K):∃ v,K v h∧wR P env h o fun r h'=>r=v∧h'=h:=by
 obtain⟨dst,op,ty,pos,after,guard⟩:=o
 have up:∀ {v:AV} (r:AV),r=v→r=v∧True:=fun r e=>⟨e,trivial⟩
 cases op<;>simp only[wR,X0,Bool.false_eq_true]at k hq ⊢
 case move=>obtain⟨v,e,k⟩:=aH k;exact⟨v,k,aY e ⟨rfl,trivial⟩⟩
 case assign=>obtain⟨v,e,k⟩:=aH k;exact⟨v,k,aY e ⟨rfl,trivial⟩⟩
 case pick=>
  obtain⟨c,e,k⟩:=aH k
  obtain⟨x,e1,k⟩:=aH k
  obtain⟨y,e2,k⟩:=aH k
  have:∀ {X:Prop},X→True:=fun _=>trivial
  unfold ifB at k
  split at k
  ·exact⟨x,k,aY e (aY e1 (aY e2 ⟨rfl,trivial⟩))⟩
  ·exact⟨y,k,aY e (aY e1 (aY e2 ⟨rfl,trivial⟩))⟩
  ·exact k.elim
 case build=>
  obtain⟨vs,e,k⟩:=dB k
  unfold xC at k
  (repeat' split at k)<;>first
   | exact k.elim
   | (obtain⟨v,k1,k2⟩:=S8 _ _ k
      refine⟨v,k1,mJ e ?_⟩
      simp only[xC, *,if_true]
      exact wZ up _ _ k2)
 case buildSlice=>
  obtain⟨vs,e,k⟩:=dB k
  unfold ij at k
  (repeat' split at k)<;>first
   | exact k.elim
   | (obtain⟨v,k1,k2⟩:=FA _ _ _ k
      refine⟨v,k1,mJ e ?_⟩
      simp only[ij, *]
      rw[if_pos ‹_›]
      exact nO up _ _ _ k2)
 case load=>
  obtain⟨x,e,k⟩:=aH k
  unfold lu at k
  (repeat' split at k)<;>first
   | exact k.elim
   | (obtain⟨v,k1,k2⟩:=Hh _ _ _ k
      refine⟨v,k1,aY e ?_⟩
      simp only[lu, *,if_true]
      exact ik up _ _ _ k2)
   | (obtain⟨v,k1,k2⟩:=Gu _ _ k
      refine⟨v,k1,aY e ?_⟩
      simp only[lu, *,↓reduceIte,Bool.false_eq_true]
      exact ig up _ _ k2)
 case nilCheck=>
  obtain⟨x,e,k⟩:=aH k
  obtain⟨v,k1,k2⟩:=Yr _ k
  exact⟨v,k1,aY e (CT up _ k2)⟩
 case binOp=>
  obtain⟨x,e,k⟩:=aH k
  obtain⟨y,e1,k⟩:=aH k
  unfold Qh at k
  (repeat' split at k)<;>first
   | exact k.elim
   | (obtain⟨v,k1,k2⟩:=YG _ _ _ k
      refine⟨v,k1,aY e (aY e1 ?_)⟩
      simp only[Qh, *]
      exact tN up _ _ _ k2)
   | (obtain⟨v,k1,k2⟩:=Wa _ _ _ k
      refine⟨v,k1,aY e (aY e1 ?_)⟩
      simp only[Qh, *]
      exact Bb up _ _ _ k2)
   | (obtain⟨v,k1,k2⟩:=V5 _ _ _ k
      refine⟨v,k1,aY e (aY e1 ?_)⟩
      simp only[Qh, *]
      exact A8 up _ _ _ k2)
 case unOp=>
  obtain⟨x,e,k⟩:=aH k
  obtain⟨v,k1,k2⟩:=aai _ _ k
  exact⟨v,k1,aY e (G5 up _ _ k2)⟩
 case convert=>
  obtain⟨x,e,k⟩:=aH k
  unfold EO at k
  (repeat' split at k)<;>first
   | exact k.elim
   | (obtain⟨v,k1,k2⟩:=OC _ _ k
      refine⟨v,k1,aY e ?_⟩
      simp only[EO, *]
      exact uL up _ _ k2)
   | (obtain⟨v,k1,k2⟩:=Pv _ _ k
      refine⟨v,k1,aY e ?_⟩
      simp only[EO, *]
      exact vK up _ _ k2)
   | (obtain⟨v,k1,k2⟩:=Oe _ k
      refine⟨v,k1,aY e ?_⟩
      simp only[EO, *]
      exact vc up _ k2)
 case makeInterface=>
  obtain⟨x,e,k⟩:=aH k
  unfold D7 at k
  (repeat' split at k)<;>first
   | exact k.elim
   | (rename_i hn ht
      obtain⟨v,k1,k2⟩:=SJ _ _ k
      refine⟨v,k1,aY e ?_⟩
      unfold D7
      split
      ·rename_i he;rw[ht]at he;cases he;exact (hn _ rfl).elim
      ·exact xT up _ _ k2
      ·rename_i he;rw[ht]at he;cases he)
 case makeFunc=>
  obtain⟨x,e,k⟩:=dB k
  obtain⟨y,e1,k⟩:=dB k
  exact⟨_,k,mJ e (mJ e1 ⟨rfl,trivial⟩)⟩
 case slice=>
  obtain⟨x,e,k⟩:=aH k
  obtain⟨l,e1,k⟩:=tO k
  obtain⟨u,e2,k⟩:=tO k
  obtain⟨m,e3,k⟩:=tO k
  unfold nS at k
  (repeat' split at k)<;>first
   | exact k.elim
   | (obtain⟨v,k1,k2⟩:=P8 _ _ _ k
      refine⟨v,k1,aY e (mI e1 (mI e2 (mI e3 ?_)))⟩
      simp only[nS, *]
      exact va up _ _ _ k2)
   | (obtain⟨v,k1,k2⟩:=OR _ _ _ _ k
      refine⟨v,k1,aY e (mI e1 (mI e2 (mI e3 ?_)))⟩
      simp only[nS, *]
      exact uH up _ _ _ _ k2)
   | (obtain⟨v,k1,k2⟩:=OQ _ k
      refine⟨v,k1,aY e (mI e1 (mI e2 (mI e3 ?_)))⟩
      simp only[nS, *]
      exact uS up _ k2)
 case fieldAddr=>
  obtain⟨x,e,k⟩:=aH k
  unfold nH at k
  (repeat' split at k)<;>first
   | exact k.elim
   | (obtain⟨v,k1,k2⟩:=Hc _ _ k
      refine⟨v,k1,aY e ?_⟩
      simp only[nH, *,↓reduceIte]
      exact pj up _ _ k2)
 case field=>
  obtain⟨x,e,k⟩:=aH k
  unfold yi Es at k
  (repeat' split at k)<;>first
   | exact k.elim
   | (obtain⟨v,k1,k2⟩:=Sq _ _ _ k
      refine⟨v,k1,aY e ?_⟩
      simp only[yi,Es, *,if_true]
      exact xq up _ _ _ k2)
   | (obtain⟨v,k1,k2⟩:=RZ _ _ k
      refine⟨v,k1,aY e ?_⟩
      simp only[yi,Es, *,↓reduceIte,Bool.false_eq_true]
      exact yE up _ _ k2)
 case indexAddr=>
  obtain⟨x,e,k⟩:=aH k
  obtain⟨y,e1,k⟩:=aH k
  unfold eI at k
  (repeat' split at k)<;>first
   | exact k.elim
   | (obtain⟨v,k1,k2⟩:=xD _ _ _ k
      refine⟨v,k1,aY e (aY e1 ?_)⟩
      simp only[eI, *]
      exact iT up _ _ _ k2)
   | (obtain⟨v,k1,k2⟩:=wm _ _ _ _ k
      refine⟨v,k1,aY e (aY e1 ?_)⟩
      simp only[eI, *]
      exact fg up _ _ _ _ k2)
 case index=>
  obtain⟨x,e,k⟩:=aH k
  obtain⟨y,e1,k⟩:=aH k
  unfold C0 at k
  (repeat' split at k)<;>first
   | exact k.elim
   | (obtain⟨v,k1,k2⟩:=Oo _ _ k
      refine⟨v,k1,aY e (aY e1 ?_)⟩
      simp only[C0, *]
      exact vw up _ _ k2)
 case extract=>
  obtain⟨x,e,k⟩:=aH k
  obtain⟨v,k1,k2⟩:=LY _ _ k
  exact⟨v,k1,aY e (tz up _ _ k2)⟩
 case call c=>
  obtain⟨vs,e,k⟩:=dB k
  split at hq
  ·rename_i hc
   simp only[hc]at k
   split at k
   ·rename_i v t hv
    unfold C3 at k
    (repeat' split at k)<;>first
     | exact k.elim
     | (obtain⟨v,k1,k2⟩:=Vo _ k
        refine⟨v,k1,mJ e ?_⟩
        simp only[hc,C3, *]
        exact AU up _ k2)
     | (obtain⟨v,k1,k2⟩:=UV _ k
        refine⟨v,k1,mJ e ?_⟩
        simp only[hc,C3, *]
        exact AI up _ k2)
     | (obtain⟨v,k1,k2⟩:=UH _ _ k
        refine⟨v,k1,mJ e ?_⟩
        simp only[hc,C3, *]
        exact AR up _ _ k2)
   ·exact k.elim
  ·rename_i hc
   simp only[hc]at k
   split at k
   ·obtain⟨v,k1,k2⟩:=YC _ _ k
    refine⟨v,k1,mJ e ?_⟩
    simp only[hc]
    exact Dz up _ _ k2
   ·exact k.elim
  ·rename_i hc
   simp only[hc]at k
   split at k
   ·obtain⟨v,k1,k2⟩:=Xw _ _ k
    refine⟨v,k1,mJ e ?_⟩
    simp only[hc]
    exact CY up _ _ k2
   ·exact k.elim
  ·exact absurd hq (by simp)
theorem V2 {env:Env}{h h2:ae}{o:Oper}{R:AV→Prop}(hq:X0 o.op=true) (hh:acq P o.op=false) (k:wR P env h o fun r _=>R r):wR P env h2 o fun r _=>R r:=by
 obtain⟨dst,op,ty,pos,after,guard⟩:=o
 cases op<;>simp only[wR,X0,acq,Bool.true_eq_false,Bool.false_eq_true]at k hq hh ⊢<;>try exact k
 case call c=>
  refine fm (fun vs k=>?_) _ k
  split at hq
  ·rename_i hc
   simp only[hc]at k hh ⊢
   split at k
   ·rename_i v t hv
    simp only[hv]at hh
    unfold C3 at k ⊢
    split at k<;>rename_i ht
    ·exact k
    ·exact k
    ·simp[ht]at hh
    ·exact k
   ·exact k
  ·rename_i hc
   simp only[hc]at k ⊢
   exact k
  ·rename_i hc
   simp only[hc]at k ⊢
   exact k
  ·exact absurd hq (by simp)
theorem DW {env env':Env}{x:Operand}(h:∀ t,x=.tmp t→get env t=get env' t):opv env x=opv env' x:=by
 cases x<;>simp only[opv]
 exact h _ rfl
theorem gq {env env':Env}:∀ {l:List Operand},(∀ x∈l,opv env x=opv env' x)→kZ env l=kZ env' l
 | [],_=>rfl
 | x::l,h=>by
   simp only[kZ,h x (by simp),gq fun y hy=>h y (List.mem_cons_of_mem _ hy)]
theorem AO {env env':Env}:∀ {l:Option Operand},(∀ x∈l,opv env x=opv env' x)→FI env l=FI env' l
 | none,_=>rfl
 | some x,h=>by simp only[FI,h x (by simp)]
theorem RG {env env':Env}{h:ae}{o:Oper}{K:QT}(he:∀ t∈Cj o,get env t=get env' t):wR P env h o K=wR P env' h o K:=by
 have ho:∀ x∈o.op.operands,opv env x=opv env' x:=fun x hx=>DW fun t e=>he t (by
  subst e
  exact List.mem_filterMap.2 ⟨.tmp t,by simpa using hx,rfl⟩)
 clear he
 obtain⟨dst,op,ty,pos,after,guard⟩:=o
 cases op<;>simp only[Op.operands]at ho<;>simp only[wR]
 case pick c a b=>simp only[ho c (by simp),ho a (by simp),ho b (by simp)]
 case build t ps=>rw[gq fun x hx=>ho x (by simpa using hx)]
 case buildSlice t n ps=>rw[gq fun x hx=>ho x (by simpa using hx)]
 case makeFunc f fi ca=>rw[gq (l:=fi.toList) fun x hx=>ho x (by simp at hx;simp[hx]),gq (l:=ca.toList) fun x hx=>ho x (by simp at hx;simp[hx])]
 case slice t x lo hi mx=>
  rw[ho x (by simp),AO (l:=lo) fun y hy=>ho y (by simp at hy;simp[hy]),AO (l:=hi) fun y hy=>ho y (by simp at hy;simp[hy]),AO (l:=mx) fun y hy=>ho y (by simp at hy;simp[hy])]
 case call c=>
  rw[gq (l:=c.args.toList) fun x hx=>ho x (by simp at hx;simp[Call.operands,hx])]
  congr 1
  funext vs
  split
  ·rename_i f hc
   rw[ho f (by simp[Call.operands,hc])]
  ·rfl
  ·rfl
  ·rfl
  ·rfl
  ·rfl
 all_goals (first|rfl|(simp only[ho _ (by simp)];done)|(simp_all;done))
def Xd (P:Program):Op→Bool
 | .lookup ..=>true
 | .entry _=>true
 | .convert s _ _=>match P.underlying s with|some (.slice _)=>true|_=>false
 | .binOp _ t _ _ _=>match P.underlying t with|some (.slice _)=>false|_=>true
 | _=>false
def acH (P:Program):Op→Bool
 | .lookup ..=>true
 | .entry _=>true
 | .convert ..=>true
 | _=>false
def Xl (P:Program) (o:Op):Bool:=if EZ P o=true then Xd P o else X0 o
def acI (P:Program) (o:Op):Bool:=if EZ P o=true then acH P o else acq P o
def qOp (P:Program) (o:Op):Bool:=if isX P o=true then Zq o else Xl P o
def hOp (P:Program) (o:Op):Bool:=if isX P o=true then false else acI P o
theorem QY {d:TypeDesc}{ok:Bool}{z x key:AV}{h:ae}{K:AV→Prop}(k:il d ok z x key h K):∃ v,K v∧il d ok z x key h fun r=>r=v:=by
 unfold il at *
 split at k
 ·split at k
  ·split at k
   ·rename_i hc;exact⟨_,k,by rw[if_pos hc]⟩
   ·exact k.elim
  ·split at k
   ·split at k
    ·rename_i hc
     split at k
     ·rename_i hm;exact⟨_,k,by rw[if_pos hc]⟩
     ·rename_i hm;exact⟨_,k,by rw[if_pos hc]⟩
    ·exact k.elim
   ·exact k.elim
  ·exact k.elim
 ·exact k.elim
theorem Jy {x:AV}{h:ae}{K:AV→Prop}(k:g9 x h K):∃ v,K v∧g9 x h fun r=>r=v:=by
 unfold g9 at *
 split at k
 ·rename_i hc
  split at k
  ·split at k
   ·exact⟨_,k,by rw[if_pos hc]⟩
   ·exact k.elim
  ·exact k.elim
 ·exact k.elim
theorem Sp {x:AV}{h:ae}{K:AV→Prop}(k:ph x h K):∃ v,K v∧ph x h fun r=>r=v:=by
 unfold ph at *
 split at k
 ·split at k
  ·split at k
   ·split at k
    ·split at k
     ·rename_i hc;exact⟨_,k,by rw[if_pos hc]⟩
     ·exact k.elim
    ·exact k.elim
   ·exact k.elim
  ·exact k.elim
 ·exact k.elim
theorem ZR {op:BinOp}{b:Bool}{K:AV→Prop}(k:po op b K):∃ v,K v∧po op b fun r=>r=v:=by
 unfold po at *
 split at k
 ·exact⟨_,k,rfl⟩
 ·exact⟨_,k,rfl⟩
 ·exact k.elim
theorem ZM {op:BinOp}{ds:List TypeDesc}{x y:AV}{K:AV→Prop}(k:Ft op ds x y K):∃ v,K v∧Ft op ds x y fun r=>r=v:=by
 unfold Ft at *
 split at k
 ·split at k
  ·exact ZR k
  ·exact k.elim
 ·exact k.elim
theorem PZ {op:BinOp}{x:AV}{K:AV→Prop}(k:mG op x K):∃ v,K v∧mG op x fun r=>r=v:=by
 unfold mG at *
 split at k<;>first|exact k.elim|exact⟨_,k,rfl⟩
theorem Pf {op:BinOp}{x:AV}{K:AV→Prop}(k:mM op x K):∃ v,K v∧mM op x fun r=>r=v:=by
 unfold mM at *
 split at k<;>first|exact k.elim|exact⟨_,k,rfl⟩
theorem Ph {op:BinOp}{x:AV}{K:AV→Prop}(k:m7 op x K):∃ v,K v∧m7 op x fun r=>r=v:=by
 unfold m7 at *
 split at k<;>first|exact k.elim|exact⟨_,k,rfl⟩
theorem XW {env:Env}{h:ae}{o:Oper}{K:QT}(hn:EZ P o.op=true) (hq:Xd P o.op=true) (k:xB P env h o K):∃ v,K v h∧xB P env h o fun r h'=>r=v∧h'=h:=by
 obtain⟨dst,op,ty,pos,after,guard⟩:=o
 have up:∀ {v:AV} (r:AV),r=v→r=v∧True:=fun r e=>⟨e,trivial⟩
 cases op<;>simp only[xB,Xd,Bool.false_eq_true]at k hq ⊢
 case lookup=>
  obtain⟨a,e1,k⟩:=aH k
  obtain⟨b,e2,k⟩:=aH k
  have k0:=k
  obtain⟨kt,et,d,i,z,q1,q2,q3,q4,q5,k⟩:=FT k
  obtain⟨v,k1,k2⟩:=QY k.out
  refine⟨v,k1,aY e1 (aY e2 ?_)⟩
  unfold DT
  simp only[q1,q2,q3,q4,q5,if_true]
  exact vL up _ _ _ _ _ _ ⟨k2⟩
 case entry x=>
  obtain⟨a,e1,k⟩:=aH k
  obtain⟨v,k1,k2⟩:=Sp k.out
  exact⟨v,k1,aY e1 (yr up _ _ ⟨k2⟩)⟩
 case convert s d x=>
  obtain⟨a,e1,k⟩:=aH k
  split at k
  ·split at k
   ·rename_i hb
    obtain⟨v,k1,k2⟩:=Jy k.out
    refine⟨v,k1,aY e1 ?_⟩
    rw[if_pos hb]
    exact qJ up _ _ ⟨k2⟩
   ·exact k.elim
  ·rename_i hs _;simp[hs]at hq
  ·exact k.elim
 case binOp op t x y yt=>
  split at k
  ·obtain⟨a,e1,k⟩:=aH k
   obtain⟨b,e2,k⟩:=aH k
   split at k
   ·split at k
    ·rename_i hc
     obtain⟨v,k1,k2⟩:=ZM k.out
     refine⟨v,k1,aY e1 (aY e2 ?_)⟩
     show (if _ then _ else _)
     rw[if_pos hc]
     exact DG up _ _ _ _ ⟨k2⟩
    ·exact k.elim
   ·exact k.elim
  ·obtain⟨a,e1,k⟩:=aH k
   unfold yT at *
   split at k
   ·rename_i ht _;simp[ht]at hq
   ·obtain⟨v,k1,k2⟩:=PZ k.out
    exact⟨v,k1,aY e1 (vH up _ _ ⟨k2⟩)⟩
   ·obtain⟨v,k1,k2⟩:=Pf k.out
    exact⟨v,k1,aY e1 (uJ up _ _ ⟨k2⟩)⟩
   ·obtain⟨v,k1,k2⟩:=Ph k.out
    exact⟨v,k1,aY e1 (vJ up _ _ ⟨k2⟩)⟩
   ·exact k.elim
theorem UK {env:Env}{h h2:ae}{o:Oper}{R:AV→Prop}(hn:EZ P o.op=true) (hq:Xd P o.op=true) (hh:acH P o.op=false) (k:xB P env h o fun r _=>R r):xB P env h2 o fun r _=>R r:=by
 obtain⟨dst,op,ty,pos,after,guard⟩:=o
 cases op<;>simp only[xB,Xd,acH,Bool.true_eq_false,Bool.false_eq_true]at k hq hh ⊢<;>exact k
theorem RH {env env':Env}{h:ae}{o:Oper}{K:QT}(he:∀ t∈Cj o,get env t=get env' t):xB P env h o K=xB P env' h o K:=by
 have ho:∀ x∈o.op.operands,opv env x=opv env' x:=fun x hx=>DW fun t e=>he t (by
  subst e
  exact List.mem_filterMap.2 ⟨.tmp t,by simpa using hx,rfl⟩)
 clear he
 obtain⟨dst,op,ty,pos,after,guard⟩:=o
 cases op<;>simp only[Op.operands]at ho<;>simp only[xB]
 case makeMap t re=>cases re<;>rfl
 case mapUpdate t m k v=>rw[ho m (by simp),ho k (by simp),ho v (by simp)]
 case insert t m k v=>rw[ho m (by simp),ho k (by simp),ho v (by simp)]
 case entryStore t m k v=>rw[ho m (by simp),ho k (by simp),ho v (by simp)]
 case binOp op t x y yt=>rw[ho x (by simp),ho y (by simp)]
 case call c=>
  split
  ·rw[gq (l:=c.args.toList) fun x hx=>ho x (by simp at hx;simp[Call.operands,hx])]
  ·rfl
 all_goals (first|rfl|(simp only[ho _ (by simp)];done)|(simp_all;done))
theorem XZ {env:Env}{h:ae}{o:Oper}{K:QT}(hq:Xl P o.op=true) (k:x4 P env h o K):∃ v,K v h∧x4 P env h o fun r h'=>r=v∧h'=h:=by
 unfold x4 Xl at *
 by_cases hn:EZ P o.op=true
 ·rw[if_pos hn]at hq k;simp only[if_pos hn];exact XW hn hq k
 ·rw[if_neg hn]at hq k;simp only[if_neg hn];exact Yb hq k
theorem VB {env:Env}{h h2:ae}{o:Oper}{R:AV→Prop}(hq:Xl P o.op=true) (hh:acI P o.op=false) (k:x4 P env h o fun r _=>R r):x4 P env h2 o fun r _=>R r:=by
 unfold x4 Xl acI at *
 by_cases hn:EZ P o.op=true
 ·rw[if_pos hn]at hq hh k ⊢;exact UK hn hq hh k
 ·rw[if_neg hn]at hq hh k ⊢;exact V2 hq hh k
theorem Tm {env env':Env}{h:ae}{o:Oper}{K:QT}(he:∀ t∈Cj o,get env t=get env' t):x4 P env h o K=x4 P env' h o K:=by
 unfold x4
 rw[RH he,RG he]
theorem Xi {env:Env}{h:ae}{o:Oper}{K:QT}(hq:Zq o.op=true) (k:wV P env h o K):∃ v,K v h∧wV P env h o fun r h'=>r=v∧h'=h:=by
 obtain⟨dst,op,ty,pos,after,guard⟩:=o
 have up:∀ {v:AV} (r:AV),r=v→r=v∧True:=fun r e=>⟨e,trivial⟩
 cases op<;>simp only[wV]at k ⊢<;>try exact k.elim
 case call c=>
  simp only[Zq]at hq
  split at hq
  ·rename_i f hc
   simp only[hc]at k ⊢
   obtain⟨vs,h1,k⟩:=dB k
   rw[h1]
   simp only[d7]
   split at k
   ·obtain⟨v,k1,k2⟩:=Yw k.out
    exact⟨v,k1,⟨Dw up k2⟩⟩
   ·exact k.elim
  ·cases hq
 case indexAddr t x i=>
  cases x<;>simp only at k ⊢<;>try exact k.elim
  split at k
  ·obtain⟨iv,h1,k⟩:=aH k
   rw[h1]
   simp only[bV]
   unfold eI at *
   split at k
   ·split at k
    ·obtain⟨v,k1,k2⟩:=xD _ _ _ k
     exact⟨v,k1,iT up _ _ _ k2⟩
    ·exact k.elim
   ·split at k
    ·obtain⟨v,k1,k2⟩:=wm _ _ _ _ k
     exact⟨v,k1,fg up _ _ _ _ k2⟩
    ·exact k.elim
   ·exact k.elim
  ·exact k.elim
 case load t x=>
  cases x<;>simp only at k ⊢<;>try exact k.elim
  split at k
  ·unfold lu at *
   split at k
   ·split at k
    ·rename_i hd
     obtain⟨v,k1,k2⟩:=Hh _ _ _ k
     exact⟨v,k1,by rw[if_pos hd];exact ik up _ _ _ k2⟩
    ·rename_i hd
     obtain⟨v,k1,k2⟩:=Gu _ _ k
     exact⟨v,k1,by rw[if_neg hd];exact ig up _ _ k2⟩
   ·exact k.elim
  ·exact k.elim
theorem UZ {env:Env}{h h2:ae}{o:Oper}{R:AV→Prop}(hq:Zq o.op=true) (k:wV P env h o fun r _=>R r):wV P env h2 o fun r _=>R r:=by
 obtain⟨dst,op,ty,pos,after,guard⟩:=o
 cases op<;>simp only[wV]at k ⊢<;>try exact k.elim
 case call c=>
  simp only[Zq]at hq
  split at hq
  ·rename_i f hc
   simp only[hc]at k ⊢
   exact k
  ·cases hq
 case indexAddr t x i=>
  cases x<;>simp only at k ⊢<;>try exact k.elim
  exact k
 case load t x=>
  cases x<;>simp only at k ⊢<;>try exact k.elim
  split at k
  ·unfold lu at *
   split at k
   ·split at k
    ·rename_i hd;rw[if_pos hd];exact⟨k.out⟩
    ·rename_i hd;rw[if_neg hd];exact⟨k.out⟩
   ·exact k.elim
  ·exact k.elim
theorem Ry {env env':Env}{h:ae}{o:Oper}{K:QT}(he:∀ t∈Cj o,get env t=get env' t):wV P env h o K=wV P env' h o K:=by
 have ho:∀ x∈o.op.operands,opv env x=opv env' x:=fun x hx=>DW fun t e=>he t (by
  subst e
  exact List.mem_filterMap.2 ⟨.tmp t,by simpa using hx,rfl⟩)
 clear he
 obtain⟨dst,op,ty,pos,after,guard⟩:=o
 cases op<;>simp only[Op.operands]at ho<;>simp only[wV]
 case load t x=>cases x<;>rfl
 case indexAddr t x i=>cases x<;>first|rfl|(simp only[] ;rw[ho i (by simp)])
 case call c=>
  split
  ·rw[gq (l:=c.args.toList) fun x hx=>ho x (by simp at hx;simp[Call.operands,hx])]
  ·rw[gq (l:=c.args.toList) fun x hx=>ho x (by simp at hx;simp[Call.operands,hx])]
  ·rw[gq (l:=c.args.toList) fun x hx=>ho x (by simp at hx;simp[Call.operands,hx])]
  ·rfl
theorem Ur {env:Env}{h:ae}{o:Oper}{K:QT}(hq:qOp P o.op=true) (k:aop P env h o K):∃ v,K v h∧aop P env h o fun r h'=>r=v∧h'=h:=by
 unfold aop qOp at *
 by_cases hn:isX P o.op=true
 ·rw[if_pos hn]at hq k;simp only[if_pos hn];exact Xi hq k
 ·rw[if_neg hn]at hq k;simp only[if_neg hn];exact XZ hq k
theorem YV {env:Env}{h h2:ae}{o:Oper}{R:AV→Prop}(hq:qOp P o.op=true) (hh:hOp P o.op=false) (k:aop P env h o fun r _=>R r):aop P env h2 o fun r _=>R r:=by
 unfold aop qOp hOp at *
 by_cases hn:isX P o.op=true
 ·rw[if_pos hn]at hq k ⊢;exact UZ hq k
 ·rw[if_neg hn]at hq hh k ⊢;exact VB hq hh k
theorem Vf {env env':Env}{h:ae}{o:Oper}{K:QT}(he:∀ t∈Cj o,get env t=get env' t):aop P env h o K=aop P env' h o K:=by
 unfold aop
 rw[Ry he,Tm he]
end
end
section
variable [Tabs]
section
variable {P:Program}{n:Nat}
abbrev qU:=List (Nat×(ae→Prop))
def rm:List (Nat×Nat)→Nat→Nat
 | [],_=>0
 | (k,m)::r,i=>if k=i then m else rm r i
def tk (m:Nat):qU→ae→Prop→Prop
 | [],_,k=>k
 | (q,c)::r,h,k=>if m.testBit q=true then tk m r h k else c h∧tk m r h k
def qN (P:Program) (n:Nat) (m:Nat) (i:Nat) (o:Oper) (env:Env) (h:ae) (pend:qU) (K:Env→ae→qU→Prop):Prop:=
 if fM n o.dst=true then
  if qOp P o.op=true then
   aop P env h o fun v h'=>K (putD env o.dst v) h' (if hOp P o.op=true then (i,fun h2=>aop P env h2 o fun r _=>r=v)::pend else pend)
  else aop P env h o fun v h'=>tk m pend h' (K (putD env o.dst v) h' pend)
 else False
def n9 (P:Program) (n:Nat) (ops:Array Oper) (ms:List (Nat×Nat)):List Nat→Env→ae→qU→(Env→ae→Prop)→Prop
 | [],env,h,_,K=>K env h
 | i::rest,env,h,pend,K=>match ops[i]? with
   | none=>False
   | some o=>match o.guard with
     | none=>qN P n (rm ms i) i o env h pend fun env' h' pend'=>n9 P n ops ms rest env' h' pend' K
     | some (j,want)=>match (ops[j]?).bind (·.dst) with
       | none=>False
       | some s=>bV (get env s) fun v=>
         ifG (Wq ops j) v
          (if want=true then qN P n (rm ms i) i o ((s,B true)::env) h pend fun env' h' pend'=>n9 P n ops ms rest env' h' pend' K
           else if fM n o.dst=true then n9 P n ops ms rest (putD ((s,B true)::env) o.dst (.tup [])) h pend K else False)
          (if want=true then (if fM n o.dst=true then n9 P n ops ms rest (putD ((s,B false)::env) o.dst (.tup [])) h pend K else False)
           else qN P n (rm ms i) i o ((s,B false)::env) h pend fun env' h' pend'=>n9 P n ops ms rest env' h' pend' K)
          (if fM n o.dst=true then n9 P n ops ms rest (putD ((s,.tup [])::env) o.dst (.tup [])) h pend K else False)
def vW (o:Oper):List Nat:=(o.after.toList.filter (Region.binds .any)).map (·.on)
def A6 (ops:Array Oper):List Nat→List (Nat×Nat)→List (Nat×Nat)
 | [],ms=>ms
 | i::r,ms=>A6 ops r ((i,match ops[i]? with|some o=>(vW o).foldl (fun m p=>m ||| 1 <<< p ||| rm ms p) 0|none=>0)::ms)
def Uq (f:Nat→Nat→Bool):List Nat→Bool
 | []=>true
 | i::r=>r.all (f i)&&Uq f r
def Nt (ops:Array Oper):List Nat→List Nat→Bool
 | _,[]=>true
 | seen,i::r=>(match ops[i]? with|some o=>(vW o).all seen.contains|none=>false)&&Nt ops (i::seen) r
def XL (P:Program) (ops:Array Oper) (ms:List (Nat×Nat)) (i j:Nat):Bool:=
 match ops[i]?,ops[j]? with
 | some oi,some oj=>
   (i != j)&&(match oi.dst,oj.dst with|some d,some e=>d != e|_,_=>true)&&
   ((rm ms j).testBit i||(qOp P oi.op&&(match oi.dst with|some d=>!(oj.looksAt ops).contains d|none=>true)&&(match oj.dst with|some d=>!(oi.looksAt ops).contains d|none=>true)))
 | _,_=>false
def vI (P:Program) (ops:Array Oper) (L:List Nat):Bool:=(List.range ops.size).all L.contains&&Nt ops [] L&&Uq (XL P ops (A6 ops L [])) L
def Sz (ops:Array Oper) (D:Nat→Bool):Prop:=∀ i o,ops[i]?=some o→D i=true→∀ p∈vW o,D p=true
def Ji (ops:Array Oper) (j i:Nat):Prop:=∀ D,Sz ops D→(∀ o,ops[i]?=some o→∀ p∈vW o,D p=true)→D j=true
theorem BJ {ms:List (Nat×Nat)}{j:Nat}:∀ (l:List Nat) (m:Nat),(l.foldl (fun m p=>m ||| 1 <<< p ||| rm ms p) m).testBit j=true→m.testBit j=true∨∃ p∈l,p=j∨(rm ms p).testBit j=true
 | [],m,h=>.inl h
 | p::l,m,h=>by
   rcases BJ l _ h with h|⟨q,hq,h⟩
   ·simp only[Nat.testBit_or,Bool.or_eq_true]at h
    rcases h with (h|h)|h
    ·exact .inl h
    ·refine .inr ⟨p,by simp,.inl ?_⟩
     rw[Nat.one_shiftLeft,Nat.testBit_two_pow]at h
     simpa using h
    ·exact .inr ⟨p,by simp,.inr h⟩
   ·exact .inr ⟨q,by simp[hq],h⟩
theorem yl {ops:Array Oper}:∀ (L:List Nat) (ms:List (Nat×Nat)),(∀ i j,(rm ms i).testBit j=true→Ji ops j i)→∀ i j,(rm (A6 ops L ms) i).testBit j=true→Ji ops j i
 | [],ms,h=>h
 | k::L,ms,h=>by
   refine yl L _ fun i j hb=>?_
   simp only[rm]at hb
   split at hb
   ·rename_i hk
    subst hk
    split at hb
    ·rename_i o ho
     rcases BJ _ _ hb with hb|⟨p,hp,hb⟩
     ·simp at hb
     ·intro D hc hD
      have hp1:=hD o ho p hp
      rcases hb with rfl|hb
      ·exact hp1
      ·exact h p j hb D hc fun o2 ho2=>hc p o2 ho2 hp1
    ·simp at hb
   ·exact h i j hb
theorem Ey {ops:Array Oper}:∀ {L seen:List Nat},Nt ops seen L=true→∀ {A B:List Nat}{i:Nat},L=A++i::B→∃ o,ops[i]?=some o∧∀ p∈vW o,p∈seen∨p∈A
 | [],seen,h,A,B,i,e=>by simp at e
 | k::L,seen,h,A,B,i,e=>by
   simp only[Nt,Bool.and_eq_true]at h
   cases A with
   | nil=>
     simp only[List.nil_append,List.cons.injEq]at e
     obtain⟨rfl,rfl⟩:=e
     have h1:=h.1
     split at h1
     ·rename_i o ho
      exact⟨o,ho,fun p hp=>.inl (by simpa using List.all_eq_true.1 h1 p hp)⟩
     ·cases h1
   | cons a A=>
     simp only[List.cons_append,List.cons.injEq]at e
     obtain⟨rfl,rfl⟩:=e
     obtain⟨o,ho,hp⟩:=Ey h.2 rfl
     refine⟨o,ho,fun p hp'=>?_⟩
     rcases hp p hp' with h|h
     ·simp only[List.mem_cons]at h
      rcases h with rfl|h
      ·exact .inr (by simp)
      ·exact .inl h
     ·exact .inr (by simp[h])
theorem Hu {f:Nat→Nat→Bool}:∀ {L:List Nat},Uq f L=true→∀ {A B:List Nat},L=A++B→∀ i∈A,∀ j∈B,f i j=true
 | [],h,A,B,e,i,hi,j,hj=>by
   have:A=[]∧B=[]:=by simpa using e.symm
   rw[this.1]at hi;cases hi
 | k::L,h,A,B,e,i,hi,j,hj=>by
   simp only[Uq,Bool.and_eq_true]at h
   cases A with
   | nil=>cases hi
   | cons a A=>
     simp only[List.cons_append,List.cons.injEq]at e
     obtain⟨rfl,rfl⟩:=e
     rcases List.mem_cons.1 hi with rfl|hi
     ·exact List.all_eq_true.1 h.1 j (by simp[hj])
     ·exact Hu h.2 rfl i hi j hj
structure Canon (P:Program) (ops:Array Oper) (L:List Nat):Prop where
 all:∀ i o,ops[i]?=some o→i∈L
 order:∀ {A B:List Nat} {i:Nat},L=A++i::B→∃ o,ops[i]?=some o∧∀ p∈vW o,p∈A
 pair:∀ {A B:List Nat},L=A++B→∀ i∈A,∀ j∈B,∀ oi oj,ops[i]?=some oi→ops[j]?=some oj→i≠j∧(∀ d,oi.dst=some d→oj.dst≠some d)∧
  (Ji ops i j∨(qOp P oi.op=true∧(∀ d,oi.dst=some d→d∉oj.looksAt ops)∧(∀ d,oj.dst=some d→d∉oi.looksAt ops)))
theorem X6 {ops:Array Oper}{L:List Nat}(h:vI P ops L=true):Canon P ops L:=by
 simp only[vI,Bool.and_eq_true]at h
 obtain⟨⟨h1,h2⟩,h3⟩:=h
 refine⟨fun i o ho=>?_,fun e=>?_,fun {A B} e i hi j hj oi oj hoi hoj=>?_⟩
 ·have:=List.all_eq_true.1 h1 i (List.mem_range.2 (Array.getElem?_eq_some_iff.1 ho).1)
  simpa using this
 ·obtain⟨o,ho,hp⟩:=Ey h2 e
  exact⟨o,ho,fun p hp'=>(hp p hp').resolve_left (by simp)⟩
 ·have:=Hu h3 e i hi j hj
  simp only[XL,hoi,hoj,Bool.and_eq_true,bne_iff_ne,ne_eq,Bool.or_eq_true]at this
  obtain⟨⟨q1,q2⟩,q3⟩:=this
  refine⟨q1,fun d hd he=>?_,?_⟩
  ·simp[hd,he]at q2
  ·rcases q3 with q3|⟨⟨q3,q4⟩,q5⟩
   ·exact .inl (yl L [] (fun i j hb=>by simp[rm]at hb) _ _ q3)
   ·refine .inr ⟨q3,fun d hd=>?_,fun d hd=>?_⟩
    ·simpa [hd] using q4
    ·simpa [hd] using q5
section
variable {ops:Array Oper}{L:List Nat}(hc:Canon P ops L)
include hc
theorem Canon.closed {C rest:List Nat}(e:L=C++rest):Sz ops C.contains:=by
 intro i o ho hi p hp
 simp only[List.contains_eq_mem,decide_eq_true_eq]at hi ⊢
 obtain⟨A,B,rfl⟩:=List.append_of_mem hi
 obtain⟨o',ho',h⟩:=hc.order (A:=A) (i:=i) (B:=B++rest) (by rw[e];simp)
 rw[ho]at ho';cases ho'
 simp[h p hp]
theorem Canon.must {A B:List Nat}{i j:Nat}(e:L=A++i::B) (m:Ji ops j i):j∈A:=by
 have:=m A.contains (hc.closed e) fun o ho p hp=>by
  obtain⟨o',ho',h⟩:=hc.order e
  rw[ho]at ho';cases ho'
  simpa using h p hp
 simpa using this
theorem Canon.notMem {A B:List Nat}{i:Nat}(e:L=A++i::B):i∉A:=fun hi=>by
 obtain⟨o,ho,_⟩:=hc.order e
 exact (hc.pair e i hi i (by simp) o o ho ho).1 rfl
theorem Canon.uniq {i j:Nat}{oi oj:Oper}{d:Nat}(hi:ops[i]?=some oi) (hj:ops[j]?=some oj) (di:oi.dst=some d) (dj:oj.dst=some d):i=j:=by
 obtain⟨A,B,e⟩:=List.append_of_mem (hc.all i oi hi)
 have hm:=hc.all j oj hj
 rw[e]at hm
 simp only[List.mem_append,List.mem_cons]at hm
 rcases hm with hm|rfl|hm
 ·exact ((hc.pair e j hm i (by simp) oj oi hj hi).2.1 d dj di).elim
 ·rfl
 ·exact ((hc.pair (A:=A++[i]) (B:=B) (by rw[e];simp) i (by simp) j hm oi oj hi hj).2.1 d di dj).elim
theorem Canon.cmp {i j:Nat}{oi oj:Oper}{d:Nat}(hi:ops[i]?=some oi) (hj:ops[j]?=some oj) (di:oi.dst=some d) (lj:d∈oj.looksAt ops):i=j∨Ji ops i j∨Ji ops j i:=by
 obtain⟨A,B,e⟩:=List.append_of_mem (hc.all j oj hj)
 have hm:=hc.all i oi hi
 rw[e]at hm
 simp only[List.mem_append,List.mem_cons]at hm
 rcases hm with hm|rfl|hm
 ·rcases (hc.pair e i hm j (by simp) oi oj hi hj).2.2 with h|h
  ·exact .inr (.inl h)
  ·exact (h.2.1 d di lj).elim
 ·exact .inl rfl
 ·rcases (hc.pair (A:=A++[j]) (B:=B) (by rw[e];simp) j (by simp) i hm oj oi hj hi).2.2 with h|h
  ·exact .inr (.inr h)
  ·exact (h.2.2 d di lj).elim
theorem Canon.self {i:Nat}{o:Oper}(hi:ops[i]?=some o):¬ Ji ops i i:=fun m=>by
 obtain⟨A,B,e⟩:=List.append_of_mem (hc.all i o hi)
 exact hc.notMem e (hc.must e m)
end
def uC (env:Env):List Nat→Env
 | []=>[]
 | s::l=>match get env s with|some v=>(s,v)::uC env l|none=>uC env l
theorem qw {env:Env}:∀ {l:List Nat}{s:Nat},s∈l→get (uC env l) s=get env s
 | k::l,s,h=>by
   simp only[uC]
   split
   ·rename_i v hv
    simp only[get]
    split
    ·rename_i hk;subst hk;exact hv.symm
    ·rename_i hk;exact qw ((List.mem_cons.1 h).resolve_left (Ne.symm hk))
   ·rename_i hv
    rcases List.mem_cons.1 h with rfl|h
    ·by_cases hm:s∈l
     ·exact qw hm
     ·rw[hv]
      have:∀ l:List Nat,s∉l→get (uC env l) s=none:=fun l=>by
       induction l with
       | nil=>intro _;rfl
       | cons k l ih=>
         intro hs
         simp only[List.mem_cons,not_or]at hs
         simp only[uC]
         split
         ·simp only[get,if_neg (Ne.symm hs.1)];exact ih hs.2
         ·exact ih hs.2
      exact this l hm
    ·exact qw h
theorem tj {env:Env}:∀ {l:List Nat}{s:Nat}{v:AV},get (uC env l) s=some v→s∈l
 | [],s,v,h=>by simp[uC,get]at h
 | k::l,s,v,h=>by
   simp only[uC]at h
   split at h
   ·simp only[get]at h
    split at h
    ·rename_i hk;simp[hk]
    ·exact List.mem_cons_of_mem _ (tj h)
   ·exact List.mem_cons_of_mem _ (tj h)
end
end
section
variable [Tabs]
section
variable {P:Program}{n:Nat}{ops:Array Oper}{L:List Nat}
structure Inv (ops:Array Oper) (L:List Nat) (D:Nat→Bool) (C rest:List Nat) (fA env:Env) (G:Gh) (tmps:Array Value):Prop where
 split:L=C++rest
 closed:Sz ops D
 sub:∀ i,D i=true→i∈C
 same:∀ s,(∀ i o,i∈C→ops[i]?=some o→o.dst≠some s)→get env s=get fA s
 old:∀ s v,(∃ i o,ops[i]?=some o∧o.dst=some s∧D i=false)→get fA s=some v→∃ x,tmps[s]?=some x∧Rep G v x
 new:∀ s v,(∀ i o,ops[i]?=some o→o.dst=some s→D i=true)→get env s=some v→∃ x,tmps[s]?=some x∧Rep G v x
structure acM (ops:Array Oper) (i:Nat) (o:Oper) (fA env envq:Env):Prop where
 r1:∀ s∈o.looksAt ops,(∃ (i0:Nat) (o0:Oper),ops[i0]?=some o0∧o0.dst=some s∧Ji ops i0 i)→get envq s=get env s
 r2:∀ s∈o.looksAt ops,(¬ ∃ (i0:Nat) (o0:Oper),ops[i0]?=some o0∧o0.dst=some s∧Ji ops i0 i)→get envq s=get fA s
def ja (ops:Array Oper) (o:Oper) (envq:Env) (b:Bool):Prop:=
 match o.guard with
 | none=>b=true
 | some (j,want)=>∃ sl,(ops[j]?).bind (·.dst)=some sl∧(get envq sl=some (B (b==want))∨(b=false∧get envq sl=some (.tup [])))
structure Known (P:Program) (n:Nat) (ops:Array Oper) (i:Nat) (o:Oper) (fA env:Env) (h:ae) (pend:qU):Prop where
 mk::(out:fM n o.dst=true∧∃ envq v,acM ops i o fA env envq∧(∀ d,o.dst=some d→get env d=some v)∧
  ((ja ops o envq false∧v=.tup [])∨
   (ja ops o envq true∧qOp P o.op=true∧(aop P envq h o fun r h'=>r=v∧h'=h)∧(hOp P o.op=true→(i,fun h2=>aop P envq h2 o fun r _=>r=v)∈pend))))
variable {D:Nat→Bool}{C rest:List Nat}{fA env:Env}{G:Gh}{tmps:Array Value}(hc:Canon P ops L)
include hc
theorem Inv.reads (I:Inv ops L D C rest fA env G tmps) {i:Nat}{o:Oper}(hi:ops[i]?=some o) (hD:D i=false) (hp:∀ p∈vW o,D p=true) {envq:Env}(se:acM ops i o fA env envq):
  EnvRep G (uC envq (o.looksAt ops)) tmps:=by
 intro s v e
 have hs:=tj e
 rw[qw hs]at e
 have hpr:∀ o',ops[i]?=some o'→∀ p∈vW o',D p=true:=fun o' ho'=>by rw[hi]at ho';cases ho';exact hp
 by_cases hw:∃ (i0:Nat) (o0:Oper),ops[i0]?=some o0∧o0.dst=some s∧Ji ops i0 i
 ·have hw':=hw
  obtain⟨i0,o0,h1,h2,h3⟩:=hw'
  refine I.new s v (fun i1 o1 h4 h5=>?_) (by rw[← se.r1 s hs hw];exact e)
  have:=hc.uniq h1 h4 h2 h5
  subst this
  exact h3 D I.closed hpr
 ·rw[se.r2 s hs hw]at e
  by_cases hex:∃ (i0:Nat) (o0:Oper),ops[i0]?=some o0∧o0.dst=some s
  ·obtain⟨i0,o0,h1,h2⟩:=hex
   refine I.old s v ⟨i0,o0,h1,h2,?_⟩ e
   rcases hc.cmp h1 hi h2 hs with rfl|h|h
   ·exact hD
   ·exact (hw ⟨i0,o0,h1,h2,h⟩).elim
   ·cases hd:D i0 with
    | false=>rfl
    | true=>
      have:=h D I.closed fun o' ho' p hp'=>I.closed i0 o' ho' hd p hp'
      rw[hD]at this;cases this
  ·refine I.new s v (fun i1 o1 h4 h5=>(hex ⟨i1,o1,h4,h5⟩).elim) ?_
   rw[I.same s fun i1 o1 _ h4 h5=>hex ⟨i1,o1,h4,h5⟩]
   exact e
theorem Inv.sees (I:Inv ops L D C rest fA env G tmps) {i:Nat}{post:List Nat}(hr:rest=i::post) {o:Oper}(hi:ops[i]?=some o) {env1:Env}(he:∀ s,get env1 s=get env s):acM ops i o fA env env1 where
 r1:=fun s _ _=>he s
 r2:=fun s hs hw=>by
  rw[he,I.same s fun i1 o1 hm h4 h5=>?_]
  have e:L=C++i::post:=by rw[I.split,hr]
  rcases hc.cmp h4 hi h5 hs with rfl|h|h
  ·exact hc.notMem e hm
  ·exact hw ⟨i1,o1,h4,h5,h⟩
  ·obtain⟨A,B,rfl⟩:=List.append_of_mem hm
   have h1:=hc.must (A:=A) (i:=i1) (B:=B++i::post) (by rw[e];simp) h
   have:=hc.notMem e
   simp[h1]at this
theorem Inv.get_put (I:Inv ops L D C rest fA env G tmps) {i:Nat}{post:List Nat}(hr:rest=i::post) {o:Oper}(hi:ops[i]?=some o) {env1:Env}(he:∀ s,get env1 s=get env s) {v:AV}{s:Nat}(hs:o.dst≠some s):
  get (putD env1 o.dst v) s=get env s:=by
 rw[← he s]
 cases hd:o.dst with
 | none=>rfl
 | some d=>rw[hd]at hs;simp only[putD,get,if_neg (fun e=>hs (congrArg some e))]
theorem Inv.grow (I:Inv ops L D C rest fA env G tmps) {i:Nat}{post:List Nat}(hr:rest=i::post) {o:Oper}(hi:ops[i]?=some o) {env1:Env}(he:∀ s,get env1 s=get env s) {v:AV}:
  Inv ops L D (C++[i]) post fA (putD env1 o.dst v) G tmps where
 split:=by rw[I.split,hr];simp
 closed:=I.closed
 sub:=fun j hj=>by simp[I.sub j hj]
 same:=fun s hs=>by
  rw[I.get_put hc hr hi he (hs i o (by simp) hi)]
  exact I.same s fun j oj hj=>hs j oj (by simp[hj])
 old:=I.old
 new:=fun s u hs e=>by
  rw[I.get_put hc hr hi he ?_]at e
  ·exact I.new s u hs e
  ·intro hd
   have:=I.sub i (hs i o hi hd)
   exact hc.notMem (by rw[I.split,hr]) this
omit hc in
theorem Inv.mono (I:Inv ops L D C rest fA env G tmps) {G':Gh}(le:G.le G'):Inv ops L D C rest fA env G' tmps where
 split:=I.split
 closed:=I.closed
 sub:=I.sub
 same:=I.same
 old:=fun s v h e=>let ⟨x,h1,h2⟩:=I.old s v h e;⟨x,h1,Rep.mono le _ _ h2⟩
 new:=fun s v h e=>let ⟨x,h1,h2⟩:=I.new s v h e;⟨x,h1,Rep.mono le _ _ h2⟩
theorem Inv.done (I:Inv ops L D C rest fA env G tmps) {i:Nat}{o:Oper}(hi:ops[i]?=some o) (hm:i∈C) (hp:∀ p∈vW o,D p=true) {D':Nat→Bool}(hD':∀ k,D' k=true↔k=i∨D k=true) {a:Act}(ha:a.tmps=tmps) (hd:fM a.tmps.size o.dst=true)
  {v:AV} (hv:∀ d,o.dst=some d→get env d=some v) {x:Value} (hx:Rep G v x):Inv ops L D' C rest fA env G (a.put o.dst x).tmps:=by
 have keep:∀ s,o.dst≠some s→(a.put o.dst x).tmps[s]?=tmps[s]?:=fun s hs=>by
  rw[← ha]
  cases hdd:o.dst with
  | none=>rfl
  | some d=>rw[hdd]at hs;simp only[Act.put];rw[Array.getElem?_setIfInBounds_ne (fun e=>hs (congrArg some e))]
 refine⟨I.split,?_,?_,I.same,?_,?_⟩
 ·intro k ok hk hDk p hpm
  rcases (hD' k).1 hDk with rfl|hDk
  ·rw[hi]at hk;cases hk
   exact (hD' p).2 (.inr (hp p hpm))
  ·exact (hD' p).2 (.inr (I.closed k ok hk hDk p hpm))
 ·intro k hk
  rcases (hD' k).1 hk with rfl|hk
  ·exact hm
  ·exact I.sub k hk
 ·rintro s u ⟨k,ok,h1,h2,h3⟩ e
  have hne:k≠i∧D k=false:=by
   constructor
   ·rintro rfl
    have:=(hD' k).2 (.inl rfl)
    rw[h3]at this;cases this
   ·cases hDk:D k with
    | false=>rfl
    | true=>have:=(hD' k).2 (.inr hDk);rw[h3]at this;cases this
  rw[keep s fun hds=>hne.1 (hc.uniq h1 hi h2 hds)]
  exact I.old s u ⟨k,ok,h1,h2,hne.2⟩ e
 ·intro s u hs e
  by_cases hds:o.dst=some s
  ·rw[hv s hds]at e
   cases e
   refine⟨x,?_,hx⟩
   rw[hds]
   rw[hds]at hd
   simp only[fM,decide_eq_true_eq]at hd
   simp[Act.put,hd]
  ·rw[keep s hds]
   refine I.new s u (fun k ok h1 h2=>?_) e
   rcases (hD' k).1 (hs k ok h1 h2) with rfl|h
   ·rw[hi]at h1;cases h1;exact (hds h2).elim
   ·exact h
theorem Known.grow (I:Inv ops L D C rest fA env G tmps) {i:Nat}{post:List Nat}(hr:rest=i::post) {o:Oper}(hi:ops[i]?=some o) {env1:Env}(he:∀ s,get env1 s=get env s) {v:AV}{q:Nat}{oq:Oper}(hq:ops[q]?=some oq) (hm:q∈C)
  {h:ae} {pend pend':qU} (hpe:∀ p∈pend,p∈pend') (k:Known P n ops q oq fA env h pend):Known P n ops q oq fA (putD env1 o.dst v) h pend':=by
 obtain⟨hd,envq,vq,se,hv,hk⟩:=k.out
 have e:L=C++i::post:=by rw[I.split,hr]
 refine⟨hd,envq,vq,⟨fun s hs hw=>?_,se.r2⟩,fun d hdd=>?_,?_⟩
 ·rw[se.r1 s hs hw,I.get_put hc hr hi he]
  obtain⟨i0,o0,h1,h2,h3⟩:=hw
  intro hds
  have:=hc.uniq h1 hi h2 hds
  subst this
  obtain⟨A,B,rfl⟩:=List.append_of_mem hm
  have hA:=hc.must (A:=A) (i:=q) (B:=B++i0::post) (by rw[e];simp) h3
  have:=hc.notMem e
  simp[hA]at this
 ·rw[I.get_put hc hr hi he,hv d hdd]
  intro hds
  have:=hc.uniq hq hi hdd hds
  subst this
  exact hc.notMem e hm
 ·exact hk.imp id fun ⟨h1,h2,h3,h4⟩=>⟨h1,h2,h3,fun hh=>hpe _ (h4 hh)⟩
omit hc in
theorem Aw {m:Nat}{h:ae}{k:Prop}:∀ {pend:qU},tk m pend h k→k∧∀ p∈pend,m.testBit p.1=false→p.2 h
 | [],hk=>⟨hk,fun p hp=>by cases hp⟩
 | (q,c)::r,hk=>by
   simp only[tk]at hk
   split at hk
   ·rename_i hb
    obtain⟨h1,h2⟩:=Aw hk
    refine⟨h1,fun p hp hb'=>?_⟩
    rcases List.mem_cons.1 hp with rfl|hp
    ·rw[hb]at hb';cases hb'
    ·exact h2 p hp hb'
   ·obtain⟨hc',hk⟩:=hk
    obtain⟨h1,h2⟩:=Aw hk
    refine⟨h1,fun p hp hb'=>?_⟩
    rcases List.mem_cons.1 hp with rfl|hp
    ·exact hc'
    ·exact h2 p hp hb'
omit hc in
theorem oh {o:Oper}{envq:Env}{b:Bool}{a:Act}(r:EnvRep G (uC envq (o.looksAt ops)) a.tmps) (hg:ja ops o envq b):Region.wanted o (yielded ops a.tmps)=b:=by
 unfold ja at hg
 split at hg
 ·rename_i h0
  subst hg
  simp[Region.wanted,h0]
 ·rename_i j want h0
  obtain⟨sl,h1,h2⟩:=hg
  have hs:sl∈o.looksAt ops:=by simp[Oper.looksAt,h0,h1]
  rw[← qw hs]at h2
  rcases h2 with h2|⟨rfl,h2⟩
  ·rw[uR h0 h1 r h2]
   cases b<;>cases want<;>rfl
  ·exact BZ h0 h1 r h2
end
end
section
variable [Tabs]
section
variable {P:Program}{n:Nat}{ops:Array Oper}{L:List Nat}{ms:List (Nat×Nat)}
theorem JQ {p:Nat}{r:List Nat}{env:Env}{h:ae}{pend:qU}{K:Env→ae→Prop}(k:n9 P n ops ms (p::r) env h pend K):
  ∃ o env1,ops[p]?=some o∧(∀ s,get env1 s=get env s)∧
    ((ja ops o env1 true∧qN P n (rm ms p) p o env1 h pend fun env' h' pend'=>n9 P n ops ms r env' h' pend' K)∨
     (ja ops o env1 false∧fM n o.dst=true∧n9 P n ops ms r (putD env1 o.dst (.tup [])) h pend K)):=by
 unfold n9 at k
 split at k
 ·exact k.elim
 ·rename_i o ho
  split at k
  ·rename_i hg
   exact⟨o,env,ho,fun _=>rfl,.inl ⟨by simp[ja,hg],k⟩⟩
  ·rename_i j want hg
   split at k
   ·exact k.elim
   ·rename_i s hs
    obtain⟨v,hv,k⟩:=aH k
    have same:∀ {u:AV},v=u→∀ t,get ((s,u)::env) t=get env t:=fun e t=>by
     simp only[get];split
     ·rename_i h;subst h;rw[hv,e]
     ·rfl
    replace k:=KZ k
    rcases k with ⟨e,k⟩|⟨e,k⟩|⟨e,k⟩
    ·refine⟨o,(s,B true)::env,ho,same e,?_⟩
     cases want
     ·simp only[Bool.false_eq_true,if_false]at k
      split at k
      ·exact .inr ⟨by simp only[ja,hg];exact⟨s,hs,.inl (by simp[get])⟩,‹_›,k⟩
      ·exact k.elim
     ·simp only[if_true]at k
      exact .inl ⟨by simp only[ja,hg];exact⟨s,hs,.inl (by simp[get])⟩,k⟩
    ·refine⟨o,(s,B false)::env,ho,same e,?_⟩
     cases want
     ·simp only[Bool.false_eq_true,if_false]at k
      exact .inl ⟨by simp only[ja,hg];exact⟨s,hs,.inl (by simp[get])⟩,k⟩
     ·simp only[if_true]at k
      split at k
      ·exact .inr ⟨by simp only[ja,hg];exact⟨s,hs,.inl (by simp[get])⟩,‹_›,k⟩
      ·exact k.elim
    ·refine⟨o,(s,.tup [])::env,ho,same e,?_⟩
     split at k
     ·exact .inr ⟨by simp only[ja,hg];exact⟨s,hs,.inr ⟨by simp,by simp[get]⟩⟩,‹_›,k⟩
     ·exact k.elim
variable {D:Nat→Bool}{fA:Env}{G:Gh}{tmps:Array Value}{h:ae}{K:Env→ae→Prop}(hc:Canon P ops L)
include hc
theorem tq {env:Env}{d:Nat}{o:Option Tmp}(h:o=some d) (v:AV):get (putD env o v) d=some v:=by subst h;simp[putD,get]
theorem TO {i:Nat}{oi:Oper}(hi:ops[i]?=some oi) (hD:D i=false) (hp:∀ p∈vW oi,D p=true):∀ (rest C:List Nat) (env:Env) (pend:qU),Inv ops L D C rest fA env G tmps→n9 P n ops ms rest env h pend K→
  (∀ q∈C,D q=false→∀ oq,ops[q]?=some oq→Known P n ops q oq fA env h pend)→
  ∃ C' rest' env' pend',Inv ops L D C' rest' fA env' G tmps∧n9 P n ops ms rest' env' h pend' K∧(∀ q∈C',D q=false→∀ oq,ops[q]?=some oq→Known P n ops q oq fA env' h pend')∧(i∈C'∨∃ post,rest'=i::post∧qOp P oi.op=false)
 | [],C,env,pend,I,k,kn=>by
   refine⟨C,[],env,pend,I,k,kn,.inl ?_⟩
   have:=hc.all i oi hi
   rw[I.split]at this
   simpa using this
 | p::r,C,env,pend,I,k,kn=>by
   by_cases hm:i∈C
   ·exact⟨C,p::r,env,pend,I,k,kn,.inl hm⟩
   have k0:=k
   obtain⟨o,env1,ho,hsame,k⟩:=JQ k
   by_cases hq:qOp P o.op=true
   ·-- one that changes nothing
    have fin:∀ (v:AV) (pend':qU),(∀ x∈pend,x∈pend')→fM n o.dst=true→n9 P n ops ms r (putD env1 o.dst v) h pend' K→
      ((ja ops o env1 false∧v=.tup [])∨(ja ops o env1 true∧qOp P o.op=true∧(aop P env1 h o fun r h'=>r=v∧h'=h)∧(hOp P o.op=true→(p,fun h2=>aop P env1 h2 o fun r _=>r=v)∈pend')))→
      ∃ C' rest' env' pend',Inv ops L D C' rest' fA env' G tmps∧n9 P n ops ms rest' env' h pend' K∧(∀ q∈C',D q=false→∀ oq,ops[q]?=some oq→Known P n ops q oq fA env' h pend')∧(i∈C'∨∃ post,rest'=i::post∧qOp P oi.op=false):=by
     intro v pend' hpe hd k hk
     refine TO hi hD hp r (C++[p]) (putD env1 o.dst v) pend' (I.grow hc rfl ho hsame) k fun q hqm hqD oq hoq=>?_
     rcases List.mem_append.1 hqm with hqm|hqm
     ·exact (kn q hqm hqD oq hoq).grow hc I rfl ho hsame hoq hqm hpe
     ·have:q=p:=by simpa using hqm
      subst this
      rw[ho]at hoq;cases hoq
      have se:=I.sees hc rfl ho hsame
      have e:L=C++q::r:=I.split
      refine⟨hd,env1,v,⟨fun s hs hw=>?_,se.r2⟩,fun d hdd=>tq hc hdd v,hk⟩
      rw[I.get_put hc rfl ho hsame,hsame]
      intro hds
      obtain⟨i0,o0,h1,h2,h3⟩:=hw
      have:=hc.uniq h1 ho h2 hds
      subst this
      exact hc.self ho h3
    rcases k with ⟨hg,k⟩|⟨hg,hd,k⟩
    ·unfold qN at k
     by_cases hd:fM n o.dst=true
     ·rw[if_pos hd,if_pos hq]at k
      obtain⟨v,k1,k2⟩:=Ur hq k
      refine fin v _ (fun x hx=>?_) hd k1 (.inr ⟨hg,hq,k2,fun hh=>?_⟩)
      ·split
       ·exact List.mem_cons_of_mem _ hx
       ·exact hx
      ·rw[if_pos hh];simp
     ·rw[if_neg hd]at k;exact k.elim
    ·exact fin (.tup []) pend (fun _ h=>h) hd k (.inl ⟨hg,rfl⟩)
   ·by_cases hpi:p=i
    ·subst hpi
     rw[hi]at ho;cases ho
     exact⟨C,p::r,env,pend,I,k0,kn,.inr ⟨r,rfl,by simpa using hq⟩⟩
    ·exfalso
     have hir:i∈r:=by
      have:=hc.all i oi hi
      rw[I.split]at this
      simp only[List.mem_append,List.mem_cons]at this
      rcases this with h|h|h
      ·exact (hm h).elim
      ·exact (hpi h.symm).elim
      ·exact h
     rcases (hc.pair (A:=C++[p]) (B:=r) (by rw[I.split];simp) p (by simp) i hir o oi ho hi).2.2 with h|h
     ·have:=h D I.closed fun o' ho' p' hp'=>by rw[hi]at ho';cases ho';exact hp p' hp'
      exact hc.notMem I.split (I.sub p this)
     ·exact hq h.1
theorem TR {Q:Exit→Act→World→Prop}{next:Act→World→Prop}{o:Oper}{envq:Env}{a:Act}{w:World}{K':QT}(s:Sim G h w) (r:EnvRep G (uC envq (o.looksAt ops)) a.tmps) (k:aop P envq h o K')
  (hnext:∀ v x h' G' w',Rep G' v x→K' v h'→Sim G' h' w'→Evo G h w G' h' w'→next (a.put o.dst x) w'):o.wp P a w next Q:=by
 have k':aop P (uC envq (o.looksAt ops)) h o K':=by
  rw[Vf (env':=envq)]
  ·exact k
  ·intro t ht
   exact qw (List.mem_append_left _ ht)
 unfold Oper.wp
 refine Ei ?_
 have:=Zb s r k'
 unfold UpV at this ⊢
 split at this
 ·obtain⟨v,h',G',q1,q2,q3,q4⟩:=this;exact hnext _ _ _ _ _ q1 q2 q3 q4
 ·obtain⟨v,h',G',q1,q2,q3,q4⟩:=this;exact hnext _ _ _ _ _ q1 q2 q3 q4
 ·exact Calls.mono this fun e w'' ⟨x,he,hv⟩=>⟨x,he,by obtain⟨v,h',G',q1,q2,q3,q4⟩:=hv;exact hnext _ _ _ _ _ q1 q2 q3 q4⟩
 ·exact this.elim
omit hc in
theorem QM {p:Nat→Prop}:∀ {L:List Nat},(∃ x∈L,p x)→∃ A i B,L=A++i::B∧p i∧∀ x∈A,¬ p x
 | [],h=>by obtain⟨x,hx,_⟩:=h;cases hx
 | y::L,h=>by
   by_cases hy:p y
   ·exact⟨[],y,L,rfl,hy,fun x hx=>by cases hx⟩
   ·obtain⟨x,hx,hpx⟩:=h
    rcases List.mem_cons.1 hx with rfl|hx
    ·exact (hy hpx).elim
    ·obtain⟨A,i,B,rfl,h1,h2⟩:=QM ⟨x,hx,hpx⟩
     refine⟨y::A,i,B,rfl,h1,fun x hx=>?_⟩
     rcases List.mem_cons.1 hx with rfl|hx
     ·exact hy
     ·exact h2 x hx
theorem TD {C rest:List Nat}{env:Env}{pend:qU}(I:Inv ops L D C rest fA env G tmps) (hall:∀ i o,ops[i]?=some o→D i=true) (k:n9 P n ops ms rest env h pend K):K env h∧EnvRep G env tmps:=by
 refine⟨?_,fun s v e=>I.new s v (fun i o hi _=>hall i o hi) e⟩
 cases rest with
 | nil=>exact k
 | cons p r=>
   exfalso
   obtain⟨o,ho,_⟩:=hc.order I.split
   exact hc.notMem I.split (I.sub p (hall p o ho))
theorem ZG (hms:ms=A6 ops L []) {h0:ae}{G0:Gh}{w0:World}{Df:List Deferred}{Q:Exit→Act→World→Prop}(hq:∀ a' w',ME G0 h0 w0 n Df K a' w'→Q .normal a' w'):
  ∀ (fuel:Nat) (listed:Array Bool) (a:Act) (w:World) (G:Gh) (h:ae) (C rest:List Nat) (env:Env) (pend:qU) (U:List Nat),listed.size=ops.size→
    Inv ops L (fun k=>listed.getD k false) C rest fA env G a.tmps→(∀ q∈C,listed.getD q false=false→∀ oq,ops[q]?=some oq→Known P n ops q oq fA env h pend)→Sim G h w→a.tmps.size=n→a.defers=Df→Evo G0 h0 w0 G h w→
    n9 P n ops ms rest env h pend K→U.length≤fuel→(∀ i,i<ops.size→listed.getD i false=false→i∈U)→wpAny P .any ops Q fuel listed a w:=by
 intro fuel
 induction fuel with
 | zero=>
   intro listed a w G h C rest env pend U hsz I kn s hn hdf ev k hU hUm
   have hU0:U=[]:=by simpa using hU
   subst hU0
   have hall:∀ i o,ops[i]?=some o→listed.getD i false=true:=fun i o ho=>by
    cases hd:listed.getD i false with
    | true=>rfl
    | false=>have:=hUm i (Array.getElem?_eq_some_iff.1 ho).1 hd;cases this
   obtain⟨k1,k2⟩:=TD hc I hall k
   refine⟨?_,hq a w ⟨env,h,G,k1,s,ev,k2,hn,hdf⟩⟩
   apply List.eq_nil_iff_forall_not_mem.2
   intro i hi
   obtain⟨hi0,o,ho,_⟩:=mem_ready.1 hi
   have h1:=hall i o ho
   have hlt:i<listed.size:=by rw[hsz];exact (Array.getElem?_eq_some_iff.1 ho).1
   simp[hlt]at hi0 h1
   rw[hi0]at h1;cases h1
 | succ fuel ih=>
   intro listed a w G h C rest env pend U hsz I kn s hn hdf ev k hU hUm
   refine⟨fun hr=>?_,fun i hir=>?_⟩
   ·-- nothing is ready: all is done
    have hall:∀ i o,ops[i]?=some o→listed.getD i false=true:=fun i o ho=>by
     cases hd:listed.getD i false with
     | true=>rfl
     | false=>
       exfalso
       obtain⟨A,j,B,e,h1,h2⟩:=QM (p:=fun k=>listed.getD k false=false) ⟨i,hc.all i o ho,hd⟩
       obtain⟨oj,hj,hpj⟩:=hc.order e
       have:j∈Region.ready .any ops listed:=mem_ready.2 ⟨by
        have hlt:j<listed.size:=by rw[hsz];exact (Array.getElem?_eq_some_iff.1 hj).1
        simp[hlt]at h1 ⊢;exact h1,oj,hj,fun e he hb=>by
         have:=h2 e.on (hpj e.on (List.mem_map.2 ⟨e,List.mem_filter.2 ⟨by simpa using he,hb⟩,rfl⟩))
         simpa using this⟩
       rw[hr]at this;cases this
    obtain⟨k1,k2⟩:=TD hc I hall k
    exact hq a w ⟨env,h,G,k1,s,ev,k2,hn,hdf⟩
   ·obtain⟨hi0,o,ho,hpre⟩:=mem_ready.1 hir
    have hlt:i<listed.size:=by rw[hsz];exact (Array.getElem?_eq_some_iff.1 ho).1
    have hD:listed.getD i false=false:=by simp[hlt]at hi0 ⊢;exact hi0
    have hp:∀ p∈vW o,listed.getD p false=true:=fun p hp=>by
     obtain⟨e,he,rfl⟩:=List.mem_map.1 hp
     obtain⟨he1,he2⟩:=List.mem_filter.1 he
     exact hpre e (by simpa using he1) he2
    obtain⟨C',rest',env',pend',I',k',kn',hcase⟩:=TO hc ho hD hp rest C env pend I k kn
    have hD':∀ k,(listed.setIfInBounds i true).getD k false=true↔k=i∨listed.getD k false=true:=fun k=>by
     by_cases hki:i=k
     ·subst hki;simp[hlt]
     ·rw[getD_set_ne false hki];simp[Ne.symm hki]
    have hDf:∀ k,(listed.setIfInBounds i true).getD k false=false→k≠i∧listed.getD k false=false:=fun k hk=>by
     have:=hD' k
     rw[hk]at this
     simp only[Bool.false_eq_true,false_iff,not_or,Bool.not_eq_true]at this
     exact this
    have hU':(U.erase i).length≤fuel:=by
     have:=hUm i (by rw[← hsz];exact hlt) hD
     rw[List.length_erase_of_mem this];omega
    have hUm':∀ j,j<ops.size→(listed.setIfInBounds i true).getD j false=false→j∈U.erase i:=fun j hj hjD=>by
     obtain⟨q1,q2⟩:=hDf j hjD
     exact (List.mem_erase_of_ne q1).2 (hUm j hj q2)
    unfold wpOp
    simp only[ho]
    rcases hcase with hm|⟨post,rfl,hnq⟩
    ·-- vT already
     obtain⟨hd,envq,v,se,hv,hk⟩:=(kn' i hm hD o ho).out
     have hr:=I'.reads hc ho hD hp se
     have go:∀ (x:Value) (G':Gh) (w':World),Rep G' v x→Sim G' h w'→Evo G h w G' h w'→wpAny P .any ops Q fuel (listed.setIfInBounds i true) (a.put o.dst x) w':=fun x G' w' hx s' ev'=>
      ih _ _ w' G' h C' rest' env' pend' (U.erase i) (by simp[hsz]) ((I'.mono ev'.le).done hc ho hm hp hD' rfl (by rw[hn];exact hd) hv hx)
       (fun q hqm hqD oq hoq=>kn' q hqm (hDf q hqD).2 oq hoq) s' (by rw[AL.put_size,hn]) (by rw[AL.put_defers,hdf]) (ev.trans ev') k' hU' hUm'
     rcases hk with ⟨hg,rfl⟩|⟨hg,hqo,hk,_⟩
     ·rw[oh hr hg]
      simp only[Bool.false_eq_true,if_false]
      exact go undef G w (by simp[Rep,RepL,undef]) s (Evo.refl _ _ _)
     ·rw[oh hr hg]
      simp only[if_true]
      refine .inl (TR (G:=G) (h:=h) hc s hr hk fun v' x h' G' w' hx hk' s' ev'=>?_)
      obtain⟨rfl,rfl⟩:=hk'
      exact go x G' w' hx s' ev'
    ·-- the next one in the order
     obtain⟨o',env1,ho',hsame,k'⟩:=JQ k'
     rw[ho]at ho';cases ho'
     have se:=I'.sees hc rfl ho hsame
     have hr:=I'.reads hc ho hD hp se
     have grown:∀ {v:AV} {q:Nat} {oq:Oper} {pend2:qU},ops[q]?=some oq→q∈C'++[i]→(listed.setIfInBounds i true).getD q false=false→Known P n ops q oq fA (putD env1 o.dst v) h pend':=fun {v q oq pend2} hoq hqm hqD=>by
      obtain⟨q1,q2⟩:=hDf q hqD
      have hqm:q∈C':=by
       rcases List.mem_append.1 hqm with h|h
       ·exact h
       ·exact (q1 (by simpa using h)).elim
      exact (kn' q hqm q2 oq hoq).grow hc I' rfl ho hsame hoq hqm fun _ h=>h
     rcases k' with ⟨hg,k'⟩|⟨hg,hd,k'⟩
     ·rw[oh hr hg]
      simp only[if_true]
      unfold qN at k'
      by_cases hd:fM n o.dst=true
      ·rw[if_pos hd,if_neg (by simp[hnq])]at k'
       refine .inl (TR (G:=G) (h:=h) hc s hr k' fun v x h' G' w' hx hk' s' ev'=>?_)
       obtain⟨hk1,hk2⟩:=Aw hk'
       have I2:=((I'.grow hc rfl ho hsame (v:=v)).mono ev'.le).done hc ho (by simp) hp hD' (a:=a) rfl (by rw[hn];exact hd) (fun d hdd=>tq hc hdd v) hx
       refine ih _ _ w' G' h' _ post _ pend' (U.erase i) (by simp[hsz]) I2 (fun q hqm hqD oq hoq=>?_) s' (by rw[AL.put_size,hn]) (by rw[AL.put_defers,hdf]) (ev.trans ev') hk1 hU' hUm'
       obtain⟨hdq,envq,vq,seq,hvq,hkq⟩:=(grown (v:=v) (pend2:=pend') hoq hqm hqD).out
       refine⟨hdq,envq,vq,seq,hvq,?_⟩
       rcases hkq with hkq|⟨g1,g2,g3,g4⟩
       ·exact .inl hkq
       ·refine .inr ⟨g1,g2,?_,g4⟩
        have up:∀ (k:aop P envq h' oq fun r _=>r=vq),aop P envq h' oq fun r h''=>r=vq∧h''=h':=fun k=>by
         obtain⟨v2,e,k2⟩:=Ur g2 k
         subst e;exact k2
        by_cases hh:hOp P oq.op=true
        ·refine up (hk2 _ (g4 hh) ?_)
         cases hb:(rm ms i).testBit q with
         | false=>rfl
         | true=>
           exfalso
           rw[hms]at hb
           have hmust:=yl L [] (fun i j hb=>by simp[rm]at hb) i q hb
           have:=hmust (fun k=>listed.getD k false) I'.closed fun o' ho' p hp'=>by rw[ho]at ho';cases ho';exact hp p hp'
           simp only[(hDf q hqD).2]at this
           cases this
        ·exact up (YV g2 (by simpa using hh) (lq (fun v h e=>e.1) g3))
      ·rw[if_neg hd]at k';exact k'.elim
     ·rw[oh hr hg]
      simp only[Bool.false_eq_true,if_false]
      have I2:=(I'.grow hc rfl ho hsame (v:=.tup [])).done hc ho (by simp) hp hD' (a:=a) rfl (by rw[hn];exact hd) (fun d hdd=>tq hc hdd _) (x:=undef) (by simp[Rep,RepL,undef])
      exact ih _ _ w G h _ post _ pend' (U.erase i) (by simp[hsz]) I2 (fun q hqm hqD oq hoq=>grown (pend2:=pend') hoq hqm hqD) s (by rw[AL.put_size,hn]) (by rw[AL.put_defers,hdf]) ev k' hU' hUm'
end
section
variable {P:Program}{n:Nat}
theorem Kc (m i:Nat):(Array.replicate m false).getD i false=false:=by
 rw[Array.getD_eq_getD_getElem?,Array.getElem?_replicate]
 split<;>rfl
theorem KU {id:Nat}{ops:Array Oper}{L:List Nat}{env:Env}{h:ae}{K:Exit→Env→ae→Prop}(hm:P.follows .mixedOrders=true) (hok:vI P ops L=true)
  (k:n9 P n ops (A6 ops L []) L env h [] fun env' h'=>K .normal env' h'):AWp P n (.region id ops true) env h K:=by
 intro G w a s hn r
 have hc:=X6 hok
 refine wp_region_any hm ?_
 have s':Sim G h { w with drawn:=w.drawn+1 }:=(s.drawn _).1
 have ev:Evo G h w G h { w with drawn:=w.drawn+1 }:=⟨Gh.le.refl G,Nat.le_refl _,rfl,rfl,rfl,fun _ _ _=>rfl,fun _ h=>.inl h,fun _ _ _ h=>.inl h⟩
 refine ZG (fA:=env) hc rfl (G0:=G) (h0:=h) (w0:=w) (Df:=a.defers) (K:=fun env' h'=>K .normal env' h') (fun a' w' p=>p) ops.size _ a _ G h [] L env [] (List.range ops.size) (by simp) ⟨rfl,?_,?_,?_,?_,?_⟩ ?_ s' hn rfl ev k (by simp) (fun i hi _=>List.mem_range.2 hi)
 ·intro i o ho hd p hp
  have:=(Kc ops.size i).symm.trans hd;cases this
 ·intro i hd
  have:=(Kc ops.size i).symm.trans hd;cases this
 ·exact fun s _=>rfl
 ·exact fun s v _ e=>r s v e
 ·exact fun s v _ e=>r s v e
 ·intro q hq;cases hq
end
end
section
variable [Tabs]
section
variable {P:Program}{G:Gh}{h:ae}{w:World}{n:Nat}
def den (P:Program) (n:Nat) (pl:Ns):Code→Env→ae→(Exit→Env→ae→Prop)→Prop
 | .skip,env,h,K=>K .normal env h
 | .ret,env,h,K=>K .ret env h
 | .exit id,env,h,K=>K (.exit id) env h
 | .goto l,env,h,K=>K (.goto l) env h
 | .label _,env,h,K=>K .normal env h
 | .region _ ops false,env,h,K=>jz P n ops (List.range ops.size) env h fun env' h'=>K .normal env' h'
 | .region id ops true,env,h,K=>match Sr pl (1000000+id) with
   | some (l,_)=>if (P.follows .mixedOrders&&vI P ops l)=true then n9 P n ops (A6 ops l []) l env h [] fun env' h'=>K .normal env' h' else False
   | none=>False
 | .seq x y,env,h,K=>den P n pl x env h fun e env' h'=>match e with|.normal=>den P n pl y env' h' K|e=>K e env' h'
 | .cond c x y,env,h,K=>bV (opv env c) fun v=>ifB v (den P n pl x env h K) (den P n pl y env h K)
 | .block id c,env,h,K=>den P n pl c env h fun e env' h'=>match e with|.exit i=>if i=id then K .normal env' h' else K (.exit i) env' h'|e=>K e env' h'
 | .loop c,env,h,K=>match Sr pl (rK c) with
   | some (ws,ks)=>if Rg c ws ks=true then adk ws ks (fun env' h' K'=>den P n pl c env' h' K') env h K else False
   | none=>False
 | _,_,_,_=>False
end
section
variable {P:Program}{n:Nat}{pl:Ns}
theorem wO:∀ {ks:List Nat}{vs pre ws:List AV}{env env':Env}{s:Nat}{a:AV},vs=pre++ws→Fo env' ks=some ws→get (mZ vs pre.length ks++env) s=some a→get env' s=some a∨get env s=some a
 | [],vs,pre,ws,env,env',s,a,hv,h,e=>.inr (by simpa [mZ] using e)
 | k::ks,vs,pre,ws,env,env',s,a,hv,h,e=>by
   simp only[Fo]at h
   split at h
   ·rename_i v vs' h1 h2
    cases h
    simp only[mZ,List.cons_append,get]at e
    split at e
    ·rename_i hk
     subst hk
     subst hv
     simp[aq]at e
     subst e
     exact .inl h1
    ·exact wO (vs:=vs) (pre:=pre++[v]) (ws:=vs') (by rw[hv];simp) h2 (by simpa using e)
   ·cases h
theorem Wi {ks:List Nat}{vs:List AV}{env env':Env}(h:Fo env ks=some vs) (k:∀ s a,get env' s=some a→get env s=some a) (s:Nat) (a:AV) (e:get (mZ vs 0 ks++env') s=some a):get env s=some a:=
 (wO (pre:=[]) (by simp) h e).elim id (k s a)
def Keep (ws:List Nat) (env env':Env):Prop:=∀ s,s∉ws→get env' s=get env s
theorem Keep.refl (ws:List Nat) (env:Env):Keep ws env env:=fun _ _=>rfl
theorem Keep.trans {ws:List Nat}{a b c:Env}(x:Keep ws a b) (y:Keep ws b c):Keep ws a c:=fun s hs=>(y s hs).trans (x s hs)
theorem Keep.mono {ws ws':List Nat}{a b:Env}(x:Keep ws a b) (h:∀ s,s∈ws→s∈ws'):Keep ws' a b:=fun s hs=>x s fun m=>hs (h s m)
theorem Keep.putD {ws:List Nat}(env:Env) {d:Option Tmp}(v:AV) (h:∀ s,d=some s→s∈ws):Keep ws env (putD env d v):=fun s hs=>by
 cases d with
 | none=>rfl
 | some d=>
   simp only[AL.putD,get]
   rw[if_neg (fun e=>by subst e;exact hs (h d rfl))]
theorem Keep.know {ws:List Nat}(env:Env) {s:Nat}(v:AV) (h:s∈ws):Keep ws env ((s,v)::env):=fun k hk=>by
 simp only[get]
 rw[if_neg (fun e=>by subst e;exact hk h)]
def Fs (ops:Array Oper):List Nat:=ops.toList.filterMap (·.dst)
theorem Bn {ops:Array Oper}{i s:Nat}{o:Oper}(ho:ops[i]?=some o) (hd:o.dst=some s):s∈Fs ops:=by
 simp only[Fs,List.mem_filterMap]
 exact⟨o,Array.mem_toList_iff.2 (Array.mem_of_getElem? ho),hd⟩
theorem He {env:Env}{h:ae}{o:Oper}{K K':Env→ae→Prop}(hk:∀ v h',K (putD env o.dst v) h'→K' (putD env o.dst v) h') (k:qH P n env h o K):qH P n env h o K':=by
 unfold qH at *
 split at k
 ·rename_i hd;rw[if_pos hd];exact lq (fun v h' k=>hk v h' k) k
 ·exact k.elim
theorem vM (ops:Array Oper):∀ (l:List Nat) (env:Env) (h:ae) (K K':Env→ae→Prop),(∀ env' h',Keep (Fs ops) env env'→K env' h'→K' env' h')→jz P n ops l env h K→jz P n ops l env h K'
 | [],env,h,K,K',hk,k=>hk env h (Keep.refl _ _) k
 | i::rest,env,h,K,K',hk,k=>by
   unfold jz at *
   split at k
   ·exact k.elim
   ·rename_i o ho
    have hd:∀ s,o.dst=some s→s∈Fs ops:=fun s e=>Bn ho e
    have go:∀ {env1:Env},Keep (Fs ops) env env1→qH P n env1 h o (fun env' h'=>jz P n ops rest env' h' K)→qH P n env1 h o (fun env' h'=>jz P n ops rest env' h' K'):=fun hk1 k=>
     He (fun v h' k=>vM ops rest _ h' K K' (fun env2 h2 hk2 k2=>hk env2 h2 ((hk1.trans (Keep.putD _ v hd)).trans hk2) k2) k) k
    have skip:∀ {env1:Env},Keep (Fs ops) env env1→jz P n ops rest (putD env1 o.dst (.tup [])) h K→jz P n ops rest (putD env1 o.dst (.tup [])) h K':=fun hk1 k=>
     vM ops rest _ h K K' (fun env2 h2 hk2 k2=>hk env2 h2 ((hk1.trans (Keep.putD _ _ hd)).trans hk2) k2) k
    split at k
    ·exact go (Keep.refl _ _) k
    ·rename_i j want hg
     split at k
     ·exact k.elim
     ·rename_i sl hsl
      have hs:sl∈Fs ops:=by
       cases hj:ops[j]? with
       | none=>simp[hj]at hsl
       | some oj=>rw[hj]at hsl;exact Bn hj (by simpa using hsl)
      refine bm (fun v k=>QA ?_ ?_ ?_ k) _ k
      ·intro k
       split at k
       ·rename_i hw;rw[if_pos hw];exact go (Keep.know _ _ hs) k
       ·rename_i hw
        rw[if_neg hw]
        split at k
        ·rename_i hd;rw[if_pos hd];exact skip (Keep.know _ _ hs) k
        ·exact k.elim
      ·intro k
       split at k
       ·rename_i hw
        rw[if_pos hw]
        split at k
        ·rename_i hd;rw[if_pos hd];exact skip (Keep.know _ _ hs) k
        ·exact k.elim
       ·rename_i hw;rw[if_neg hw];exact go (Keep.know _ _ hs) k
      ·intro k
       split at k
       ·rename_i hd;rw[if_pos hd];exact skip (Keep.know _ _ hs) k
       ·exact k.elim
theorem ym {m:Nat}{h:ae}{k k':Prop}(hk:k→k'):∀ {pend:qU},tk m pend h k→tk m pend h k'
 | [],x=>hk x
 | (q,c)::r,x=>by
   simp only[tk]at x ⊢
   split at x
   ·rename_i hb;rw[if_pos hb];exact ym hk x
   ·rename_i hb;rw[if_neg hb];exact⟨x.1,ym hk x.2⟩
theorem Iu {m i:Nat}{env:Env}{h:ae}{o:Oper}{pend:qU}{K K':Env→ae→qU→Prop}(hk:∀ v h' pend',K (putD env o.dst v) h' pend'→K' (putD env o.dst v) h' pend') (k:qN P n m i o env h pend K):qN P n m i o env h pend K':=by
 unfold qN at *
 by_cases hd:fM n o.dst=true
 ·rw[if_pos hd]at k ⊢
  by_cases hq:qOp P o.op=true
  ·rw[if_pos hq]at k ⊢;exact lq (fun v h' k=>hk v h' _ k) k
  ·rw[if_neg hq]at k ⊢;exact lq (fun v h' k=>ym (hk v h' _) k) k
 ·rw[if_neg hd]at k;exact k.elim
theorem yY (ops:Array Oper) (ms:List (Nat×Nat)):∀ (l:List Nat) (env:Env) (h:ae) (pend:qU) (K K':Env→ae→Prop),(∀ env' h',Keep (Fs ops) env env'→K env' h'→K' env' h')→n9 P n ops ms l env h pend K→n9 P n ops ms l env h pend K'
 | [],env,h,pend,K,K',hk,k=>hk env h (Keep.refl _ _) k
 | i::rest,env,h,pend,K,K',hk,k=>by
   unfold n9 at *
   split at k
   ·exact k.elim
   ·rename_i o ho
    have hd:∀ s,o.dst=some s→s∈Fs ops:=fun s e=>Bn ho e
    have go:∀ {env1:Env},Keep (Fs ops) env env1→qN P n (rm ms i) i o env1 h pend (fun env' h' pend'=>n9 P n ops ms rest env' h' pend' K)→qN P n (rm ms i) i o env1 h pend (fun env' h' pend'=>n9 P n ops ms rest env' h' pend' K'):=fun hk1 k=>
     Iu (fun v h' pend' k=>yY ops ms rest _ h' pend' K K' (fun env2 h2 hk2 k2=>hk env2 h2 ((hk1.trans (Keep.putD _ v hd)).trans hk2) k2) k) k
    have skip:∀ {env1:Env},Keep (Fs ops) env env1→n9 P n ops ms rest (putD env1 o.dst (.tup [])) h pend K→n9 P n ops ms rest (putD env1 o.dst (.tup [])) h pend K':=fun hk1 k=>
     yY ops ms rest _ h pend K K' (fun env2 h2 hk2 k2=>hk env2 h2 ((hk1.trans (Keep.putD _ _ hd)).trans hk2) k2) k
    split at k
    ·exact go (Keep.refl _ _) k
    ·rename_i j want hg
     split at k
     ·exact k.elim
     ·rename_i sl hsl
      have hs:sl∈Fs ops:=by
       cases hj:ops[j]? with
       | none=>simp[hj]at hsl
       | some oj=>rw[hj]at hsl;exact Bn hj (by simpa using hsl)
      refine bm (fun v k=>QA ?_ ?_ ?_ k) _ k
      ·intro k
       split at k
       ·rename_i hw;rw[if_pos hw];exact go (Keep.know _ _ hs) k
       ·rename_i hw
        rw[if_neg hw]
        split at k
        ·rename_i hd;rw[if_pos hd];exact skip (Keep.know _ _ hs) k
        ·exact k.elim
      ·intro k
       split at k
       ·rename_i hw
        rw[if_pos hw]
        split at k
        ·rename_i hd;rw[if_pos hd];exact skip (Keep.know _ _ hs) k
        ·exact k.elim
       ·rename_i hw;rw[if_neg hw];exact go (Keep.know _ _ hs) k
      ·intro k
       split at k
       ·rename_i hd;rw[if_pos hd];exact skip (Keep.know _ _ hs) k
       ·exact k.elim
theorem nh {ws:List Nat}:∀ {env:Env}{s:Nat}{a:AV},get (jg ws env) s=some a→s∉ws
 | [],s,a,e=>by simp[jg,get]at e
 | (k,v)::env,s,a,e=>by
   simp only[jg,List.filter_cons]at e
   split at e
   ·rename_i hc
    simp only[get]at e
    split at e
    ·rename_i hk;subst hk;simpa using hc
    ·exact nh (env:=env) e
   ·exact nh (env:=env) e
theorem xr {ws:List Nat}{s:Nat}(hs:s∉ws):∀ (env:Env),get (jg ws env) s=get env s
 | []=>rfl
 | (k,v)::env=>by
   simp only[jg,List.filter_cons]
   have ih:=xr hs env
   simp only[jg]at ih
   split
   ·simp only[get,ih]
   ·rename_i hc
    have hne:k≠s:=fun e=>by subst e;simp at hc;exact hs hc
    simp only[get,if_neg hne,ih]
theorem rq:∀ {ks:List Nat}{vs:List AV}{i:Nat}{env:Env}{s:Nat},s∉ks→get (mZ vs i ks++env) s=get env s
 | [],vs,i,env,s,_=>by simp[mZ]
 | k::ks,vs,i,env,s,h=>by
   simp only[List.mem_cons,not_or]at h
   simp only[mZ,List.cons_append,get,if_neg (Ne.symm h.1)]
   exact rq h.2
theorem Gb:∀ (c:Code) (env:Env) (h:ae) (K K':Exit→Env→ae→Prop),(∀ e env' h',Keep (dx c) env env'→K e env' h'→K' e env' h')→den P n pl c env h K→den P n pl c env h K':=by
 intro c
 induction c with
 | skip=>exact fun env h K K' hk k=>hk _ _ _ (Keep.refl _ _) k
 | ret=>exact fun env h K K' hk k=>hk _ _ _ (Keep.refl _ _) k
 | exit id=>exact fun env h K K' hk k=>hk _ _ _ (Keep.refl _ _) k
 | goto l=>exact fun env h K K' hk k=>hk _ _ _ (Keep.refl _ _) k
 | label l=>exact fun env h K K' hk k=>hk _ _ _ (Keep.refl _ _) k
 | region id ops d=>
   intro env h K K' hk k
   cases d with
   | false=>exact vM ops _ env h _ _ (fun env' h' q k=>hk _ _ _ q k) k
   | true=>
     unfold den at k ⊢
     split at k
     ·rename_i l x hp
      split at k
      ·rename_i hok
       rw[if_pos hok]
       exact yY ops _ _ env h _ _ _ (fun env' h' q k=>hk _ _ _ q k) k
      ·exact k.elim
     ·exact k.elim
 | seq x y hx hy=>
   intro env h K K' hk k
   refine hx env h _ _ (fun e env1 h1 q k=>?_) k
   have q':Keep (dx (.seq x y)) env env1:=q.mono fun s hs=>by simp only[dx,List.mem_append];exact .inl hs
   cases e<;>first
    | exact hk _ _ _ q' k
    | exact hy env1 h1 _ _ (fun e env2 h2 q2 k2=>hk _ _ _ (q'.trans (q2.mono fun s hs=>by simp only[dx,List.mem_append];exact .inr hs)) k2) k
 | cond c x y hx hy=>
   intro env h K K' hk k
   refine bm (fun v k=>CI (fun k=>?_) (fun k=>?_) k) _ k
   ·exact hx env h _ _ (fun e env' h' q k=>hk _ _ _ (q.mono fun s hs=>by simp only[dx,List.mem_append];exact .inl hs) k) k
   ·exact hy env h _ _ (fun e env' h' q k=>hk _ _ _ (q.mono fun s hs=>by simp only[dx,List.mem_append];exact .inr hs) k) k
 | block id c hc=>
   intro env h K K' hk k
   refine hc env h _ _ (fun e env' h' q k=>?_) k
   cases e<;>first
    | exact hk _ _ _ q k
    | (simp only at k ⊢
       split at k
       ·rename_i hi;rw[if_pos hi];exact hk _ _ _ q k
       ·rename_i hi;rw[if_neg hi];exact hk _ _ _ q k)
 | loop c hc=>
   intro env h K K' hk k
   unfold den at k ⊢
   split at k
   ·rename_i ws ks hp
    split at k
    ·rename_i hok
     rw[if_pos hok]
     obtain⟨ho1,ho3,ho2⟩:=Ej hok
     refine fm (fun vs0 k=>?_) _ k
     obtain⟨⟨J,h0,hr⟩⟩:=k
     refine⟨⟨J,h0,fun k vs h' hJ=>hc _ _ _ _ (fun e env' h'' q k=>?_) (hr k vs h' hJ)⟩⟩
     have q':Keep ws env env':=fun s hs=>by
      rw[q.mono ho1 s hs,rq (fun m=>hs (ho2 s m)),xr hs]
     have q'':Keep (dx (.loop c)) env env':=q'.mono ho3
     cases e<;>first
      | exact k
      | exact hk _ _ _ q'' k
    ·exact k.elim
   ·exact k.elim
 | scope c hc=>exact fun env h K K' hk k=>k.elim
 | rangeFunc f ps a b ha hb=>exact fun env h K K' hk k=>k.elim
 | refuse why=>exact fun env h K K' hk k=>k.elim
theorem M8:∀ (c:Code) (env:Env) (h:ae) (K:Exit→Env→ae→Prop),den P n pl c env h K→AWp P n c env h K:=by
 intro c
 induction c with
 | skip=>exact fun env h K k=>Oh k
 | ret=>exact fun env h K k=>T4 k
 | exit id=>exact fun env h K k=>NS k
 | goto l=>exact fun env h K k=>O9 k
 | label l=>exact fun env h K k=>Km k
 | region id ops d=>
   intro env h K k
   cases d with
   | false=>exact IJ k
   | true=>
     unfold den at k
     split at k
     ·rename_i l x hp
      split at k
      ·rename_i hok
       simp only[Bool.and_eq_true]at hok
       exact KU hok.1 hok.2 k
      ·exact k.elim
     ·exact k.elim
 | seq x y hx hy=>
   intro env h K k
   refine MT ((hx env h _ k).mono fun e env' h' q=>?_)
   cases e<;>first|exact hy _ _ _ q|exact q
 | cond c x y hx hy=>
   intro env h K k
   refine Of ?_
   obtain⟨v,h1,h2⟩:=aH k
   simp only[h1,bV]
   unfold ifB at h2 ⊢
   split at h2
   ·exact hx _ _ _ h2
   ·exact hy _ _ _ h2
   ·exact h2.elim
 | block id c hc=>exact fun env h K k=>Lv (hc env h _ k)
 | loop c hc=>
   intro env h K k
   unfold den at k
   split at k
   ·rename_i ws ks hp
    split at k
    ·rename_i hok
     obtain⟨ho1,ho3,ho2⟩:=Ej hok
     obtain⟨vs0,hv0,⟨J,⟨k0,hJ0⟩,hr⟩⟩:=dB k
     clear k
     have hweak:∀ {env1 env2:Env} {h:ae} {K:Exit→Env→ae→Prop} {c:Code},(∀ s a,get env2 s=some a→get env1 s=some a)→AWp P n c env2 h K→AWp P n c env1 h K:=
      fun hs k G w a s hn r=>k G w a s hn fun q b e=>r q b (hs q b e)
     refine Xo (fun k env' h'=>∃ vs,env'=mZ vs 0 ks++jg ws env∧J k vs h') ?_ ?_ |> hweak (env2:=mZ vs0 0 ks++jg ws env) (Wi hv0 fun s a e=>A0 e)
     ·exact⟨k0,vs0,rfl,hJ0⟩
     ·rintro k env' h' ⟨vs,rfl,hJ⟩
      refine (hc _ _ _ (Gb c _ _ _ (fun e env2 h2=>(match e with|.normal=>d7 (Fo env2 ks) fun vs'=>∃ m,m<k∧J m vs' h2|e=>K e env2 h2)∧Keep (dx c) (mZ vs 0 ks++jg ws env) env2) (fun e env2 h2 q k=>⟨k,q⟩) (hr k vs h' hJ))).mono fun e env2 h2 q=>?_
      obtain⟨q,hkeep⟩:=q
      cases e<;>first
       | exact q
       | (obtain⟨vs',hv',m,hm,hJ'⟩:=dB q
          refine⟨m,mZ vs' 0 ks++jg ws env,hm,⟨vs',rfl,hJ'⟩,fun s a e=>?_⟩
          rcases wO (pre:=[]) (by simp) hv' e with e|e
          ·exact e
          ·have hs:=nh e
           rw[hkeep s (fun m=>hs (ho1 s m)),rq (fun m=>hs (ho2 s m))]
           exact e)
    ·exact k.elim
   ·exact k.elim
 | scope c hc=>exact fun env h K k=>k.elim
 | rangeFunc f ps a b ha hb=>exact fun env h K k=>k.elim
 | refuse why=>exact fun env h K k=>k.elim
end
end
section
variable [Tabs]
section
variable {P:Program}{G:Gh}{h:ae}{w:World}{n:Nat}
def JE (P:Program) (env:Env) (h:ae):List ResultVar→(List AV→Prop)→Prop
 | [],K=>K []
 | .tmp t::rs,K=>bV (get env t) fun v=>JE P env h rs fun vs=>K (v::vs)
 | .cell a t::rs,K=>bV (get env a) fun p=>lu P t p h fun v=>JE P env h rs fun vs=>K (v::vs)
def zT:List AV→AV
 | [v]=>v
 | vs=>.tup vs
def JD (P:Program) (rs:List ResultVar) (env:Env) (h:ae) (Q:QT):Prop:=JE P env h rs fun vs=>Q (zT vs) h
def fA:Nat→List AV→Env
 | _,[]=>[]
 | k,v::vs=>(k,v)::fA (k+1) vs
def adq (P:Program) (pl:Ns) (fn:Func) (c:Code) (args:List AV) (h:ae) (Q:QT):Prop:=
 den P fn.ntmps pl c (fA 0 args) h fun e env' h'=>match e with
  | .normal=>JD P fn.results.toList env' h' Q
  | .ret=>JD P fn.results.toList env' h' Q
  | _=>False
theorem L0 (s:Sim G h w) {env:Env}{tmps:Array Value}(r:EnvRep G env tmps):∀ (rs:List ResultVar) (K:List AV→Prop),JE P env h rs K→
  ∃ vs xs,(rs.mapM fun (r:ResultVar)=>(match r with|.tmp t=>pure (tmps.getD t undef)|.cell a t=>do loadVar t (← asAddr (tmps.getD a undef)):Sem Value)).run P w=.ok xs w∧RepL G vs xs∧K vs
 | [],K,k=>⟨[],[],by simp,by simp[RepL],k⟩
 | .tmp t::rs,K,k=>by
   obtain⟨v,h1,k⟩:=aH k
   obtain⟨vs,xs,h2,h3,h4⟩:=L0 s r rs _ k
   obtain⟨x,h5,h6⟩:=r _ _ h1
   refine⟨v::vs,x::xs,?_,by simp only[RepL];exact⟨x,xs,rfl,h6,h3⟩,h4⟩
   simp only[List.mapM_cons,Sem.run_bind,Sem.run_pure,Result.andThen_ok]
   rw[h2]
   simp[Array.getD_eq_getD_getElem?,h5]
 | .cell a t::rs,K,k=>by
   obtain⟨p,h1,k1⟩:=aH k
   clear k
   obtain⟨x,h5,h6⟩:=r _ _ h1
   have hload:∃ v y,(loadVar t =<< asAddr x:Sem Value).run P w=.ok y w∧Rep G v y∧JE P env h rs fun vs=>K (v::vs):=by
    have key:∀ {K':AV→Prop},Yl P G w (Instr.loadAt t x) K'→∃ v y,(loadVar t =<< asAddr x:Sem Value).run P w=.ok y w∧Rep G v y∧K' v:=by
     rintro K' ⟨v,y,q1,q2,q3⟩
     refine⟨v,y,?_,q2,q3⟩
     have hx:∃ a,x=.pointer (some a):=by
      unfold Instr.loadAt Instr.sureAddr at q1
      split at q1
      ·exact⟨_,rfl⟩
      ·simp at q1
     obtain⟨ad,rfl⟩:=hx
     simpa [Instr.loadAt,Instr.sureAddr,asAddr,Bind.bindLeft] using q1
    unfold lu at k1
    split at k1
    ·rename_i d i ht hi
     split at k1
     ·rename_i hd;exact key (Dn s ht hd hi h6 k1.out)
     ·rename_i hd;exact key (C2 s ht (by simpa using hd) h6 k1.out)
    ·exact k1.elim
   obtain⟨v,y,q1,q2,q3⟩:=hload
   obtain⟨vs,xs,h2,h3,h4⟩:=L0 s r rs _ q3
   refine⟨v::vs,y::xs,?_,by simp only[RepL];exact⟨y,xs,rfl,q2,h3⟩,h4⟩
   have hg:tmps.getD a undef=x:=by simp[Array.getD_eq_getD_getElem?,h5]
   simp only[List.mapM_cons,hg]
   have q1':(do loadVar t (← asAddr x):Sem Value).run P w=.ok y w:=q1
   rw[Sem.run_bind,q1']
   simp only[Result.andThen_ok,Sem.run_bind]
   rw[h2]
   simp
theorem pX (s:Sim G h w) {env:Env}{fn:Func}{tmps:Array Value}(r:EnvRep G env tmps) {Q:QT}(k:JD P fn.results.toList env h Q):
  ∃ v x,(results fn tmps).run P w=.ok x w∧Rep G v x∧Q v h:=by
 obtain⟨vs,xs,h1,h2,h3⟩:=L0 s r _ _ k
 have hm:(fn.results.mapM fun (r:ResultVar)=>(match r with|.tmp t=>pure (tmps.getD t undef)|.cell a t=>do loadVar t (← asAddr (tmps.getD a undef)):Sem Value)).run P w=.ok xs.toArray w:=by
  rw[Array.mapM_eq_mapM_toList]
  simp only[Sem.run_map,h1,Result.andThen_ok]
 refine⟨zT vs,if h:xs.toArray.size=1 then xs.toArray[0] else .tuple xs.toArray,?_,?_,h3⟩
 ·simp only[results,Sem.run_bind]
  exact congrArg (fun r=>Result.andThen r fun a w'=>(pure (if h:a.size=1 then a[0] else .tuple a):Sem Value).run P w') hm
 ·have hl:=h2.length
  unfold zT
  split
  ·obtain⟨x,rfl,hx⟩:=h2.single
   simpa using hx
  ·rename_i hne
   have:¬ xs.toArray.size=1:=fun e=>by
    have:vs.length=1:=by simp at e;omega
    obtain⟨v,rfl⟩:=List.length_eq_one_iff.1 this
    exact hne v rfl
   rw[dif_neg this]
   simp only[Rep]
   exact⟨xs,rfl,h2⟩
theorem ug:∀ (vs:List AV) (k s:Nat) (a:AV),get (fA k vs) s=some a→k≤s∧vs[s-k]?=some a
 | [],k,s,a,e=>by simp[fA,get]at e
 | v::vs,k,s,a,e=>by
   simp only[fA,get]at e
   split at e
   ·rename_i hk;subst hk;simp at e;subst e;simp
   ·rename_i hk
    have:=ug vs (k+1) s a e
    refine⟨by omega,?_⟩
    rw[show s-k=(s-(k+1))+1 by omega]
    simpa using this.2
theorem LL {f : FuncId} {fn : Func} {c : Code} {args : List AV} {Q : QT} (hf : P.funcs[f]? = some fn) (hb : fn.body = some c) (hname : (fn.name == "runtime.NumGoroutine") = false) (hn : args.length ≤ fn.ntmps)
  {pl:Ns} (k:adq P pl fn c args h Q):ACall P f args h Q:=by
 refine⟨⟨fn,hf,hname,by simp[hb]⟩,fun G w vs s r=>?_⟩
 refine calls_of_wp hf hb ?_
 have hl:=r.length
 have hre:EnvRep G (fA 0 args) (vs.toArray++Array.replicate (fn.ntmps-vs.toArray.size) undef):=fun k a e=>by
  obtain⟨_,h1⟩:=ug args 0 k a e
  obtain⟨v,h2,h3⟩:=r.at _ _ h1
  have hk:k<vs.length:=(List.getElem?_eq_some_iff.1 h2).1
  exact⟨v,by rw[Array.getElem?_append_left (by simpa using hk)];simpa using h2,h3⟩
 have W:=M8 c _ _ _ k G w { tmps:=vs.toArray++Array.replicate (fn.ntmps-vs.toArray.size) undef,defers:=[] } s (by simp;omega) hre
 refine wp_mono W fun e a w' ⟨env',h',G',hk,s',ev,r',hn',hd'⟩=>?_
 cases e with
 | normal=>
   obtain⟨v,x,q1,q2,q3⟩:=pX s' r' hk
   exact⟨hd',x,q1,v,x,h',G',rfl,q2,q3,s',ev⟩
 | ret=>
   obtain⟨v,x,q1,q2,q3⟩:=pX s' r' hk
   exact⟨hd',x,q1,v,x,h',G',rfl,q2,q3,s',ev⟩
 | exit id=>exact hk.elim
 | goto l=>exact hk.elim
 | panic ch=>exact hk.elim
 | outgrown=>exact hk.elim
end
end
section
open Go.RowKit Go.ChangeShapes
variable [Tabs]
section
variable {P:Program}
def G0 (W:World):Gh:={ loc:=fun _=>none,cap:=fun _=>0,F:=fun b o=>W.cell? ⟨b,o,none⟩ }
theorem adH {W:World}(ht:Tabs.ok (fun b o=>W.cell? ⟨b,o,none⟩)):Sim (G0 W) [] W where
 obj:=fun i o h=>by simp at h
 dom:=fun i p h=>by simp[G0]at h
 apart:=fun i j oi oj p q h=>by simp at h
 frz:=fun b o v h=>h
 sep:=fun i o p h=>by simp at h
 tab:=ht
theorem M5 {W w':World}{G G':Gh}{h':ae}(ev:Evo G [] W G' h' w'):Below W.heap.size W w':=
 ⟨ev.os,ev.tape,ev.output,ev.size,fun k hk=>ev.frame k hk fun ⟨i,o,p,h,_⟩=>by simp at h⟩
theorem ST {f:FuncId}{args:List AV}{vs:List Value}{W:World}(ht:Tabs.ok (fun b o=>W.cell? ⟨b,o,none⟩)) (hr:RepL (G0 W) args vs) (c:ACall P f args [] fun r h'=>r=B true):
  Calls P f vs.toArray W fun e w'=>e=.returned (.bool true)∧Below W.heap.size W w':=
 (c.calls (G0 W) W vs (adH ht) hr).mono fun e w' ⟨r,v,h',G',he,hv,hq,s,ev⟩=>by
  subst hq
  simp only[Rep]at hv
  obtain⟨rfl,_⟩:=hv
  exact⟨he,M5 ev⟩
theorem zv {H:Type}{enc:TypeId×Value→H}(hl:laidOutB P=true) {W W':World}(hb:Below W.heap.size W W'):∀ {ts:List TypeId}{vs:List Value}{ds:List (DataW H)}{ps:List MemPlace},(∀ t∈ts,P.readableRec t=true∧t<P.types.size)→
  DataW.TrodAll enc P W 0 (fun _=>true) true ts vs ds ps→(∀ x∈ps,x.block<W.heap.size)→DataW.TrodAll enc P W' 0 (fun b=>decide (b<W.heap.size)) true ts vs ds ps
 | [],vs,ds,ps,_,h,_=>by
   obtain⟨rfl,rfl,rfl⟩:=trodAll_nil h
   exact trodAll_mk0
 | t::ts,vs,ds,ps,hr,h,hlt=>by
   obtain⟨v,vs',d,ds',p,q,rfl,rfl,rfl,h1,h2⟩:=trodAll_cons h
   exact trodAll_cons_mk (RowKit.Below.trod hl (hr t (by simp)).1 (hr t (by simp)).2 h1 hb fun x hx=>hlt x (by simp[hx])) (zv hl hb (fun u hu=>hr u (by simp[hu])) h2 fun x hx=>hlt x (by simp[hx]))
theorem VY {H:Type}{enc:TypeId×Value→H}{f:Func}{s:ChangeSpec}{fresh:Bool}{W W':World}{args:Array Value}{ds gs:List (DataW H)}{before:List MemPlace}{t:TypeId}(hl:laidOutB P=true)
  (hrd:∀ t∈f.params.toList,P.readableRec t=true∧t<P.types.size) (hs:s.vars=[]) (hrt:f.resultTypes=#[t]) (ht:P.underlying t=some .bool)
  (hW:DataW.Whole enc P f.params.toList s.vars false W args.toList ds gs before) (hres:(s.fn H (ds++gs)).results=[.lit (.bool true)]) (hargs:(s.fn H (ds++gs)).args=ds) (hvars:(s.fn H (ds++gs)).vars=[]) (hb:Below W.heap.size W W'):
  s.post enc P f false fresh false false W args (.bool true) W':=by
 have hlt:=hW.lt
 obtain⟨p,q,hA,hV,hpq,hfz,hn⟩:=id hW
 rw[hs]at hV
 obtain⟨rfl,rfl⟩:=trodVars_none hV
 simp only[List.append_nil]at hpq
 subst hpq
 refine⟨ds,[],before,[],before,[],hW,?_,?_,?_,hb.frame _,fun h=>by cases h⟩
 ·rw[hres,hrt]
  exact trodAll_mk1 (shut_bool ht true)
 ·rw[hargs]
  exact zv hl hb hrd hA hlt
 ·rw[hvars,hs];rfl
