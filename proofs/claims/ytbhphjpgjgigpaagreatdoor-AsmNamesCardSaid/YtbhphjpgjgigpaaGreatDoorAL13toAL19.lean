import Derived.Test.YtbhphjpgjgigpaaGreatDoorAL10mtoAL13v
import Derived.WalkKit
import Derived.ProofKit
import Derived.OpenShut
import Derived.Carry
set_option linter.all false
set_option autoImplicit true
set_option relaxedAutoImplicit true
set_option maxRecDepth 100000
namespace Go.Proofs.YtbhphjpgjgigpaaGreatDoor.AL
section
variable [Tabs]
section
variable {P:Program}
def Qo:Op→Bool
 | .move _|.assign _|.pick ..|.build ..|.buildSlice ..|.load ..|.nilCheck _|.binOp ..|.unOp ..|.convert ..|.makeInterface ..|.makeFunc ..|.slice ..|.fieldAddr ..|.field ..|.indexAddr ..|.index ..|.extract ..=>true
 | .call c=>match c.callee with
   | .builtin .len=>true
   | .builtin .max=>true
   | .builtin .min=>true
   | _=>false
 | _=>false
def TP (P:Program):Op→Bool
 | .load ..=>true
 | .call c=>match c.callee,c.argTypes.toList with
   | .builtin .len,[t]=>match P.underlying t with|some (.map _ _)=>true|_=>false
   | _,_=>false
 | _=>false
theorem aY {K:AV→Prop}{o:Option AV}{v:AV}(h:o=some v) (k:K v):bO o K:=by subst h;exact k
theorem km {K:List AV→Prop}{o:Option (List AV)}{v:List AV}(h:o=some v) (k:K v):dH o K:=by subst h;exact k
theorem kz {K:Option AV→Prop}{o:Option (Option AV)}{v:Option AV}(h:o=some v) (k:K v):wL o K:=by subst h;exact k
theorem Pi {env:Env}{h:ab}{o:Oper}{K:QT}(hq:Qo o.op=true) (k:tH P env h o K):∃ v,K v h∧tH P env h o fun r h'=>r=v∧h'=h:=by
 obtain⟨dst,op,ty,pos,after,guard⟩:=o
 have up:∀ {v:AV} (r:AV),r=v→r=v∧True:=fun r e=>⟨e,trivial⟩
 cases op<;>simp only[tH,Qo,Bool.false_eq_true]at k hq ⊢
 case move=>obtain⟨v,e,k⟩:=ar k;exact⟨v,k,aY e ⟨rfl,trivial⟩⟩
 case assign=>obtain⟨v,e,k⟩:=ar k;exact⟨v,k,aY e ⟨rfl,trivial⟩⟩
 case pick=>
  obtain⟨c,e,k⟩:=ar k
  obtain⟨x,e1,k⟩:=ar k
  obtain⟨y,e2,k⟩:=ar k
  have:∀ {X:Prop},X→True:=fun _=>trivial
  unfold ifB at k
  split at k
  ·exact⟨x,k,aY e (aY e1 (aY e2 ⟨rfl,trivial⟩))⟩
  ·exact⟨y,k,aY e (aY e1 (aY e2 ⟨rfl,trivial⟩))⟩
  ·exact k.elim
 case build=>
  obtain⟨vs,e,k⟩:=de k
  unfold tA at k
  (repeat' split at k)<;>first
   | exact k.elim
   | (obtain⟨v,k1,k2⟩:=JB _ _ k
      refine⟨v,k1,km e ?_⟩
      simp only[tA, *,if_true]
      exact sO up _ _ k2)
 case buildSlice=>
  obtain⟨vs,e,k⟩:=de k
  unfold fT at k
  (repeat' split at k)<;>first
   | exact k.elim
   | (obtain⟨v,k1,k2⟩:=zt _ _ _ k
      refine⟨v,k1,km e ?_⟩
      simp only[fT, *]
      rw[if_pos ‹_›]
      exact lh up _ _ _ k2)
 case load=>
  obtain⟨x,e,k⟩:=ar k
  unfold iZ at k
  (repeat' split at k)<;>first
   | exact k.elim
   | (obtain⟨v,k1,k2⟩:=A8 _ _ _ k
      refine⟨v,k1,aY e ?_⟩
      simp only[iZ, *,if_true]
      exact fU up _ _ _ k2)
   | (obtain⟨v,k1,k2⟩:=AM _ _ k
      refine⟨v,k1,aY e ?_⟩
      simp only[iZ, *,↓reduceIte,Bool.false_eq_true]
      exact fR up _ _ k2)
 case nilCheck=>
  obtain⟨x,e,k⟩:=ar k
  obtain⟨v,k1,k2⟩:=Pm _ k
  exact⟨v,k1,aY e (xj up _ k2)⟩
 case binOp=>
  obtain⟨x,e,k⟩:=ar k
  obtain⟨y,e1,k⟩:=ar k
  unfold Hc at k
  (repeat' split at k)<;>first
   | exact k.elim
   | (obtain⟨v,k1,k2⟩:=P2 _ _ _ k
      refine⟨v,k1,aY e (aY e1 ?_)⟩
      simp only[Hc, *]
      exact pL up _ _ _ k2)
   | (obtain⟨v,k1,k2⟩:=Oj _ _ _ k
      refine⟨v,k1,aY e (aY e1 ?_)⟩
      simp only[Hc, *]
      exact vE up _ _ _ k2)
   | (obtain⟨v,k1,k2⟩:=OO _ _ _ k
      refine⟨v,k1,aY e (aY e1 ?_)⟩
      simp only[Hc, *]
      exact vd up _ _ _ k2)
 case unOp=>
  obtain⟨x,e,k⟩:=ar k
  obtain⟨v,k1,k2⟩:=Sq _ _ k
  exact⟨v,k1,aY e (Bj up _ _ k2)⟩
 case convert=>
  obtain⟨x,e,k⟩:=ar k
  unfold yB at k
  (repeat' split at k)<;>first
   | exact k.elim
   | (obtain⟨v,k1,k2⟩:=H7 _ _ k
      refine⟨v,k1,aY e ?_⟩
      simp only[yB, *]
      exact ra up _ _ k2)
   | (obtain⟨v,k1,k2⟩:=IR _ _ k
      refine⟨v,k1,aY e ?_⟩
      simp only[yB, *]
      exact qX up _ _ k2)
   | (obtain⟨v,k1,k2⟩:=H3 _ k
      refine⟨v,k1,aY e ?_⟩
      simp only[yB, *]
      exact qh up _ k2)
 case makeInterface=>
  obtain⟨x,e,k⟩:=ar k
  unfold xK at k
  (repeat' split at k)<;>first
   | exact k.elim
   | (rename_i hn ht
      obtain⟨v,k1,k2⟩:=J3 _ _ k
      refine⟨v,k1,aY e ?_⟩
      unfold xK
      split
      ·rename_i he;rw[ht]at he;cases he;exact (hn _ rfl).elim
      ·exact sQ up _ _ k2
      ·rename_i he;rw[ht]at he;cases he)
 case makeFunc=>
  obtain⟨x,e,k⟩:=de k
  obtain⟨y,e1,k⟩:=de k
  exact⟨_,k,km e (km e1 ⟨rfl,trivial⟩)⟩
 case slice=>
  obtain⟨x,e,k⟩:=ar k
  obtain⟨l,e1,k⟩:=qb k
  obtain⟨u,e2,k⟩:=qb k
  obtain⟨m,e3,k⟩:=qb k
  unfold lf at k
  (repeat' split at k)<;>first
   | exact k.elim
   | (obtain⟨v,k1,k2⟩:=Jg _ _ _ k
      refine⟨v,k1,aY e (kz e1 (kz e2 (kz e3 ?_)))⟩
      simp only[lf, *]
      exact qN up _ _ _ k2)
   | (obtain⟨v,k1,k2⟩:=HX _ _ _ _ k
      refine⟨v,k1,aY e (kz e1 (kz e2 (kz e3 ?_)))⟩
      simp only[lf, *]
      exact q9 up _ _ _ _ k2)
   | (obtain⟨v,k1,k2⟩:=Jh _ k
      refine⟨v,k1,aY e (kz e1 (kz e2 (kz e3 ?_)))⟩
      simp only[lf, *]
      exact ql up _ k2)
 case fieldAddr=>
  obtain⟨x,e,k⟩:=ar k
  unfold kW at k
  (repeat' split at k)<;>first
   | exact k.elim
   | (obtain⟨v,k1,k2⟩:=Bk _ _ k
      refine⟨v,k1,aY e ?_⟩
      simp only[kW, *,↓reduceIte]
      exact me up _ _ k2)
 case field=>
  obtain⟨x,e,k⟩:=ar k
  unfold to yO at k
  (repeat' split at k)<;>first
   | exact k.elim
   | (obtain⟨v,k1,k2⟩:=JG _ _ _ k
      refine⟨v,k1,aY e ?_⟩
      simp only[to,yO, *,if_true]
      exact rY up _ _ _ k2)
   | (obtain⟨v,k1,k2⟩:=JE _ _ k
      refine⟨v,k1,aY e ?_⟩
      simp only[to,yO, *,↓reduceIte,Bool.false_eq_true]
      exact tU up _ _ k2)
 case indexAddr=>
  obtain⟨x,e,k⟩:=ar k
  obtain⟨y,e1,k⟩:=ar k
  unfold d6 at k
  (repeat' split at k)<;>first
   | exact k.elim
   | (obtain⟨v,k1,k2⟩:=sF _ _ _ k
      refine⟨v,k1,aY e (aY e1 ?_)⟩
      simp only[d6, *]
      exact gq up _ _ _ k2)
   | (obtain⟨v,k1,k2⟩:=rt _ _ _ _ k
      refine⟨v,k1,aY e (aY e1 ?_)⟩
      simp only[d6, *]
      exact en up _ _ _ _ k2)
 case index=>
  obtain⟨x,e,k⟩:=ar k
  obtain⟨y,e1,k⟩:=ar k
  unfold xf at k
  (repeat' split at k)<;>first
   | exact k.elim
   | (obtain⟨v,k1,k2⟩:=HS _ _ k
      refine⟨v,k1,aY e (aY e1 ?_)⟩
      simp only[xf, *]
      exact qA up _ _ k2)
 case extract=>
  obtain⟨x,e,k⟩:=ar k
  obtain⟨v,k1,k2⟩:=EH _ _ k
  exact⟨v,k1,aY e (oL up _ _ k2)⟩
 case call c=>
  obtain⟨vs,e,k⟩:=de k
  split at hq
  ·rename_i hc
   simp only[hc]at k
   split at k
   ·rename_i v t hv
    unfold x4 at k
    (repeat' split at k)<;>first
     | exact k.elim
     | (obtain⟨v,k1,k2⟩:=NI _ k
        refine⟨v,k1,km e ?_⟩
        simp only[hc,x4, *]
        exact vo up _ k2)
     | (obtain⟨v,k1,k2⟩:=Nf _ k
        refine⟨v,k1,km e ?_⟩
        simp only[hc,x4, *]
        exact vK up _ k2)
     | (obtain⟨v,k1,k2⟩:=NK _ _ k
        refine⟨v,k1,km e ?_⟩
        simp only[hc,x4, *]
        exact vA up _ _ k2)
   ·exact k.elim
  ·rename_i hc
   simp only[hc]at k
   split at k
   ·obtain⟨v,k1,k2⟩:=QB _ _ k
    refine⟨v,k1,km e ?_⟩
    simp only[hc]
    exact xO up _ _ k2
   ·exact k.elim
  ·rename_i hc
   simp only[hc]at k
   split at k
   ·obtain⟨v,k1,k2⟩:=Ph _ _ k
    refine⟨v,k1,km e ?_⟩
    simp only[hc]
    exact yi up _ _ k2
   ·exact k.elim
  ·exact absurd hq (by simp)
theorem Nv {env:Env}{h h2:ab}{o:Oper}{R:AV→Prop}(hq:Qo o.op=true) (hh:TP P o.op=false) (k:tH P env h o fun r _=>R r):tH P env h2 o fun r _=>R r:=by
 obtain⟨dst,op,ty,pos,after,guard⟩:=o
 cases op<;>simp only[tH,Qo,TP,Bool.true_eq_false,Bool.false_eq_true]at k hq hh ⊢<;>try exact k
 case call c=>
  refine eC (fun vs k=>?_) _ k
  split at hq
  ·rename_i hc
   simp only[hc]at k hh ⊢
   split at k
   ·rename_i v t hv
    simp only[hv]at hh
    unfold x4 at k ⊢
    split at k<;>rename_i ht
    ·exact k
    ·exact k
    ·simp[ht]at hh
    ·exact k
   ·exact k
  ·rename_i hc
   simp only[hc]at k ⊢
   exact k
  ·rename_i hc
   simp only[hc]at k ⊢
   exact k
  ·exact absurd hq (by simp)
theorem xY {env env':Env}{x:Operand}(h:∀ t,x=.tmp t→get env t=get env' t):opv env x=opv env' x:=by
 cases x<;>simp only[opv]
 exact h _ rfl
theorem fh {env env':Env}:∀ {l:List Operand},(∀ x∈l,opv env x=opv env' x)→i3 env l=i3 env' l
 | [],_=>rfl
 | x::l,h=>by
   simp only[i3,h x (by simp),fh fun y hy=>h y (List.mem_cons_of_mem _ hy)]
theorem vG {env env':Env}:∀ {l:Option Operand},(∀ x∈l,opv env x=opv env' x)→zz env l=zz env' l
 | none,_=>rfl
 | some x,h=>by simp only[zz,h x (by simp)]
theorem Lq {env env':Env}{h:ab}{o:Oper}{K:QT}(he:∀ t∈wX o,get env t=get env' t):tH P env h o K=tH P env' h o K:=by
 have ho:∀ x∈o.op.operands,opv env x=opv env' x:=fun x hx=>xY fun t e=>he t (by
  subst e
  exact List.mem_filterMap.2 ⟨.tmp t,by simpa using hx,rfl⟩)
 clear he
 obtain⟨dst,op,ty,pos,after,guard⟩:=o
 cases op<;>simp only[Op.operands]at ho<;>simp only[tH]
 case pick c a b=>simp only[ho c (by simp),ho a (by simp),ho b (by simp)]
 case build t ps=>rw[fh fun x hx=>ho x (by simpa using hx)]
 case buildSlice t n ps=>rw[fh fun x hx=>ho x (by simpa using hx)]
 case makeFunc f fi ca=>rw[fh (l:=fi.toList) fun x hx=>ho x (by simp at hx;simp[hx]),fh (l:=ca.toList) fun x hx=>ho x (by simp at hx;simp[hx])]
 case slice t x lo hi mx=>
  rw[ho x (by simp),vG (l:=lo) fun y hy=>ho y (by simp at hy;simp[hy]),vG (l:=hi) fun y hy=>ho y (by simp at hy;simp[hy]),vG (l:=mx) fun y hy=>ho y (by simp at hy;simp[hy])]
 case call c=>
  rw[fh (l:=c.args.toList) fun x hx=>ho x (by simp at hx;simp[Call.operands,hx])]
  congr 1
  funext vs
  split
  ·rename_i f hc
   rw[ho f (by simp[Call.operands,hc])]
  ·rfl
  ·rfl
  ·rfl
  ·rfl
  ·rfl
 all_goals (first|rfl|(simp only[ho _ (by simp)];done)|(simp_all;done))
def Pn (P:Program):Op→Bool
 | .lookup ..=>true
 | .entry _=>true
 | .convert s _ _=>match P.underlying s with|some (.slice _)=>true|_=>false
 | .binOp _ t _ _ _=>match P.underlying t with|some (.slice _)=>false|_=>true
 | _=>false
def Uo (P:Program):Op→Bool
 | .lookup ..=>true
 | .entry _=>true
 | .convert ..=>true
 | _=>false
def O9 (P:Program) (o:Op):Bool:=if y1 P o=true then Pn P o else Qo o
def Ua (P:Program) (o:Op):Bool:=if y1 P o=true then Uo P o else TP P o
def qOp (P:Program) (o:Op):Bool:=if isX P o=true then Pb o else O9 P o
def hOp (P:Program) (o:Op):Bool:=if isX P o=true then false else Ua P o
theorem IC {d:TypeDesc}{ok:Bool}{z x key:AV}{h:ab}{K:AV→Prop}(k:ie d ok z x key h K):∃ v,K v∧ie d ok z x key h fun r=>r=v:=by
 unfold ie at *
 split at k
 ·split at k
  ·split at k
   ·rename_i hc;exact⟨_,k,by rw[if_pos hc]⟩
   ·exact k.elim
  ·split at k
   ·split at k
    ·rename_i hc
     split at k
     ·rename_i hm;exact⟨_,k,by rw[if_pos hc]⟩
     ·rename_i hm;exact⟨_,k,by rw[if_pos hc]⟩
    ·exact k.elim
   ·exact k.elim
  ·exact k.elim
 ·exact k.elim
theorem CW {x:AV}{h:ab}{K:AV→Prop}(k:eO x h K):∃ v,K v∧eO x h fun r=>r=v:=by
 unfold eO at *
 split at k
 ·rename_i hc
  split at k
  ·split at k
   ·exact⟨_,k,by rw[if_pos hc]⟩
   ·exact k.elim
  ·exact k.elim
 ·exact k.elim
theorem KP {x:AV}{h:ab}{K:AV→Prop}(k:mh x h K):∃ v,K v∧mh x h fun r=>r=v:=by
 unfold mh at *
 split at k
 ·split at k
  ·split at k
   ·split at k
    ·split at k
     ·rename_i hc;exact⟨_,k,by rw[if_pos hc]⟩
     ·exact k.elim
    ·exact k.elim
   ·exact k.elim
  ·exact k.elim
 ·exact k.elim
theorem PK {op:BinOp}{b:Bool}{K:AV→Prop}(k:o6 op b K):∃ v,K v∧o6 op b fun r=>r=v:=by
 unfold o6 at *
 split at k
 ·exact⟨_,k,rfl⟩
 ·exact⟨_,k,rfl⟩
 ·exact k.elim
theorem QG {op:BinOp}{ds:List TypeDesc}{x y:AV}{K:AV→Prop}(k:Bv op ds x y K):∃ v,K v∧Bv op ds x y fun r=>r=v:=by
 unfold Bv at *
 split at k
 ·split at k
  ·exact PK k
  ·exact k.elim
 ·exact k.elim
theorem Ja {op:BinOp}{x:AV}{K:AV→Prop}(k:j5 op x K):∃ v,K v∧j5 op x fun r=>r=v:=by
 unfold j5 at *
 split at k<;>first|exact k.elim|exact⟨_,k,rfl⟩
theorem Hm {op:BinOp}{x:AV}{K:AV→Prop}(k:kp op x K):∃ v,K v∧kp op x fun r=>r=v:=by
 unfold kp at *
 split at k<;>first|exact k.elim|exact⟨_,k,rfl⟩
theorem GM {op:BinOp}{x:AV}{K:AV→Prop}(k:kB op x K):∃ v,K v∧kB op x fun r=>r=v:=by
 unfold kB at *
 split at k<;>first|exact k.elim|exact⟨_,k,rfl⟩
theorem Rk {env:Env}{h:ab}{o:Oper}{K:QT}(hn:y1 P o.op=true) (hq:Pn P o.op=true) (k:rT P env h o K):∃ v,K v h∧rT P env h o fun r h'=>r=v∧h'=h:=by
 obtain⟨dst,op,ty,pos,after,guard⟩:=o
 have up:∀ {v:AV} (r:AV),r=v→r=v∧True:=fun r e=>⟨e,trivial⟩
 cases op<;>simp only[rT,Pn,Bool.false_eq_true]at k hq ⊢
 case lookup=>
  obtain⟨a,e1,k⟩:=ar k
  obtain⟨b,e2,k⟩:=ar k
  have k0:=k
  obtain⟨kt,et,d,i,z,q1,q2,q3,q4,q5,k⟩:=zY k
  obtain⟨v,k1,k2⟩:=IC k.out
  refine⟨v,k1,aY e1 (aY e2 ?_)⟩
  unfold xG
  simp only[q1,q2,q3,q4,q5,if_true]
  exact qj up _ _ _ _ _ _ ⟨k2⟩
 case entry x=>
  obtain⟨a,e1,k⟩:=ar k
  obtain⟨v,k1,k2⟩:=KP k.out
  exact⟨v,k1,aY e1 (rR up _ _ ⟨k2⟩)⟩
 case convert s d x=>
  obtain⟨a,e1,k⟩:=ar k
  split at k
  ·split at k
   ·rename_i hb
    obtain⟨v,k1,k2⟩:=CW k.out
    refine⟨v,k1,aY e1 ?_⟩
    rw[if_pos hb]
    exact nn up _ _ ⟨k2⟩
   ·exact k.elim
  ·rename_i hs _;simp[hs]at hq
  ·exact k.elim
 case binOp op t x y yt=>
  split at k
  ·obtain⟨a,e1,k⟩:=ar k
   obtain⟨b,e2,k⟩:=ar k
   split at k
   ·split at k
    ·rename_i hc
     obtain⟨v,k1,k2⟩:=QG k.out
     refine⟨v,k1,aY e1 (aY e2 ?_)⟩
     show (if _ then _ else _)
     rw[if_pos hc]
     exact xP up _ _ _ _ ⟨k2⟩
    ·exact k.elim
   ·exact k.elim
  ·obtain⟨a,e1,k⟩:=ar k
   unfold um at *
   split at k
   ·rename_i ht _;simp[ht]at hq
   ·obtain⟨v,k1,k2⟩:=Ja k.out
    exact⟨v,k1,aY e1 (qm up _ _ ⟨k2⟩)⟩
   ·obtain⟨v,k1,k2⟩:=Hm k.out
    exact⟨v,k1,aY e1 (qQ up _ _ ⟨k2⟩)⟩
   ·obtain⟨v,k1,k2⟩:=GM k.out
    exact⟨v,k1,aY e1 (qq up _ _ ⟨k2⟩)⟩
   ·exact k.elim
theorem Ow {env:Env}{h h2:ab}{o:Oper}{R:AV→Prop}(hn:y1 P o.op=true) (hq:Pn P o.op=true) (hh:Uo P o.op=false) (k:rT P env h o fun r _=>R r):rT P env h2 o fun r _=>R r:=by
 obtain⟨dst,op,ty,pos,after,guard⟩:=o
 cases op<;>simp only[rT,Pn,Uo,Bool.true_eq_false,Bool.false_eq_true]at k hq hh ⊢<;>exact k
theorem J1 {env env':Env}{h:ab}{o:Oper}{K:QT}(he:∀ t∈wX o,get env t=get env' t):rT P env h o K=rT P env' h o K:=by
 have ho:∀ x∈o.op.operands,opv env x=opv env' x:=fun x hx=>xY fun t e=>he t (by
  subst e
  exact List.mem_filterMap.2 ⟨.tmp t,by simpa using hx,rfl⟩)
 clear he
 obtain⟨dst,op,ty,pos,after,guard⟩:=o
 cases op<;>simp only[Op.operands]at ho<;>simp only[rT]
 case makeMap t re=>cases re<;>rfl
 case mapUpdate t m k v=>rw[ho m (by simp),ho k (by simp),ho v (by simp)]
 case insert t m k v=>rw[ho m (by simp),ho k (by simp),ho v (by simp)]
 case entryStore t m k v=>rw[ho m (by simp),ho k (by simp),ho v (by simp)]
 case binOp op t x y yt=>rw[ho x (by simp),ho y (by simp)]
 case call c=>
  split
  ·rw[fh (l:=c.args.toList) fun x hx=>ho x (by simp at hx;simp[Call.operands,hx])]
  ·rfl
 all_goals (first|rfl|(simp only[ho _ (by simp)];done)|(simp_all;done))
theorem RH {env:Env}{h:ab}{o:Oper}{K:QT}(hq:O9 P o.op=true) (k:tn P env h o K):∃ v,K v h∧tn P env h o fun r h'=>r=v∧h'=h:=by
 unfold tn O9 at *
 by_cases hn:y1 P o.op=true
 ·rw[if_pos hn]at hq k;simp only[if_pos hn];exact Rk hn hq k
 ·rw[if_neg hn]at hq k;simp only[if_neg hn];exact Pi hq k
theorem M3 {env:Env}{h h2:ab}{o:Oper}{R:AV→Prop}(hq:O9 P o.op=true) (hh:Ua P o.op=false) (k:tn P env h o fun r _=>R r):tn P env h2 o fun r _=>R r:=by
 unfold tn O9 Ua at *
 by_cases hn:y1 P o.op=true
 ·rw[if_pos hn]at hq hh k ⊢;exact Ow hn hq hh k
 ·rw[if_neg hn]at hq hh k ⊢;exact Nv hq hh k
theorem J7 {env env':Env}{h:ab}{o:Oper}{K:QT}(he:∀ t∈wX o,get env t=get env' t):tn P env h o K=tn P env' h o K:=by
 unfold tn
 rw[J1 he,Lq he]
theorem PW {env:Env}{h:ab}{o:Oper}{K:QT}(hq:Pb o.op=true) (k:tS P env h o K):∃ v,K v h∧tS P env h o fun r h'=>r=v∧h'=h:=by
 obtain⟨dst,op,ty,pos,after,guard⟩:=o
 have up:∀ {v:AV} (r:AV),r=v→r=v∧True:=fun r e=>⟨e,trivial⟩
 cases op<;>simp only[tS]at k ⊢<;>try exact k.elim
 case call c=>
  simp only[Pb]at hq
  split at hq
  ·rename_i f hc
   simp only[hc]at k ⊢
   obtain⟨vs,h1,k⟩:=de k
   rw[h1]
   simp only[dH]
   split at k
   ·obtain⟨v,k1,k2⟩:=RF k.out
    exact⟨v,k1,⟨xp up k2⟩⟩
   ·exact k.elim
  ·cases hq
 case indexAddr t x i=>
  cases x<;>simp only at k ⊢<;>try exact k.elim
  split at k
  ·obtain⟨iv,h1,k⟩:=ar k
   rw[h1]
   simp only[bO]
   unfold d6 at *
   split at k
   ·split at k
    ·obtain⟨v,k1,k2⟩:=sF _ _ _ k
     exact⟨v,k1,gq up _ _ _ k2⟩
    ·exact k.elim
   ·split at k
    ·obtain⟨v,k1,k2⟩:=rt _ _ _ _ k
     exact⟨v,k1,en up _ _ _ _ k2⟩
    ·exact k.elim
   ·exact k.elim
  ·exact k.elim
 case load t x=>
  cases x<;>simp only at k ⊢<;>try exact k.elim
  split at k
  ·unfold iZ at *
   split at k
   ·split at k
    ·rename_i hd
     obtain⟨v,k1,k2⟩:=A8 _ _ _ k
     exact⟨v,k1,by rw[if_pos hd];exact fU up _ _ _ k2⟩
    ·rename_i hd
     obtain⟨v,k1,k2⟩:=AM _ _ k
     exact⟨v,k1,by rw[if_neg hd];exact fR up _ _ k2⟩
   ·exact k.elim
  ·exact k.elim
theorem NO {env:Env}{h h2:ab}{o:Oper}{R:AV→Prop}(hq:Pb o.op=true) (k:tS P env h o fun r _=>R r):tS P env h2 o fun r _=>R r:=by
 obtain⟨dst,op,ty,pos,after,guard⟩:=o
 cases op<;>simp only[tS]at k ⊢<;>try exact k.elim
 case call c=>
  simp only[Pb]at hq
  split at hq
  ·rename_i f hc
   simp only[hc]at k ⊢
   exact k
  ·cases hq
 case indexAddr t x i=>
  cases x<;>simp only at k ⊢<;>try exact k.elim
  exact k
 case load t x=>
  cases x<;>simp only at k ⊢<;>try exact k.elim
  split at k
  ·unfold iZ at *
   split at k
   ·split at k
    ·rename_i hd;rw[if_pos hd];exact⟨k.out⟩
    ·rename_i hd;rw[if_neg hd];exact⟨k.out⟩
   ·exact k.elim
  ·exact k.elim
theorem K7 {env env':Env}{h:ab}{o:Oper}{K:QT}(he:∀ t∈wX o,get env t=get env' t):tS P env h o K=tS P env' h o K:=by
 have ho:∀ x∈o.op.operands,opv env x=opv env' x:=fun x hx=>xY fun t e=>he t (by
  subst e
  exact List.mem_filterMap.2 ⟨.tmp t,by simpa using hx,rfl⟩)
 clear he
 obtain⟨dst,op,ty,pos,after,guard⟩:=o
 cases op<;>simp only[Op.operands]at ho<;>simp only[tS]
 case load t x=>cases x<;>rfl
 case indexAddr t x i=>cases x<;>first|rfl|(simp only[] ;rw[ho i (by simp)])
 case call c=>
  split
  ·rw[fh (l:=c.args.toList) fun x hx=>ho x (by simp at hx;simp[Call.operands,hx])]
  ·rw[fh (l:=c.args.toList) fun x hx=>ho x (by simp at hx;simp[Call.operands,hx])]
  ·rw[fh (l:=c.args.toList) fun x hx=>ho x (by simp at hx;simp[Call.operands,hx])]
  ·rfl
theorem Mh {env:Env}{h:ab}{o:Oper}{K:QT}(hq:qOp P o.op=true) (k:aop P env h o K):∃ v,K v h∧aop P env h o fun r h'=>r=v∧h'=h:=by
 unfold aop qOp at *
 by_cases hn:isX P o.op=true
 ·rw[if_pos hn]at hq k;simp only[if_pos hn];exact PW hq k
 ·rw[if_neg hn]at hq k;simp only[if_neg hn];exact RH hq k
theorem Re {env:Env}{h h2:ab}{o:Oper}{R:AV→Prop}(hq:qOp P o.op=true) (hh:hOp P o.op=false) (k:aop P env h o fun r _=>R r):aop P env h2 o fun r _=>R r:=by
 unfold aop qOp hOp at *
 by_cases hn:isX P o.op=true
 ·rw[if_pos hn]at hq k ⊢;exact NO hq k
 ·rw[if_neg hn]at hq hh k ⊢;exact M3 hq hh k
theorem N5 {env env':Env}{h:ab}{o:Oper}{K:QT}(he:∀ t∈wX o,get env t=get env' t):aop P env h o K=aop P env' h o K:=by
 unfold aop
 rw[K7 he,J7 he]
end
end
section
variable [Tabs]
section
variable {P:Program}{n:Nat}
abbrev m8:=List (Nat×(ab→Prop))
def nQ:List (Nat×Nat)→Nat→Nat
 | [],_=>0
 | (k,m)::r,i=>if k=i then m else nQ r i
def o7 (m:Nat):m8→ab→Prop→Prop
 | [],_,k=>k
 | (q,c)::r,h,k=>if m.testBit q=true then o7 m r h k else c h∧o7 m r h k
def ny (P:Program) (n:Nat) (m:Nat) (i:Nat) (o:Oper) (env:Env) (h:ab) (pend:m8) (K:Env→ab→m8→Prop):Prop:=
 if eL n o.dst=true then
  if qOp P o.op=true then
   aop P env h o fun v h'=>K (putD env o.dst v) h' (if hOp P o.op=true then (i,fun h2=>aop P env h2 o fun r _=>r=v)::pend else pend)
  else aop P env h o fun v h'=>o7 m pend h' (K (putD env o.dst v) h' pend)
 else False
def i7 (P:Program) (n:Nat) (ops:Array Oper) (ms:List (Nat×Nat)):List Nat→Env→ab→m8→(Env→ab→Prop)→Prop
 | [],env,h,_,K=>K env h
 | i::rest,env,h,pend,K=>match ops[i]? with
   | none=>False
   | some o=>match o.guard with
     | none=>ny P n (nQ ms i) i o env h pend fun env' h' pend'=>i7 P n ops ms rest env' h' pend' K
     | some (j,want)=>match (ops[j]?).bind (·.dst) with
       | none=>False
       | some s=>bO (get env s) fun v=>
         ifG (M7 ops j) v
          (if want=true then ny P n (nQ ms i) i o ((s,B true)::env) h pend fun env' h' pend'=>i7 P n ops ms rest env' h' pend' K
           else if eL n o.dst=true then i7 P n ops ms rest (putD ((s,B true)::env) o.dst (.tup [])) h pend K else False)
          (if want=true then (if eL n o.dst=true then i7 P n ops ms rest (putD ((s,B false)::env) o.dst (.tup [])) h pend K else False)
           else ny P n (nQ ms i) i o ((s,B false)::env) h pend fun env' h' pend'=>i7 P n ops ms rest env' h' pend' K)
          (if eL n o.dst=true then i7 P n ops ms rest (putD ((s,.tup [])::env) o.dst (.tup [])) h pend K else False)
def rH (o:Oper):List Nat:=(o.after.toList.filter (Region.binds .any)).map (·.on)
def ml (ops:Array Oper):List Nat→List (Nat×Nat)→List (Nat×Nat)
 | [],ms=>ms
 | i::r,ms=>ml ops r ((i,match ops[i]? with|some o=>(rH o).foldl (fun m p=>m ||| 1 <<< p ||| nQ ms p) 0|none=>0)::ms)
def Mi (f:Nat→Nat→Bool):List Nat→Bool
 | []=>true
 | i::r=>r.all (f i)&&Mi f r
def Ga (ops:Array Oper):List Nat→List Nat→Bool
 | _,[]=>true
 | seen,i::r=>(match ops[i]? with|some o=>(rH o).all seen.contains|none=>false)&&Ga ops (i::seen) r
def QW (P:Program) (ops:Array Oper) (ms:List (Nat×Nat)) (i j:Nat):Bool:=
 match ops[i]?,ops[j]? with
 | some oi,some oj=>
   (i != j)&&(match oi.dst,oj.dst with|some d,some e=>d != e|_,_=>true)&&
   ((nQ ms j).testBit i||(qOp P oi.op&&(match oi.dst with|some d=>!(oj.looksAt ops).contains d|none=>true)&&(match oj.dst with|some d=>!(oi.looksAt ops).contains d|none=>true)))
 | _,_=>false
def lD (P:Program) (ops:Array Oper) (L:List Nat):Bool:=(List.range ops.size).all L.contains&&Ga ops [] L&&Mi (QW P ops (ml ops L [])) L
def Kn (ops:Array Oper) (D:Nat→Bool):Prop:=∀ i o,ops[i]?=some o→D i=true→∀ p∈rH o,D p=true
def CM (ops:Array Oper) (j i:Nat):Prop:=∀ D,Kn ops D→(∀ o,ops[i]?=some o→∀ p∈rH o,D p=true)→D j=true
theorem wA {ms:List (Nat×Nat)}{j:Nat}:∀ (l:List Nat) (m:Nat),(l.foldl (fun m p=>m ||| 1 <<< p ||| nQ ms p) m).testBit j=true→m.testBit j=true∨∃ p∈l,p=j∨(nQ ms p).testBit j=true
 | [],m,h=>.inl h
 | p::l,m,h=>by
   rcases wA l _ h with h|⟨q,hq,h⟩
   ·simp only[Nat.testBit_or,Bool.or_eq_true]at h
    rcases h with (h|h)|h
    ·exact .inl h
    ·refine .inr ⟨p,by simp,.inl ?_⟩
     rw[Nat.one_shiftLeft,Nat.testBit_two_pow]at h
     simpa using h
    ·exact .inr ⟨p,by simp,.inr h⟩
   ·exact .inr ⟨q,by simp[hq],h⟩
theorem tp {ops:Array Oper}:∀ (L:List Nat) (ms:List (Nat×Nat)),(∀ i j,(nQ ms i).testBit j=true→CM ops j i)→∀ i j,(nQ (ml ops L ms) i).testBit j=true→CM ops j i
 | [],ms,h=>h
 | k::L,ms,h=>by
   refine tp L _ fun i j hb=>?_
   simp only[nQ]at hb
   split at hb
   ·rename_i hk
    subst hk
    split at hb
    ·rename_i o ho
     rcases wA _ _ hb with hb|⟨p,hp,hb⟩
     ·simp at hb
     ·intro D hc hD
      have hp1:=hD o ho p hp
      rcases hb with rfl|hb
      ·exact hp1
      ·exact h p j hb D hc fun o2 ho2=>hc p o2 ho2 hp1
    ·simp at hb
   ·exact h i j hb
theorem yU {ops:Array Oper}:∀ {L seen:List Nat},Ga ops seen L=true→∀ {A B:List Nat}{i:Nat},L=A++i::B→∃ o,ops[i]?=some o∧∀ p∈rH o,p∈seen∨p∈A
 | [],seen,h,A,B,i,e=>by simp at e
 | k::L,seen,h,A,B,i,e=>by
   simp only[Ga,Bool.and_eq_true]at h
   cases A with
   | nil=>
     simp only[List.nil_append,List.cons.injEq]at e
     obtain⟨rfl,rfl⟩:=e
     have h1:=h.1
     split at h1
     ·rename_i o ho
      exact⟨o,ho,fun p hp=>.inl (by simpa using List.all_eq_true.1 h1 p hp)⟩
     ·cases h1
   | cons a A=>
     simp only[List.cons_append,List.cons.injEq]at e
     obtain⟨rfl,rfl⟩:=e
     obtain⟨o,ho,hp⟩:=yU h.2 rfl
     refine⟨o,ho,fun p hp'=>?_⟩
     rcases hp p hp' with h|h
     ·simp only[List.mem_cons]at h
      rcases h with rfl|h
      ·exact .inr (by simp)
      ·exact .inl h
     ·exact .inr (by simp[h])
theorem Al {f:Nat→Nat→Bool}:∀ {L:List Nat},Mi f L=true→∀ {A B:List Nat},L=A++B→∀ i∈A,∀ j∈B,f i j=true
 | [],h,A,B,e,i,hi,j,hj=>by
   have:A=[]∧B=[]:=by simpa using e.symm
   rw[this.1]at hi;cases hi
 | k::L,h,A,B,e,i,hi,j,hj=>by
   simp only[Mi,Bool.and_eq_true]at h
   cases A with
   | nil=>cases hi
   | cons a A=>
     simp only[List.cons_append,List.cons.injEq]at e
     obtain⟨rfl,rfl⟩:=e
     rcases List.mem_cons.1 hi with rfl|hi
     ·exact List.all_eq_true.1 h.1 j (by simp[hj])
     ·exact Al h.2 rfl i hi j hj
structure Canon (P:Program) (ops:Array Oper) (L:List Nat):Prop where
 all:∀ i o,ops[i]?=some o→i∈L
 order:∀ {A B:List Nat} {i:Nat},L=A++i::B→∃ o,ops[i]?=some o∧∀ p∈rH o,p∈A
 pair:∀ {A B:List Nat},L=A++B→∀ i∈A,∀ j∈B,∀ oi oj,ops[i]?=some oi→ops[j]?=some oj→i≠j∧(∀ d,oi.dst=some d→oj.dst≠some d)∧
  (CM ops i j∨(qOp P oi.op=true∧(∀ d,oi.dst=some d→d∉oj.looksAt ops)∧(∀ d,oj.dst=some d→d∉oi.looksAt ops)))
theorem Ip {ops:Array Oper}{L:List Nat}(h:lD P ops L=true):Canon P ops L:=by
 simp only[lD,Bool.and_eq_true]at h
 obtain⟨⟨h1,h2⟩,h3⟩:=h
 refine⟨fun i o ho=>?_,fun e=>?_,fun {A B} e i hi j hj oi oj hoi hoj=>?_⟩
 ·have:=List.all_eq_true.1 h1 i (List.mem_range.2 (Array.getElem?_eq_some_iff.1 ho).1)
  simpa using this
 ·obtain⟨o,ho,hp⟩:=yU h2 e
  exact⟨o,ho,fun p hp'=>(hp p hp').resolve_left (by simp)⟩
 ·have:=Al h3 e i hi j hj
  simp only[QW,hoi,hoj,Bool.and_eq_true,bne_iff_ne,ne_eq,Bool.or_eq_true]at this
  obtain⟨⟨q1,q2⟩,q3⟩:=this
  refine⟨q1,fun d hd he=>?_,?_⟩
  ·simp[hd,he]at q2
  ·rcases q3 with q3|⟨⟨q3,q4⟩,q5⟩
   ·exact .inl (tp L [] (fun i j hb=>by simp[nQ]at hb) _ _ q3)
   ·refine .inr ⟨q3,fun d hd=>?_,fun d hd=>?_⟩
    ·simpa [hd] using q4
    ·simpa [hd] using q5
section
variable {ops:Array Oper}{L:List Nat}(hc:Canon P ops L)
include hc
theorem Canon.closed {C rest:List Nat}(e:L=C++rest):Kn ops C.contains:=by
 intro i o ho hi p hp
 simp only[List.contains_eq_mem,decide_eq_true_eq]at hi ⊢
 obtain⟨A,B,rfl⟩:=List.append_of_mem hi
 obtain⟨o',ho',h⟩:=hc.order (A:=A) (i:=i) (B:=B++rest) (by rw[e];simp)
 rw[ho]at ho';cases ho'
 simp[h p hp]
theorem Canon.must {A B:List Nat}{i j:Nat}(e:L=A++i::B) (m:CM ops j i):j∈A:=by
 have:=m A.contains (hc.closed e) fun o ho p hp=>by
  obtain⟨o',ho',h⟩:=hc.order e
  rw[ho]at ho';cases ho'
  simpa using h p hp
 simpa using this
theorem Canon.notMem {A B:List Nat}{i:Nat}(e:L=A++i::B):i∉A:=fun hi=>by
 obtain⟨o,ho,_⟩:=hc.order e
 exact (hc.pair e i hi i (by simp) o o ho ho).1 rfl
theorem Canon.uniq {i j:Nat}{oi oj:Oper}{d:Nat}(hi:ops[i]?=some oi) (hj:ops[j]?=some oj) (di:oi.dst=some d) (dj:oj.dst=some d):i=j:=by
 obtain⟨A,B,e⟩:=List.append_of_mem (hc.all i oi hi)
 have hm:=hc.all j oj hj
 rw[e]at hm
 simp only[List.mem_append,List.mem_cons]at hm
 rcases hm with hm|rfl|hm
 ·exact ((hc.pair e j hm i (by simp) oj oi hj hi).2.1 d dj di).elim
 ·rfl
 ·exact ((hc.pair (A:=A++[i]) (B:=B) (by rw[e];simp) i (by simp) j hm oi oj hi hj).2.1 d di dj).elim
theorem Canon.cmp {i j:Nat}{oi oj:Oper}{d:Nat}(hi:ops[i]?=some oi) (hj:ops[j]?=some oj) (di:oi.dst=some d) (lj:d∈oj.looksAt ops):i=j∨CM ops i j∨CM ops j i:=by
 obtain⟨A,B,e⟩:=List.append_of_mem (hc.all j oj hj)
 have hm:=hc.all i oi hi
 rw[e]at hm
 simp only[List.mem_append,List.mem_cons]at hm
 rcases hm with hm|rfl|hm
 ·rcases (hc.pair e i hm j (by simp) oi oj hi hj).2.2 with h|h
  ·exact .inr (.inl h)
  ·exact (h.2.1 d di lj).elim
 ·exact .inl rfl
 ·rcases (hc.pair (A:=A++[j]) (B:=B) (by rw[e];simp) j (by simp) i hm oj oi hj hi).2.2 with h|h
  ·exact .inr (.inr h)
  ·exact (h.2.2 d di lj).elim
theorem Canon.self {i:Nat}{o:Oper}(hi:ops[i]?=some o):¬ CM ops i i:=fun m=>by
 obtain⟨A,B,e⟩:=List.append_of_mem (hc.all i o hi)
 exact hc.notMem e (hc.must e m)
end
def pG (env:Env):List Nat→Env
 | []=>[]
 | s::l=>match get env s with|some v=>(s,v)::pG env l|none=>pG env l
theorem m6 {env:Env}:∀ {l:List Nat}{s:Nat},s∈l→get (pG env l) s=get env s
 | k::l,s,h=>by
   simp only[pG]
   split
   ·rename_i v hv
    simp only[get]
    split
    ·rename_i hk;subst hk;exact hv.symm
    ·rename_i hk;exact m6 ((List.mem_cons.1 h).resolve_left (Ne.symm hk))
   ·rename_i hv
    rcases List.mem_cons.1 h with rfl|h
    ·by_cases hm:s∈l
     ·exact m6 hm
     ·rw[hv]
      have:∀ l:List Nat,s∉l→get (pG env l) s=none:=fun l=>by
       induction l with
       | nil=>intro _;rfl
       | cons k l ih=>
         intro hs
         simp only[List.mem_cons,not_or]at hs
         simp only[pG]
         split
         ·simp only[get,if_neg (Ne.symm hs.1)];exact ih hs.2
         ·exact ih hs.2
      exact this l hm
    ·exact m6 h
theorem po {env:Env}:∀ {l:List Nat}{s:Nat}{v:AV},get (pG env l) s=some v→s∈l
 | [],s,v,h=>by simp[pG,get]at h
 | k::l,s,v,h=>by
   simp only[pG]at h
   split at h
   ·simp only[get]at h
    split at h
    ·rename_i hk;simp[hk]
    ·exact List.mem_cons_of_mem _ (po h)
   ·exact List.mem_cons_of_mem _ (po h)
end
end
section
variable [Tabs]
section
variable {P:Program}{n:Nat}{ops:Array Oper}{L:List Nat}
structure Inv (ops:Array Oper) (L:List Nat) (D:Nat→Bool) (C rest:List Nat) (eo env:Env) (G:Gh) (tmps:Array Value):Prop where
 split:L=C++rest
 closed:Kn ops D
 sub:∀ i,D i=true→i∈C
 same:∀ s,(∀ i o,i∈C→ops[i]?=some o→o.dst≠some s)→get env s=get eo s
 old:∀ s v,(∃ i o,ops[i]?=some o∧o.dst=some s∧D i=false)→get eo s=some v→∃ x,tmps[s]?=some x∧Rep G v x
 new:∀ s v,(∀ i o,ops[i]?=some o→o.dst=some s→D i=true)→get env s=some v→∃ x,tmps[s]?=some x∧Rep G v x
structure TO (ops:Array Oper) (i:Nat) (o:Oper) (eo env envq:Env):Prop where
 r1:∀ s∈o.looksAt ops,(∃ (i0:Nat) (o0:Oper),ops[i0]?=some o0∧o0.dst=some s∧CM ops i0 i)→get envq s=get env s
 r2:∀ s∈o.looksAt ops,(¬ ∃ (i0:Nat) (o0:Oper),ops[i0]?=some o0∧o0.dst=some s∧CM ops i0 i)→get envq s=get eo s
def gL (ops:Array Oper) (o:Oper) (envq:Env) (b:Bool):Prop:=
 match o.guard with
 | none=>b=true
 | some (j,want)=>∃ sl,(ops[j]?).bind (·.dst)=some sl∧(get envq sl=some (B (b==want))∨(b=false∧get envq sl=some (.tup [])))
structure Known (P:Program) (n:Nat) (ops:Array Oper) (i:Nat) (o:Oper) (eo env:Env) (h:ab) (pend:m8):Prop where
 mk::(out:eL n o.dst=true∧∃ envq v,TO ops i o eo env envq∧(∀ d,o.dst=some d→get env d=some v)∧
  ((gL ops o envq false∧v=.tup [])∨
   (gL ops o envq true∧qOp P o.op=true∧(aop P envq h o fun r h'=>r=v∧h'=h)∧(hOp P o.op=true→(i,fun h2=>aop P envq h2 o fun r _=>r=v)∈pend))))
variable {D:Nat→Bool}{C rest:List Nat}{eo env:Env}{G:Gh}{tmps:Array Value}(hc:Canon P ops L)
include hc
theorem Inv.reads (I:Inv ops L D C rest eo env G tmps) {i:Nat}{o:Oper}(hi:ops[i]?=some o) (hD:D i=false) (hp:∀ p∈rH o,D p=true) {envq:Env}(se:TO ops i o eo env envq):
  EnvRep G (pG envq (o.looksAt ops)) tmps:=by
 intro s v e
 have hs:=po e
 rw[m6 hs]at e
 have hpr:∀ o',ops[i]?=some o'→∀ p∈rH o',D p=true:=fun o' ho'=>by rw[hi]at ho';cases ho';exact hp
 by_cases hw:∃ (i0:Nat) (o0:Oper),ops[i0]?=some o0∧o0.dst=some s∧CM ops i0 i
 ·have hw':=hw
  obtain⟨i0,o0,h1,h2,h3⟩:=hw'
  refine I.new s v (fun i1 o1 h4 h5=>?_) (by rw[← se.r1 s hs hw];exact e)
  have:=hc.uniq h1 h4 h2 h5
  subst this
  exact h3 D I.closed hpr
 ·rw[se.r2 s hs hw]at e
  by_cases hex:∃ (i0:Nat) (o0:Oper),ops[i0]?=some o0∧o0.dst=some s
  ·obtain⟨i0,o0,h1,h2⟩:=hex
   refine I.old s v ⟨i0,o0,h1,h2,?_⟩ e
   rcases hc.cmp h1 hi h2 hs with rfl|h|h
   ·exact hD
   ·exact (hw ⟨i0,o0,h1,h2,h⟩).elim
   ·cases hd:D i0 with
    | false=>rfl
    | true=>
      have:=h D I.closed fun o' ho' p hp'=>I.closed i0 o' ho' hd p hp'
      rw[hD]at this;cases this
  ·refine I.new s v (fun i1 o1 h4 h5=>(hex ⟨i1,o1,h4,h5⟩).elim) ?_
   rw[I.same s fun i1 o1 _ h4 h5=>hex ⟨i1,o1,h4,h5⟩]
   exact e
theorem Inv.sees (I:Inv ops L D C rest eo env G tmps) {i:Nat}{post:List Nat}(hr:rest=i::post) {o:Oper}(hi:ops[i]?=some o) {env1:Env}(he:∀ s,get env1 s=get env s):TO ops i o eo env env1 where
 r1:=fun s _ _=>he s
 r2:=fun s hs hw=>by
  rw[he,I.same s fun i1 o1 hm h4 h5=>?_]
  have e:L=C++i::post:=by rw[I.split,hr]
  rcases hc.cmp h4 hi h5 hs with rfl|h|h
  ·exact hc.notMem e hm
  ·exact hw ⟨i1,o1,h4,h5,h⟩
  ·obtain⟨A,B,rfl⟩:=List.append_of_mem hm
   have h1:=hc.must (A:=A) (i:=i1) (B:=B++i::post) (by rw[e];simp) h
   have:=hc.notMem e
   simp[h1]at this
theorem Inv.get_put (I:Inv ops L D C rest eo env G tmps) {i:Nat}{post:List Nat}(hr:rest=i::post) {o:Oper}(hi:ops[i]?=some o) {env1:Env}(he:∀ s,get env1 s=get env s) {v:AV}{s:Nat}(hs:o.dst≠some s):
  get (putD env1 o.dst v) s=get env s:=by
 rw[← he s]
 cases hd:o.dst with
 | none=>rfl
 | some d=>rw[hd]at hs;simp only[putD,get,if_neg (fun e=>hs (congrArg some e))]
theorem Inv.grow (I:Inv ops L D C rest eo env G tmps) {i:Nat}{post:List Nat}(hr:rest=i::post) {o:Oper}(hi:ops[i]?=some o) {env1:Env}(he:∀ s,get env1 s=get env s) {v:AV}:
  Inv ops L D (C++[i]) post eo (putD env1 o.dst v) G tmps where
 split:=by rw[I.split,hr];simp
 closed:=I.closed
 sub:=fun j hj=>by simp[I.sub j hj]
 same:=fun s hs=>by
  rw[I.get_put hc hr hi he (hs i o (by simp) hi)]
  exact I.same s fun j oj hj=>hs j oj (by simp[hj])
 old:=I.old
 new:=fun s u hs e=>by
  rw[I.get_put hc hr hi he ?_]at e
  ·exact I.new s u hs e
  ·intro hd
   have:=I.sub i (hs i o hi hd)
   exact hc.notMem (by rw[I.split,hr]) this
omit hc in
theorem Inv.mono (I:Inv ops L D C rest eo env G tmps) {G':Gh}(le:G.le G'):Inv ops L D C rest eo env G' tmps where
 split:=I.split
 closed:=I.closed
 sub:=I.sub
 same:=I.same
 old:=fun s v h e=>let ⟨x,h1,h2⟩:=I.old s v h e;⟨x,h1,Rep.mono le _ _ h2⟩
 new:=fun s v h e=>let ⟨x,h1,h2⟩:=I.new s v h e;⟨x,h1,Rep.mono le _ _ h2⟩
theorem Inv.done (I:Inv ops L D C rest eo env G tmps) {i:Nat}{o:Oper}(hi:ops[i]?=some o) (hm:i∈C) (hp:∀ p∈rH o,D p=true) {D':Nat→Bool}(hD':∀ k,D' k=true↔k=i∨D k=true) {a:Act}(ha:a.tmps=tmps) (hd:eL a.tmps.size o.dst=true)
  {v:AV} (hv:∀ d,o.dst=some d→get env d=some v) {x:Value} (hx:Rep G v x):Inv ops L D' C rest eo env G (a.put o.dst x).tmps:=by
 have keep:∀ s,o.dst≠some s→(a.put o.dst x).tmps[s]?=tmps[s]?:=fun s hs=>by
  rw[← ha]
  cases hdd:o.dst with
  | none=>rfl
  | some d=>rw[hdd]at hs;simp only[Act.put];rw[Array.getElem?_setIfInBounds_ne (fun e=>hs (congrArg some e))]
 refine⟨I.split,?_,?_,I.same,?_,?_⟩
 ·intro k ok hk hDk p hpm
  rcases (hD' k).1 hDk with rfl|hDk
  ·rw[hi]at hk;cases hk
   exact (hD' p).2 (.inr (hp p hpm))
  ·exact (hD' p).2 (.inr (I.closed k ok hk hDk p hpm))
 ·intro k hk
  rcases (hD' k).1 hk with rfl|hk
  ·exact hm
  ·exact I.sub k hk
 ·rintro s u ⟨k,ok,h1,h2,h3⟩ e
  have hne:k≠i∧D k=false:=by
   constructor
   ·rintro rfl
    have:=(hD' k).2 (.inl rfl)
    rw[h3]at this;cases this
   ·cases hDk:D k with
    | false=>rfl
    | true=>have:=(hD' k).2 (.inr hDk);rw[h3]at this;cases this
  rw[keep s fun hds=>hne.1 (hc.uniq h1 hi h2 hds)]
  exact I.old s u ⟨k,ok,h1,h2,hne.2⟩ e
 ·intro s u hs e
  by_cases hds:o.dst=some s
  ·rw[hv s hds]at e
   cases e
   refine⟨x,?_,hx⟩
   rw[hds]
   rw[hds]at hd
   simp only[eL,decide_eq_true_eq]at hd
   simp[Act.put,hd]
  ·rw[keep s hds]
   refine I.new s u (fun k ok h1 h2=>?_) e
   rcases (hD' k).1 (hs k ok h1 h2) with rfl|h
   ·rw[hi]at h1;cases h1;exact (hds h2).elim
   ·exact h
theorem Known.grow (I:Inv ops L D C rest eo env G tmps) {i:Nat}{post:List Nat}(hr:rest=i::post) {o:Oper}(hi:ops[i]?=some o) {env1:Env}(he:∀ s,get env1 s=get env s) {v:AV}{q:Nat}{oq:Oper}(hq:ops[q]?=some oq) (hm:q∈C)
  {h:ab} {pend pend':m8} (hpe:∀ p∈pend,p∈pend') (k:Known P n ops q oq eo env h pend):Known P n ops q oq eo (putD env1 o.dst v) h pend':=by
 obtain⟨hd,envq,vq,se,hv,hk⟩:=k.out
 have e:L=C++i::post:=by rw[I.split,hr]
 refine⟨hd,envq,vq,⟨fun s hs hw=>?_,se.r2⟩,fun d hdd=>?_,?_⟩
 ·rw[se.r1 s hs hw,I.get_put hc hr hi he]
  obtain⟨i0,o0,h1,h2,h3⟩:=hw
  intro hds
  have:=hc.uniq h1 hi h2 hds
  subst this
  obtain⟨A,B,rfl⟩:=List.append_of_mem hm
  have hA:=hc.must (A:=A) (i:=q) (B:=B++i0::post) (by rw[e];simp) h3
  have:=hc.notMem e
  simp[hA]at this
 ·rw[I.get_put hc hr hi he,hv d hdd]
  intro hds
  have:=hc.uniq hq hi hdd hds
  subst this
  exact hc.notMem e hm
 ·exact hk.imp id fun ⟨h1,h2,h3,h4⟩=>⟨h1,h2,h3,fun hh=>hpe _ (h4 hh)⟩
omit hc in
theorem vP {m:Nat}{h:ab}{k:Prop}:∀ {pend:m8},o7 m pend h k→k∧∀ p∈pend,m.testBit p.1=false→p.2 h
 | [],hk=>⟨hk,fun p hp=>by cases hp⟩
 | (q,c)::r,hk=>by
   simp only[o7]at hk
   split at hk
   ·rename_i hb
    obtain⟨h1,h2⟩:=vP hk
    refine⟨h1,fun p hp hb'=>?_⟩
    rcases List.mem_cons.1 hp with rfl|hp
    ·rw[hb]at hb';cases hb'
    ·exact h2 p hp hb'
   ·obtain⟨hc',hk⟩:=hk
    obtain⟨h1,h2⟩:=vP hk
    refine⟨h1,fun p hp hb'=>?_⟩
    rcases List.mem_cons.1 hp with rfl|hp
    ·exact hc'
    ·exact h2 p hp hb'
omit hc in
theorem lG {o:Oper}{envq:Env}{b:Bool}{a:Act}(r:EnvRep G (pG envq (o.looksAt ops)) a.tmps) (hg:gL ops o envq b):Region.wanted o (yielded ops a.tmps)=b:=by
 unfold gL at hg
 split at hg
 ·rename_i h0
  subst hg
  simp[Region.wanted,h0]
 ·rename_i j want h0
  obtain⟨sl,h1,h2⟩:=hg
  have hs:sl∈o.looksAt ops:=by simp[Oper.looksAt,h0,h1]
  rw[← m6 hs]at h2
  rcases h2 with h2|⟨rfl,h2⟩
  ·rw[rm h0 h1 r h2]
   cases b<;>cases want<;>rfl
  ·exact wa h0 h1 r h2
end
end
section
variable [Tabs]
section
variable {P:Program}{n:Nat}{ops:Array Oper}{L:List Nat}{ms:List (Nat×Nat)}
theorem D4 {p:Nat}{r:List Nat}{env:Env}{h:ab}{pend:m8}{K:Env→ab→Prop}(k:i7 P n ops ms (p::r) env h pend K):
  ∃ o env1,ops[p]?=some o∧(∀ s,get env1 s=get env s)∧
    ((gL ops o env1 true∧ny P n (nQ ms p) p o env1 h pend fun env' h' pend'=>i7 P n ops ms r env' h' pend' K)∨
     (gL ops o env1 false∧eL n o.dst=true∧i7 P n ops ms r (putD env1 o.dst (.tup [])) h pend K)):=by
 unfold i7 at k
 split at k
 ·exact k.elim
 ·rename_i o ho
  split at k
  ·rename_i hg
   exact⟨o,env,ho,fun _=>rfl,.inl ⟨by simp[gL,hg],k⟩⟩
  ·rename_i j want hg
   split at k
   ·exact k.elim
   ·rename_i s hs
    obtain⟨v,hv,k⟩:=ar k
    have same:∀ {u:AV},v=u→∀ t,get ((s,u)::env) t=get env t:=fun e t=>by
     simp only[get];split
     ·rename_i h;subst h;rw[hv,e]
     ·rfl
    replace k:=Ez k
    rcases k with ⟨e,k⟩|⟨e,k⟩|⟨e,k⟩
    ·refine⟨o,(s,B true)::env,ho,same e,?_⟩
     cases want
     ·simp only[Bool.false_eq_true,if_false]at k
      split at k
      ·exact .inr ⟨by simp only[gL,hg];exact⟨s,hs,.inl (by simp[get])⟩,‹_›,k⟩
      ·exact k.elim
     ·simp only[if_true]at k
      exact .inl ⟨by simp only[gL,hg];exact⟨s,hs,.inl (by simp[get])⟩,k⟩
    ·refine⟨o,(s,B false)::env,ho,same e,?_⟩
     cases want
     ·simp only[Bool.false_eq_true,if_false]at k
      exact .inl ⟨by simp only[gL,hg];exact⟨s,hs,.inl (by simp[get])⟩,k⟩
     ·simp only[if_true]at k
      split at k
      ·exact .inr ⟨by simp only[gL,hg];exact⟨s,hs,.inl (by simp[get])⟩,‹_›,k⟩
      ·exact k.elim
    ·refine⟨o,(s,.tup [])::env,ho,same e,?_⟩
     split at k
     ·exact .inr ⟨by simp only[gL,hg];exact⟨s,hs,.inr ⟨by simp,by simp[get]⟩⟩,‹_›,k⟩
     ·exact k.elim
variable {D:Nat→Bool}{eo:Env}{G:Gh}{tmps:Array Value}{h:ab}{K:Env→ab→Prop}(hc:Canon P ops L)
include hc
theorem oQ {env:Env}{d:Nat}{o:Option Tmp}(h:o=some d) (v:AV):get (putD env o v) d=some v:=by subst h;simp[putD,get]
theorem LF {i:Nat}{oi:Oper}(hi:ops[i]?=some oi) (hD:D i=false) (hp:∀ p∈rH oi,D p=true):∀ (rest C:List Nat) (env:Env) (pend:m8),Inv ops L D C rest eo env G tmps→i7 P n ops ms rest env h pend K→
  (∀ q∈C,D q=false→∀ oq,ops[q]?=some oq→Known P n ops q oq eo env h pend)→
  ∃ C' rest' env' pend',Inv ops L D C' rest' eo env' G tmps∧i7 P n ops ms rest' env' h pend' K∧(∀ q∈C',D q=false→∀ oq,ops[q]?=some oq→Known P n ops q oq eo env' h pend')∧(i∈C'∨∃ post,rest'=i::post∧qOp P oi.op=false)
 | [],C,env,pend,I,k,kn=>by
   refine⟨C,[],env,pend,I,k,kn,.inl ?_⟩
   have:=hc.all i oi hi
   rw[I.split]at this
   simpa using this
 | p::r,C,env,pend,I,k,kn=>by
   by_cases hm:i∈C
   ·exact⟨C,p::r,env,pend,I,k,kn,.inl hm⟩
   have k0:=k
   obtain⟨o,env1,ho,hsame,k⟩:=D4 k
   by_cases hq:qOp P o.op=true
   ·-- one that changes nothing
    have fin:∀ (v:AV) (pend':m8),(∀ x∈pend,x∈pend')→eL n o.dst=true→i7 P n ops ms r (putD env1 o.dst v) h pend' K→
      ((gL ops o env1 false∧v=.tup [])∨(gL ops o env1 true∧qOp P o.op=true∧(aop P env1 h o fun r h'=>r=v∧h'=h)∧(hOp P o.op=true→(p,fun h2=>aop P env1 h2 o fun r _=>r=v)∈pend')))→
      ∃ C' rest' env' pend',Inv ops L D C' rest' eo env' G tmps∧i7 P n ops ms rest' env' h pend' K∧(∀ q∈C',D q=false→∀ oq,ops[q]?=some oq→Known P n ops q oq eo env' h pend')∧(i∈C'∨∃ post,rest'=i::post∧qOp P oi.op=false):=by
     intro v pend' hpe hd k hk
     refine LF hi hD hp r (C++[p]) (putD env1 o.dst v) pend' (I.grow hc rfl ho hsame) k fun q hqm hqD oq hoq=>?_
     rcases List.mem_append.1 hqm with hqm|hqm
     ·exact (kn q hqm hqD oq hoq).grow hc I rfl ho hsame hoq hqm hpe
     ·have:q=p:=by simpa using hqm
      subst this
      rw[ho]at hoq;cases hoq
      have se:=I.sees hc rfl ho hsame
      have e:L=C++q::r:=I.split
      refine⟨hd,env1,v,⟨fun s hs hw=>?_,se.r2⟩,fun d hdd=>oQ hc hdd v,hk⟩
      rw[I.get_put hc rfl ho hsame,hsame]
      intro hds
      obtain⟨i0,o0,h1,h2,h3⟩:=hw
      have:=hc.uniq h1 ho h2 hds
      subst this
      exact hc.self ho h3
    rcases k with ⟨hg,k⟩|⟨hg,hd,k⟩
    ·unfold ny at k
     by_cases hd:eL n o.dst=true
     ·rw[if_pos hd,if_pos hq]at k
      obtain⟨v,k1,k2⟩:=Mh hq k
      refine fin v _ (fun x hx=>?_) hd k1 (.inr ⟨hg,hq,k2,fun hh=>?_⟩)
      ·split
       ·exact List.mem_cons_of_mem _ hx
       ·exact hx
      ·rw[if_pos hh];simp
     ·rw[if_neg hd]at k;exact k.elim
    ·exact fin (.tup []) pend (fun _ h=>h) hd k (.inl ⟨hg,rfl⟩)
   ·by_cases hpi:p=i
    ·subst hpi
     rw[hi]at ho;cases ho
     exact⟨C,p::r,env,pend,I,k0,kn,.inr ⟨r,rfl,by simpa using hq⟩⟩
    ·exfalso
     have hir:i∈r:=by
      have:=hc.all i oi hi
      rw[I.split]at this
      simp only[List.mem_append,List.mem_cons]at this
      rcases this with h|h|h
      ·exact (hm h).elim
      ·exact (hpi h.symm).elim
      ·exact h
     rcases (hc.pair (A:=C++[p]) (B:=r) (by rw[I.split];simp) p (by simp) i hir o oi ho hi).2.2 with h|h
     ·have:=h D I.closed fun o' ho' p' hp'=>by rw[hi]at ho';cases ho';exact hp p' hp'
      exact hc.notMem I.split (I.sub p this)
     ·exact hq h.1
theorem Mp {Q:Exit→Act→World→Prop}{next:Act→World→Prop}{o:Oper}{envq:Env}{a:Act}{w:World}{K':QT}(s:Sim G h w) (r:EnvRep G (pG envq (o.looksAt ops)) a.tmps) (k:aop P envq h o K')
  (hnext:∀ v x h' G' w',Rep G' v x→K' v h'→Sim G' h' w'→Evo G h w G' h' w'→next (a.put o.dst x) w'):o.wp P a w next Q:=by
 have k':aop P (pG envq (o.looksAt ops)) h o K':=by
  rw[N5 (env':=envq)]
  ·exact k
  ·intro t ht
   exact m6 (List.mem_append_left _ ht)
 unfold Oper.wp
 refine yN ?_
 have:=Rl s r k'
 unfold UpV at this ⊢
 split at this
 ·obtain⟨v,h',G',q1,q2,q3,q4⟩:=this;exact hnext _ _ _ _ _ q1 q2 q3 q4
 ·obtain⟨v,h',G',q1,q2,q3,q4⟩:=this;exact hnext _ _ _ _ _ q1 q2 q3 q4
 ·exact Calls.mono this fun e w'' ⟨x,he,hv⟩=>⟨x,he,by obtain⟨v,h',G',q1,q2,q3,q4⟩:=hv;exact hnext _ _ _ _ _ q1 q2 q3 q4⟩
 ·exact this.elim
omit hc in
theorem IT {p:Nat→Prop}:∀ {L:List Nat},(∃ x∈L,p x)→∃ A i B,L=A++i::B∧p i∧∀ x∈A,¬ p x
 | [],h=>by obtain⟨x,hx,_⟩:=h;cases hx
 | y::L,h=>by
   by_cases hy:p y
   ·exact⟨[],y,L,rfl,hy,fun x hx=>by cases hx⟩
   ·obtain⟨x,hx,hpx⟩:=h
    rcases List.mem_cons.1 hx with rfl|hx
    ·exact (hy hpx).elim
    ·obtain⟨A,i,B,rfl,h1,h2⟩:=IT ⟨x,hx,hpx⟩
     refine⟨y::A,i,B,rfl,h1,fun x hx=>?_⟩
     rcases List.mem_cons.1 hx with rfl|hx
     ·exact hy
     ·exact h2 x hx
theorem Mq {C rest:List Nat}{env:Env}{pend:m8}(I:Inv ops L D C rest eo env G tmps) (hall:∀ i o,ops[i]?=some o→D i=true) (k:i7 P n ops ms rest env h pend K):K env h∧EnvRep G env tmps:=by
 refine⟨?_,fun s v e=>I.new s v (fun i o hi _=>hall i o hi) e⟩
 cases rest with
 | nil=>exact k
 | cons p r=>
   exfalso
   obtain⟨o,ho,_⟩:=hc.order I.split
   exact hc.notMem I.split (I.sub p (hall p o ho))
theorem GD (hms:ms=ml ops L []) {h0:ab}{G0:Gh}{w0:World}{Df:List Deferred}{Q:Exit→Act→World→Prop}(hq:∀ a' w',z6 G0 h0 w0 n Df K a' w'→Q .normal a' w'):
  ∀ (fuel:Nat) (listed:Array Bool) (a:Act) (w:World) (G:Gh) (h:ab) (C rest:List Nat) (env:Env) (pend:m8) (U:List Nat),listed.size=ops.size→
    Inv ops L (fun k=>listed.getD k false) C rest eo env G a.tmps→(∀ q∈C,listed.getD q false=false→∀ oq,ops[q]?=some oq→Known P n ops q oq eo env h pend)→Sim G h w→a.tmps.size=n→a.defers=Df→Evo G0 h0 w0 G h w→
    i7 P n ops ms rest env h pend K→U.length≤fuel→(∀ i,i<ops.size→listed.getD i false=false→i∈U)→wpAny P .any ops Q fuel listed a w:=by
 intro fuel
 induction fuel with
 | zero=>
   intro listed a w G h C rest env pend U hsz I kn s hn hdf ev k hU hUm
   have hU0:U=[]:=by simpa using hU
   subst hU0
   have hall:∀ i o,ops[i]?=some o→listed.getD i false=true:=fun i o ho=>by
    cases hd:listed.getD i false with
    | true=>rfl
    | false=>have:=hUm i (Array.getElem?_eq_some_iff.1 ho).1 hd;cases this
   obtain⟨k1,k2⟩:=Mq hc I hall k
   refine⟨?_,hq a w ⟨env,h,G,k1,s,ev,k2,hn,hdf⟩⟩
   apply List.eq_nil_iff_forall_not_mem.2
   intro i hi
   obtain⟨hi0,o,ho,_⟩:=mem_ready.1 hi
   have h1:=hall i o ho
   have hlt:i<listed.size:=by rw[hsz];exact (Array.getElem?_eq_some_iff.1 ho).1
   simp[hlt]at hi0 h1
   rw[hi0]at h1;cases h1
 | succ fuel ih=>
   intro listed a w G h C rest env pend U hsz I kn s hn hdf ev k hU hUm
   refine⟨fun hr=>?_,fun i hir=>?_⟩
   ·-- nothing is ready: all is done
    have hall:∀ i o,ops[i]?=some o→listed.getD i false=true:=fun i o ho=>by
     cases hd:listed.getD i false with
     | true=>rfl
     | false=>
       exfalso
       obtain⟨A,j,B,e,h1,h2⟩:=IT (p:=fun k=>listed.getD k false=false) ⟨i,hc.all i o ho,hd⟩
       obtain⟨oj,hj,hpj⟩:=hc.order e
       have:j∈Region.ready .any ops listed:=mem_ready.2 ⟨by
        have hlt:j<listed.size:=by rw[hsz];exact (Array.getElem?_eq_some_iff.1 hj).1
        simp[hlt]at h1 ⊢;exact h1,oj,hj,fun e he hb=>by
         have:=h2 e.on (hpj e.on (List.mem_map.2 ⟨e,List.mem_filter.2 ⟨by simpa using he,hb⟩,rfl⟩))
         simpa using this⟩
       rw[hr]at this;cases this
    obtain⟨k1,k2⟩:=Mq hc I hall k
    exact hq a w ⟨env,h,G,k1,s,ev,k2,hn,hdf⟩
   ·obtain⟨hi0,o,ho,hpre⟩:=mem_ready.1 hir
    have hlt:i<listed.size:=by rw[hsz];exact (Array.getElem?_eq_some_iff.1 ho).1
    have hD:listed.getD i false=false:=by simp[hlt]at hi0 ⊢;exact hi0
    have hp:∀ p∈rH o,listed.getD p false=true:=fun p hp=>by
     obtain⟨e,he,rfl⟩:=List.mem_map.1 hp
     obtain⟨he1,he2⟩:=List.mem_filter.1 he
     exact hpre e (by simpa using he1) he2
    obtain⟨C',rest',env',pend',I',k',kn',hcase⟩:=LF hc ho hD hp rest C env pend I k kn
    have hD':∀ k,(listed.setIfInBounds i true).getD k false=true↔k=i∨listed.getD k false=true:=fun k=>by
     by_cases hki:i=k
     ·subst hki;simp[hlt]
     ·rw[getD_set_ne false hki];simp[Ne.symm hki]
    have hDf:∀ k,(listed.setIfInBounds i true).getD k false=false→k≠i∧listed.getD k false=false:=fun k hk=>by
     have:=hD' k
     rw[hk]at this
     simp only[Bool.false_eq_true,false_iff,not_or,Bool.not_eq_true]at this
     exact this
    have hU':(U.erase i).length≤fuel:=by
     have:=hUm i (by rw[← hsz];exact hlt) hD
     rw[List.length_erase_of_mem this];omega
    have hUm':∀ j,j<ops.size→(listed.setIfInBounds i true).getD j false=false→j∈U.erase i:=fun j hj hjD=>by
     obtain⟨q1,q2⟩:=hDf j hjD
     exact (List.mem_erase_of_ne q1).2 (hUm j hj q2)
    unfold wpOp
    simp only[ho]
    rcases hcase with hm|⟨post,rfl,hnq⟩
    ·-- rE already
     obtain⟨hd,envq,v,se,hv,hk⟩:=(kn' i hm hD o ho).out
     have hr:=I'.reads hc ho hD hp se
     have go:∀ (x:Value) (G':Gh) (w':World),Rep G' v x→Sim G' h w'→Evo G h w G' h w'→wpAny P .any ops Q fuel (listed.setIfInBounds i true) (a.put o.dst x) w':=fun x G' w' hx s' ev'=>
      ih _ _ w' G' h C' rest' env' pend' (U.erase i) (by simp[hsz]) ((I'.mono ev'.le).done hc ho hm hp hD' rfl (by rw[hn];exact hd) hv hx)
       (fun q hqm hqD oq hoq=>kn' q hqm (hDf q hqD).2 oq hoq) s' (by rw[AL.put_size,hn]) (by rw[AL.put_defers,hdf]) (ev.trans ev') k' hU' hUm'
     rcases hk with ⟨hg,rfl⟩|⟨hg,hqo,hk,_⟩
     ·rw[lG hr hg]
      simp only[Bool.false_eq_true,if_false]
      exact go undef G w (by simp[Rep,RepL,undef]) s (Evo.refl _ _ _)
     ·rw[lG hr hg]
      simp only[if_true]
      refine .inl (Mp (G:=G) (h:=h) hc s hr hk fun v' x h' G' w' hx hk' s' ev'=>?_)
      obtain⟨rfl,rfl⟩:=hk'
      exact go x G' w' hx s' ev'
    ·-- the next one in the order
     obtain⟨o',env1,ho',hsame,k'⟩:=D4 k'
     rw[ho]at ho';cases ho'
     have se:=I'.sees hc rfl ho hsame
     have hr:=I'.reads hc ho hD hp se
     have grown:∀ {v:AV} {q:Nat} {oq:Oper} {pend2:m8},ops[q]?=some oq→q∈C'++[i]→(listed.setIfInBounds i true).getD q false=false→Known P n ops q oq eo (putD env1 o.dst v) h pend':=fun {v q oq pend2} hoq hqm hqD=>by
      obtain⟨q1,q2⟩:=hDf q hqD
      have hqm:q∈C':=by
       rcases List.mem_append.1 hqm with h|h
       ·exact h
       ·exact (q1 (by simpa using h)).elim
      exact (kn' q hqm q2 oq hoq).grow hc I' rfl ho hsame hoq hqm fun _ h=>h
     rcases k' with ⟨hg,k'⟩|⟨hg,hd,k'⟩
     ·rw[lG hr hg]
      simp only[if_true]
      unfold ny at k'
      by_cases hd:eL n o.dst=true
      ·rw[if_pos hd,if_neg (by simp[hnq])]at k'
       refine .inl (Mp (G:=G) (h:=h) hc s hr k' fun v x h' G' w' hx hk' s' ev'=>?_)
       obtain⟨hk1,hk2⟩:=vP hk'
       have I2:=((I'.grow hc rfl ho hsame (v:=v)).mono ev'.le).done hc ho (by simp) hp hD' (a:=a) rfl (by rw[hn];exact hd) (fun d hdd=>oQ hc hdd v) hx
       refine ih _ _ w' G' h' _ post _ pend' (U.erase i) (by simp[hsz]) I2 (fun q hqm hqD oq hoq=>?_) s' (by rw[AL.put_size,hn]) (by rw[AL.put_defers,hdf]) (ev.trans ev') hk1 hU' hUm'
       obtain⟨hdq,envq,vq,seq,hvq,hkq⟩:=(grown (v:=v) (pend2:=pend') hoq hqm hqD).out
       refine⟨hdq,envq,vq,seq,hvq,?_⟩
       rcases hkq with hkq|⟨g1,g2,g3,g4⟩
       ·exact .inl hkq
       ·refine .inr ⟨g1,g2,?_,g4⟩
        have up:∀ (k:aop P envq h' oq fun r _=>r=vq),aop P envq h' oq fun r h''=>r=vq∧h''=h':=fun k=>by
         obtain⟨v2,e,k2⟩:=Mh g2 k
         subst e;exact k2
        by_cases hh:hOp P oq.op=true
        ·refine up (hk2 _ (g4 hh) ?_)
         cases hb:(nQ ms i).testBit q with
         | false=>rfl
         | true=>
           exfalso
           rw[hms]at hb
           have hmust:=tp L [] (fun i j hb=>by simp[nQ]at hb) i q hb
           have:=hmust (fun k=>listed.getD k false) I'.closed fun o' ho' p hp'=>by rw[ho]at ho';cases ho';exact hp p hp'
           simp only[(hDf q hqD).2]at this
           cases this
        ·exact up (Re g2 (by simpa using hh) (iX (fun v h e=>e.1) g3))
      ·rw[if_neg hd]at k';exact k'.elim
     ·rw[lG hr hg]
      simp only[Bool.false_eq_true,if_false]
      have I2:=(I'.grow hc rfl ho hsame (v:=.tup [])).done hc ho (by simp) hp hD' (a:=a) rfl (by rw[hn];exact hd) (fun d hdd=>oQ hc hdd _) (x:=undef) (by simp[Rep,RepL,undef])
      exact ih _ _ w G h _ post _ pend' (U.erase i) (by simp[hsz]) I2 (fun q hqm hqD oq hoq=>grown (pend2:=pend') hoq hqm hqD) s (by rw[AL.put_size,hn]) (by rw[AL.put_defers,hdf]) ev k' hU' hUm'
end
section
variable {P:Program}{n:Nat}
theorem ug (m i:Nat):(Array.replicate m false).getD i false=false:=by
 rw[Array.getD_eq_getD_getElem?,Array.getElem?_replicate]
 split<;>rfl
theorem DU {id:Nat}{ops:Array Oper}{L:List Nat}{env:Env}{h:ab}{K:Exit→Env→ab→Prop}(hm:P.follows .mixedOrders=true) (hok:lD P ops L=true)
  (k:i7 P n ops (ml ops L []) L env h [] fun env' h'=>K .normal env' h'):AWp P n (.region id ops true) env h K:=by
 intro G w a s hn r
 have hc:=Ip hok
 refine wp_region_any hm ?_
 have s':Sim G h { w with drawn:=w.drawn+1 }:=(s.drawn _).1
 have ev:Evo G h w G h { w with drawn:=w.drawn+1 }:=⟨Gh.le.refl G,Nat.le_refl _,rfl,rfl,rfl,fun _ _ _=>rfl,fun _ h=>.inl h,fun _ _ _ h=>.inl h⟩
 refine GD (eo:=env) hc rfl (G0:=G) (h0:=h) (w0:=w) (Df:=a.defers) (K:=fun env' h'=>K .normal env' h') (fun a' w' p=>p) ops.size _ a _ G h [] L env [] (List.range ops.size) (by simp) ⟨rfl,?_,?_,?_,?_,?_⟩ ?_ s' hn rfl ev k (by simp) (fun i hi _=>List.mem_range.2 hi)
 ·intro i o ho hd p hp
  have:=(ug ops.size i).symm.trans hd;cases this
 ·intro i hd
  have:=(ug ops.size i).symm.trans hd;cases this
 ·exact fun s _=>rfl
 ·exact fun s v _ e=>r s v e
 ·exact fun s v _ e=>r s v e
 ·intro q hq;cases hq
end
end
section
variable [Tabs]
section
variable {P:Program}{G:Gh}{h:ab}{w:World}{n:Nat}{ops:Array Oper}{Q:Exit→Act→World→Prop}
def Kf (p:Nat) (o:Oper):Oper:={ o with after:=o.after.push { on:=p,ground:=.data } }
def cV (ops:Array Oper) (p q:Nat):Array Oper:=ops.modify q (Kf p)
theorem wc (p q i:Nat):(cV ops p q)[i]?=if q=i then ops[i]?.map (Kf p) else ops[i]?:=by
 simp[cV,Array.getElem?_modify]
theorem uh (p q:Nat):(cV ops p q).size=ops.size:=by simp[cV]
theorem FK (p q:Nat) (t:Array Value):yielded (cV ops p q) t=yielded ops t:=by
 funext j
 unfold yielded
 have:((cV ops p q)[j]?).bind (·.dst)=(ops[j]?).bind (·.dst):=by
  rw[wc]
  split
  ·cases ops[j]?<;>rfl
  ·rfl
 rw[this]
theorem vy (p q:Nat):∀ (l:List Nat) (a:Act) (w:World),wpOps P (cV ops p q) Q l a w→wpOps P ops Q l a w
 | [],a,w,h=>h
 | i::l,a,w,h=>by
   rw[wpOps_cons]at h ⊢
   have h:=wpOp_mono (fun a w=>vy p q l a w) h
   unfold wpOp at h ⊢
   rw[wc,FK]at h
   by_cases e:q=i
   ·rw[if_pos e]at h
    cases ho:ops[i]? with
    | none=>rw[ho]at h;exact h
    | some o=>rw[ho]at h;exact h
   ·rw[if_neg e]at h;exact h
def IX (ops:Array Oper):Array Bool→List Nat→Prop
 | d,[]=>Region.ready .any ops d=[]
 | d,i::r=>i∈Region.ready .any ops d∧IX ops (d.setIfInBounds i true) r
theorem vV:∀ (l:List Nat) (fuel:Nat) (d:Array Bool) (a:Act) (w:World),IX ops d l→wpAny P .any ops Q fuel d a w→wpOps P ops Q l a w
 | [],0,d,a,w,g,h=>by simpa [wpOps] using h.2
 | [],f+1,d,a,w,g,h=>by simpa [wpOps] using h.1 g
 | i::l,0,d,a,w,g,h=>by have:=g.1;rw[h.1]at this;cases this
 | i::l,f+1,d,a,w,g,h=>by
   rw[wpOps_cons]
   exact wpOp_mono (fun a w=>vV l f _ a w g.2) (h.2 i g.1)
def nX (d:Array Bool) (m:Nat):List Nat:=(List.range m).filter fun i=>!d.getD i true
theorem Rv {d:Array Bool}{i m:Nat}(h:i∈nX d m):(nX (d.setIfInBounds i true) m).length<(nX d m).length:=by
 have hs:(nX (d.setIfInBounds i true) m)=(nX d m).filter (· != i):=by
  unfold nX
  rw[List.filter_filter]
  refine List.filter_congr fun k hk=>?_
  rw[Array.getD_eq_getD_getElem?,Array.getD_eq_getD_getElem?,Array.getElem?_setIfInBounds]
  by_cases e:i=k
  ·subst e;by_cases hb:i<d.size<;>simp[hb]
  ·have e':k≠i:=fun h=>e h.symm
   simp[e,e']
 rw[hs]
 exact List.length_filter_lt_length_iff_exists.2 ⟨i,h,by simp⟩
theorem vQ {d:Array Bool}{i:Nat}(h:i∈Region.ready .any ops d):i∈nX d ops.size:=by
 unfold Region.ready at h
 unfold nX
 simp only[List.mem_filter,Bool.and_eq_true]at h ⊢
 exact⟨h.1,h.2.1⟩
theorem HL:∀ (fuel t:Nat) (d:Array Bool),(nX d ops.size).length≤fuel→IX ops d (Region.linearise.go .any ops fuel t d [])
 | 0,t,d,h=>by
   show Region.ready .any ops d=[]
   refine List.eq_nil_iff_forall_not_mem.2 fun i hi=>?_
   have:=vQ hi
   have h0:nX d ops.size=[]:=by simpa using h
   rw[h0]at this;cases this
 | f+1,t,d,h=>by
   simp only[Region.linearise.go]
   change IX ops d (match (Region.ready .any ops d)[t%(Region.ready .any ops d).length]? with
    | some i=>Region.linearise.go .any ops f (t / (Region.ready .any ops d).length) (d.setIfInBounds i true) [i]
    | none=>[].reverse)
   cases hi:(Region.ready .any ops d)[t%(Region.ready .any ops d).length]? with
   | none=>
     show Region.ready .any ops d=[]
     cases hr:Region.ready .any ops d with
     | nil=>rfl
     | cons x xs=>
       rw[hr]at hi
       have hlt:t%(x::xs).length<(x::xs).length:=Nat.mod_lt _ (by simp)
       simp at hi
       simp at hlt
       omega
   | some i=>
     have hm:=List.mem_of_getElem? hi
     simp only[]
     rw[linearise_go_acc,List.reverse_singleton,List.singleton_append]
     have:=Rv (vQ hm)
     exact⟨hm,HL f _ _ (by omega)⟩
theorem vJ {p q i:Nat}{d:Array Bool}(h:i∈Region.ready .any ops d) (hq:i=q→d.getD p false=true):i∈Region.ready .any (cV ops p q) d:=by
 unfold Region.ready at h ⊢
 rw[uh]
 simp only[List.mem_filter,Bool.and_eq_true]at h ⊢
 refine⟨h.1,h.2.1,?_⟩
 rw[wc]
 have h2:=h.2.2
 split
 ·rename_i e
  cases ho:ops[i]? with
  | none=>rw[ho]at h2;cases h2
  | some o=>
    rw[ho]at h2
    simp only[Option.map_some,Option.getD_some]at h2 ⊢
    show ((o.after.push _).all _)=true
    rw[Array.all_push,h2]
    simp[hq e.symm]
 ·exact h2
theorem JS {p q i:Nat}{d:Array Bool}(h:i∈Region.ready .any (cV ops p q) d):i∈Region.ready .any ops d:=by
 unfold Region.ready at h ⊢
 rw[uh]at h
 simp only[List.mem_filter,Bool.and_eq_true]at h ⊢
 refine⟨h.1,h.2.1,?_⟩
 have h2:=h.2.2
 rw[wc]at h2
 split at h2
 ·cases ho:ops[i]? with
  | none=>rw[ho]at h2;cases h2
  | some o=>
    rw[ho]at h2
    simp only[Option.map_some,Option.getD_some]at h2 ⊢
    have h2:((o.after.push { on:=p,ground:=.data }).all _)=true:=h2
    rw[Array.all_push,Bool.and_eq_true]at h2
    exact h2.1
 ·exact h2
def LO (p q:Nat):List Nat→Prop
 | []=>True
 | i::r=>i=p∨(i≠q∧LO p q r)
theorem IK {p q:Nat}:∀ l:List Nat,LO p q l∨LO q p l
 | []=>.inl trivial
 | i::l=>by
   by_cases h1:i=p
   ·exact .inl (.inl h1)
   by_cases h2:i=q
   ·exact .inr (.inl h2)
   rcases IK l with h|h
   ·exact .inl (.inr ⟨h2,h⟩)
   ·exact .inr (.inr ⟨h1,h⟩)
theorem G5 {p q:Nat}{d:Array Bool}(h:Region.ready .any ops d=[]):Region.ready .any (cV ops p q) d=[]:=
 List.eq_nil_iff_forall_not_mem.2 fun i hi=>by have:=JS hi;rw[h]at this;cases this
theorem Dn {p q:Nat}:∀ (l:List Nat) (d:Array Bool),d.getD p false=true→IX ops d l→IX (cV ops p q) d l
 | [],d,hd,g=>G5 g
 | i::l,d,hd,g=>by
   refine⟨vJ g.1 fun _=>hd,Dn l _ ?_ g.2⟩
   rw[Array.getD_eq_getD_getElem?]at hd ⊢
   rw[Array.getElem?_setIfInBounds]
   split
   ·split
    ·rfl
    ·rename_i h1 h2;subst h1;rw[Array.getElem?_eq_none (by omega)]at hd;cases hd
   ·exact hd
theorem Px {i m:Nat}{d:Array Bool}(h:i∈nX d m):(d.setIfInBounds i true).getD i false=true:=by
 unfold nX at h
 simp only[List.mem_filter]at h
 have h2:=h.2
 rw[Array.getD_eq_getD_getElem?]at h2 ⊢
 rw[Array.getElem?_setIfInBounds]
 by_cases hb:i<d.size
 ·simp[hb]
 ·rw[Array.getElem?_eq_none (by omega)]at h2;cases h2
theorem xn {p q:Nat}(hpq:p≠q):∀ (l:List Nat) (d:Array Bool),LO p q l→IX ops d l→IX (cV ops p q) d l
 | [],d,_,g=>G5 g
 | i::l,d,.inl e,g=>by
   subst e
   exact⟨vJ g.1 fun e=>(hpq e).elim,Dn l _ (Px (vQ g.1)) g.2⟩
 | i::l,d,.inr ⟨e,r⟩,g=>⟨vJ g.1 fun h=>(e h).elim,xn hpq l _ r g.2⟩
theorem El {L:List Nat}{env:Env}{K:Env→ab→Prop}{a:Act}{Q:Exit→Act→World→Prop}(hq:∀ a' w',z6 G h w n a.defers K a' w'→Q .normal a' w') (hok:lD P ops L=true) (s:Sim G h w) (hn:a.tmps.size=n) (r:EnvRep G env a.tmps)
  (k:i7 P n ops (ml ops L []) L env h [] K):wpAny P .any ops Q ops.size (Array.replicate ops.size false) a { w with drawn:=w.drawn+1 }:=by
 have hc:=Ip hok
 have s':Sim G h { w with drawn:=w.drawn+1 }:=(s.drawn _).1
 have ev:Evo G h w G h { w with drawn:=w.drawn+1 }:=⟨Gh.le.refl G,Nat.le_refl _,rfl,rfl,rfl,fun _ _ _=>rfl,fun _ h=>.inl h,fun _ _ _ h=>.inl h⟩
 refine GD (eo:=env) hc rfl (G0:=G) (h0:=h) (w0:=w) (Df:=a.defers) (K:=K) hq ops.size _ a _ G h [] L env [] (List.range ops.size) (by simp) ⟨rfl,?_,?_,?_,?_,?_⟩ ?_ s' hn rfl ev k (by simp) (fun i hi _=>List.mem_range.2 hi)
 ·intro i o ho hd p hp
  have:=(ug ops.size i).symm.trans hd;cases this
 ·intro i hd
  have:=(ug ops.size i).symm.trans hd;cases this
 ·exact fun s _=>rfl
 ·exact fun s v _ e=>r s v e
 ·exact fun s v _ e=>r s v e
 ·intro q hq;cases hq
def Ue (ops:Array Oper) (p q:Nat) (L L2:List Nat) (P:Program):Bool:=p != q&&lD P (cV ops p q) L&&lD P (cV ops q p) L2
theorem OT {id p q:Nat}{L L2:List Nat}{env:Env}{K:Exit→Env→ab→Prop}(hm:P.follows .mixedOrders=true) (hok:Ue ops p q L L2 P=true)
  (k1:i7 P n (cV ops p q) (ml (cV ops p q) L []) L env h [] fun env' h'=>K .normal env' h')
  (k2:i7 P n (cV ops q p) (ml (cV ops q p) L2 []) L2 env h [] fun env' h'=>K .normal env' h'):AWp P n (.region id ops true) env h K:=by
 intro G w a s hn r
 simp only[Ue,Bool.and_eq_true,bne_iff_ne]at hok
 obtain⟨⟨hpq,h1⟩,h2⟩:=hok
 refine wp_region_draw fun t=>?_
 simp only[Region.schedule,hm,Bool.true_or,if_true]
 have hf:(nX (Array.replicate ops.size false) ops.size).length≤ops.size:=by
  have:=List.length_filter_le (fun i=>!(Array.replicate ops.size false).getD i true) (List.range ops.size)
  simpa [nX] using this
 have g:=HL ops.size t (Array.replicate ops.size false) hf
 unfold Region.linearise
 generalize Region.linearise.go .any ops ops.size t (Array.replicate ops.size false) []=l at g ⊢
 rcases IK (p:=p) (q:=q) l with c|c
 ·have w1:=El (Q:=Post G h w n a.defers K) (fun a' w' p=>p) h1 s hn r k1
  rw[uh]at w1
  exact vy p q l a _ (vV l _ _ a _ (xn hpq l _ c g) w1)
 ·have w1:=El (Q:=Post G h w n a.defers K) (fun a' w' p=>p) h2 s hn r k2
  rw[uh]at w1
  exact vy q p l a _ (vV l _ _ a _ (xn (fun e=>hpq e.symm) l _ c g) w1)
end
end
section
variable [Tabs]
section
variable {P:Program}{G:Gh}{h:ab}{w:World}{n:Nat}
def den (P:Program) (n:Nat) (pl:E9):Code→Env→ab→(Exit→Env→ab→Prop)→Prop
 | .skip,env,h,K=>K .normal env h
 | .ret,env,h,K=>K .ret env h
 | .exit id,env,h,K=>K (.exit id) env h
 | .goto l,env,h,K=>K (.goto l) env h
 | .label _,env,h,K=>K .normal env h
 | .region _ ops false,env,h,K=>hH P n ops (List.range ops.size) env h fun env' h'=>K .normal env' h'
 | .region id ops true,env,h,K=>match Kz pl (1000000+id) with
   | some (l,[])=>if (P.follows .mixedOrders&&lD P ops l)=true then i7 P n ops (ml ops l []) l env h [] fun env' h'=>K .normal env' h' else False
   | some (l,p::q::l2)=>if (P.follows .mixedOrders&&Ue ops p q l l2 P)=true then (i7 P n (cV ops p q) (ml (cV ops p q) l []) l env h [] fun env' h'=>K .normal env' h')∧(i7 P n (cV ops q p) (ml (cV ops q p) l2 []) l2 env h [] fun env' h'=>K .normal env' h') else False
   | _=>False
 | .seq x y,env,h,K=>den P n pl x env h fun e env' h'=>match e with|.normal=>den P n pl y env' h' K|e=>K e env' h'
 | .cond c x y,env,h,K=>bO (opv env c) fun v=>ifB v (den P n pl x env h K) (den P n pl y env h K)
 | .block id c,env,h,K=>den P n pl c env h fun e env' h'=>match e with|.exit i=>if i=id then K .normal env' h' else K (.exit i) env' h'|e=>K e env' h'
 | .loop c,env,h,K=>match Kz pl (n8 c) with
   | some (ws,ks)=>if JY c ws ks=true then UL ws ks (fun env' h' K'=>den P n pl c env' h' K') env h K else False
   | none=>False
 | _,_,_,_=>False
end
section
variable {P:Program}{n:Nat}{pl:E9}
theorem rV:∀ {ks:List Nat}{vs pre ws:List AV}{env env':Env}{s:Nat}{a:AV},vs=pre++ws→zH env' ks=some ws→get (kD vs pre.length ks++env) s=some a→get env' s=some a∨get env s=some a
 | [],vs,pre,ws,env,env',s,a,hv,h,e=>.inr (by simpa [kD] using e)
 | k::ks,vs,pre,ws,env,env',s,a,hv,h,e=>by
   simp only[zH]at h
   split at h
   ·rename_i v vs' h1 h2
    cases h
    simp only[kD,List.cons_append,get]at e
    split at e
    ·rename_i hk
     subst hk
     subst hv
     simp[af]at e
     subst e
     exact .inl h1
    ·exact rV (vs:=vs) (pre:=pre++[v]) (ws:=vs') (by rw[hv];simp) h2 (by simpa using e)
   ·cases h
theorem Ol {ks:List Nat}{vs:List AV}{env env':Env}(h:zH env ks=some vs) (k:∀ s a,get env' s=some a→get env s=some a) (s:Nat) (a:AV) (e:get (kD vs 0 ks++env') s=some a):get env s=some a:=
 (rV (pre:=[]) (by simp) h e).elim id (k s a)
def Keep (ws:List Nat) (env env':Env):Prop:=∀ s,s∉ws→get env' s=get env s
theorem Keep.refl (ws:List Nat) (env:Env):Keep ws env env:=fun _ _=>rfl
theorem Keep.trans {ws:List Nat}{a b c:Env}(x:Keep ws a b) (y:Keep ws b c):Keep ws a c:=fun s hs=>(y s hs).trans (x s hs)
theorem Keep.mono {ws ws':List Nat}{a b:Env}(x:Keep ws a b) (h:∀ s,s∈ws→s∈ws'):Keep ws' a b:=fun s hs=>x s fun m=>hs (h s m)
theorem Keep.putD {ws:List Nat}(env:Env) {d:Option Tmp}(v:AV) (h:∀ s,d=some s→s∈ws):Keep ws env (putD env d v):=fun s hs=>by
 cases d with
 | none=>rfl
 | some d=>
   simp only[AL.putD,get]
   rw[if_neg (fun e=>by subst e;exact hs (h d rfl))]
theorem Keep.know {ws:List Nat}(env:Env) {s:Nat}(v:AV) (h:s∈ws):Keep ws env ((s,v)::env):=fun k hk=>by
 simp only[get]
 rw[if_neg (fun e=>by subst e;exact hk h)]
def rS (ops:Array Oper):List Nat:=ops.toList.filterMap (·.dst)
theorem wi {ops:Array Oper}{i s:Nat}{o:Oper}(ho:ops[i]?=some o) (hd:o.dst=some s):s∈rS ops:=by
 simp only[rS,List.mem_filterMap]
 exact⟨o,Array.mem_toList_iff.2 (Array.mem_of_getElem? ho),hd⟩
theorem AR {env:Env}{h:ab}{o:Oper}{K K':Env→ab→Prop}(hk:∀ v h',K (putD env o.dst v) h'→K' (putD env o.dst v) h') (k:ni P n env h o K):ni P n env h o K':=by
 unfold ni at *
 split at k
 ·rename_i hd;rw[if_pos hd];exact iX (fun v h' k=>hk v h' k) k
 ·exact k.elim
theorem qi (ops:Array Oper):∀ (l:List Nat) (env:Env) (h:ab) (K K':Env→ab→Prop),(∀ env' h',Keep (rS ops) env env'→K env' h'→K' env' h')→hH P n ops l env h K→hH P n ops l env h K'
 | [],env,h,K,K',hk,k=>hk env h (Keep.refl _ _) k
 | i::rest,env,h,K,K',hk,k=>by
   unfold hH at *
   split at k
   ·exact k.elim
   ·rename_i o ho
    have hd:∀ s,o.dst=some s→s∈rS ops:=fun s e=>wi ho e
    have go:∀ {env1:Env},Keep (rS ops) env env1→ni P n env1 h o (fun env' h'=>hH P n ops rest env' h' K)→ni P n env1 h o (fun env' h'=>hH P n ops rest env' h' K'):=fun hk1 k=>
     AR (fun v h' k=>qi ops rest _ h' K K' (fun env2 h2 hk2 k2=>hk env2 h2 ((hk1.trans (Keep.putD _ v hd)).trans hk2) k2) k) k
    have skip:∀ {env1:Env},Keep (rS ops) env env1→hH P n ops rest (putD env1 o.dst (.tup [])) h K→hH P n ops rest (putD env1 o.dst (.tup [])) h K':=fun hk1 k=>
     qi ops rest _ h K K' (fun env2 h2 hk2 k2=>hk env2 h2 ((hk1.trans (Keep.putD _ _ hd)).trans hk2) k2) k
    split at k
    ·exact go (Keep.refl _ _) k
    ·rename_i j want hg
     split at k
     ·exact k.elim
     ·rename_i sl hsl
      have hs:sl∈rS ops:=by
       cases hj:ops[j]? with
       | none=>simp[hj]at hsl
       | some oj=>rw[hj]at hsl;exact wi hj (by simpa using hsl)
      refine bj (fun v k=>IU ?_ ?_ ?_ k) _ k
      ·intro k
       split at k
       ·rename_i hw;rw[if_pos hw];exact go (Keep.know _ _ hs) k
       ·rename_i hw
        rw[if_neg hw]
        split at k
        ·rename_i hd;rw[if_pos hd];exact skip (Keep.know _ _ hs) k
        ·exact k.elim
      ·intro k
       split at k
       ·rename_i hw
        rw[if_pos hw]
        split at k
        ·rename_i hd;rw[if_pos hd];exact skip (Keep.know _ _ hs) k
        ·exact k.elim
       ·rename_i hw;rw[if_neg hw];exact go (Keep.know _ _ hs) k
      ·intro k
       split at k
       ·rename_i hd;rw[if_pos hd];exact skip (Keep.know _ _ hs) k
       ·exact k.elim
theorem sw {m:Nat}{h:ab}{k k':Prop}(hk:k→k'):∀ {pend:m8},o7 m pend h k→o7 m pend h k'
 | [],x=>hk x
 | (q,c)::r,x=>by
   simp only[o7]at x ⊢
   split at x
   ·rename_i hb;rw[if_pos hb];exact sw hk x
   ·rename_i hb;rw[if_neg hb];exact⟨x.1,sw hk x.2⟩
theorem A1 {m i:Nat}{env:Env}{h:ab}{o:Oper}{pend:m8}{K K':Env→ab→m8→Prop}(hk:∀ v h' pend',K (putD env o.dst v) h' pend'→K' (putD env o.dst v) h' pend') (k:ny P n m i o env h pend K):ny P n m i o env h pend K':=by
 unfold ny at *
 by_cases hd:eL n o.dst=true
 ·rw[if_pos hd]at k ⊢
  by_cases hq:qOp P o.op=true
  ·rw[if_pos hq]at k ⊢;exact iX (fun v h' k=>hk v h' _ k) k
  ·rw[if_neg hq]at k ⊢;exact iX (fun v h' k=>sw (hk v h' _) k) k
 ·rw[if_neg hd]at k;exact k.elim
theorem mY (ops:Array Oper) (ms:List (Nat×Nat)):∀ (l:List Nat) (env:Env) (h:ab) (pend:m8) (K K':Env→ab→Prop),(∀ env' h',Keep (rS ops) env env'→K env' h'→K' env' h')→i7 P n ops ms l env h pend K→i7 P n ops ms l env h pend K'
 | [],env,h,pend,K,K',hk,k=>hk env h (Keep.refl _ _) k
 | i::rest,env,h,pend,K,K',hk,k=>by
   unfold i7 at *
   split at k
   ·exact k.elim
   ·rename_i o ho
    have hd:∀ s,o.dst=some s→s∈rS ops:=fun s e=>wi ho e
    have go:∀ {env1:Env},Keep (rS ops) env env1→ny P n (nQ ms i) i o env1 h pend (fun env' h' pend'=>i7 P n ops ms rest env' h' pend' K)→ny P n (nQ ms i) i o env1 h pend (fun env' h' pend'=>i7 P n ops ms rest env' h' pend' K'):=fun hk1 k=>
     A1 (fun v h' pend' k=>mY ops ms rest _ h' pend' K K' (fun env2 h2 hk2 k2=>hk env2 h2 ((hk1.trans (Keep.putD _ v hd)).trans hk2) k2) k) k
    have skip:∀ {env1:Env},Keep (rS ops) env env1→i7 P n ops ms rest (putD env1 o.dst (.tup [])) h pend K→i7 P n ops ms rest (putD env1 o.dst (.tup [])) h pend K':=fun hk1 k=>
     mY ops ms rest _ h pend K K' (fun env2 h2 hk2 k2=>hk env2 h2 ((hk1.trans (Keep.putD _ _ hd)).trans hk2) k2) k
    split at k
    ·exact go (Keep.refl _ _) k
    ·rename_i j want hg
     split at k
     ·exact k.elim
     ·rename_i sl hsl
      have hs:sl∈rS ops:=by
       cases hj:ops[j]? with
       | none=>simp[hj]at hsl
       | some oj=>rw[hj]at hsl;exact wi hj (by simpa using hsl)
      refine bj (fun v k=>IU ?_ ?_ ?_ k) _ k
      ·intro k
       split at k
       ·rename_i hw;rw[if_pos hw];exact go (Keep.know _ _ hs) k
       ·rename_i hw
        rw[if_neg hw]
        split at k
        ·rename_i hd;rw[if_pos hd];exact skip (Keep.know _ _ hs) k
        ·exact k.elim
      ·intro k
       split at k
       ·rename_i hw
        rw[if_pos hw]
        split at k
        ·rename_i hd;rw[if_pos hd];exact skip (Keep.know _ _ hs) k
        ·exact k.elim
       ·rename_i hw;rw[if_neg hw];exact go (Keep.know _ _ hs) k
      ·intro k
       split at k
       ·rename_i hd;rw[if_pos hd];exact skip (Keep.know _ _ hs) k
       ·exact k.elim
theorem kr {ws:List Nat}:∀ {env:Env}{s:Nat}{a:AV},get (gJ ws env) s=some a→s∉ws
 | [],s,a,e=>by simp[gJ,get]at e
 | (k,v)::env,s,a,e=>by
   simp only[gJ,List.filter_cons]at e
   split at e
   ·rename_i hc
    simp only[get]at e
    split at e
    ·rename_i hk;subst hk;simpa using hc
    ·exact kr (env:=env) e
   ·exact kr (env:=env) e
theorem sL {ws:List Nat}{s:Nat}(hs:s∉ws):∀ (env:Env),get (gJ ws env) s=get env s
 | []=>rfl
 | (k,v)::env=>by
   simp only[gJ,List.filter_cons]
   have ih:=sL hs env
   simp only[gJ]at ih
   split
   ·simp only[get,ih]
   ·rename_i hc
    have hne:k≠s:=fun e=>by subst e;simp at hc;exact hs hc
    simp only[get,if_neg hne,ih]
theorem oG:∀ {ks:List Nat}{vs:List AV}{i:Nat}{env:Env}{s:Nat},s∉ks→get (kD vs i ks++env) s=get env s
 | [],vs,i,env,s,_=>by simp[kD]
 | k::ks,vs,i,env,s,h=>by
   simp only[List.mem_cons,not_or]at h
   simp only[kD,List.cons_append,get,if_neg (Ne.symm h.1)]
   exact oG h.2
theorem Dw (ops:Array Oper) (p q:Nat):rS (cV ops p q)=rS ops:=by
 unfold rS cV
 apply List.ext_getElem?
 have e:∀ l:List Oper,∀ k,(l.modify k (Kf p)).filterMap (·.dst)=l.filterMap (·.dst):=fun l=>by
  induction l with
  | nil=>intro k;cases k<;>rfl
  | cons a l ih=>
    intro k
    cases k with
    | zero=>rfl
    | succ k=>simp only[List.modify_succ_cons,List.filterMap_cons,ih]
 intro i
 rw[Array.toList_modify,e]
theorem BS:∀ (c:Code) (env:Env) (h:ab) (K K':Exit→Env→ab→Prop),(∀ e env' h',Keep (c7 c) env env'→K e env' h'→K' e env' h')→den P n pl c env h K→den P n pl c env h K':=by
 intro c
 induction c with
 | skip=>exact fun env h K K' hk k=>hk _ _ _ (Keep.refl _ _) k
 | ret=>exact fun env h K K' hk k=>hk _ _ _ (Keep.refl _ _) k
 | exit id=>exact fun env h K K' hk k=>hk _ _ _ (Keep.refl _ _) k
 | goto l=>exact fun env h K K' hk k=>hk _ _ _ (Keep.refl _ _) k
 | label l=>exact fun env h K K' hk k=>hk _ _ _ (Keep.refl _ _) k
 | region id ops d=>
   intro env h K K' hk k
   cases d with
   | false=>exact qi ops _ env h _ _ (fun env' h' q k=>hk _ _ _ q k) k
   | true=>
     unfold den at k ⊢
     split at k
     ·split at k
      ·rename_i hok
       rw[if_pos hok]
       exact mY ops _ _ env h _ _ _ (fun env' h' q k=>hk _ _ _ q k) k
      ·exact k.elim
     ·rename_i l p q l2 hp
      split at k
      ·rename_i hok
       rw[if_pos hok]
       exact⟨mY _ _ _ env h _ _ _ (fun env' h' y k=>hk _ _ _ (show Keep (rS ops) _ _ from Dw ops p q ▸ y) k) k.1,mY _ _ _ env h _ _ _ (fun env' h' y k=>hk _ _ _ (show Keep (rS ops) _ _ from Dw ops q p ▸ y) k) k.2⟩
      ·exact k.elim
     ·exact k.elim
 | seq x y hx hy=>
   intro env h K K' hk k
   refine hx env h _ _ (fun e env1 h1 q k=>?_) k
   have q':Keep (c7 (.seq x y)) env env1:=q.mono fun s hs=>by simp only[c7,List.mem_append];exact .inl hs
   cases e<;>first
    | exact hk _ _ _ q' k
    | exact hy env1 h1 _ _ (fun e env2 h2 q2 k2=>hk _ _ _ (q'.trans (q2.mono fun s hs=>by simp only[c7,List.mem_append];exact .inr hs)) k2) k
 | cond c x y hx hy=>
   intro env h K K' hk k
   refine bj (fun v k=>wj (fun k=>?_) (fun k=>?_) k) _ k
   ·exact hx env h _ _ (fun e env' h' q k=>hk _ _ _ (q.mono fun s hs=>by simp only[c7,List.mem_append];exact .inl hs) k) k
   ·exact hy env h _ _ (fun e env' h' q k=>hk _ _ _ (q.mono fun s hs=>by simp only[c7,List.mem_append];exact .inr hs) k) k
 | block id c hc=>
   intro env h K K' hk k
   refine hc env h _ _ (fun e env' h' q k=>?_) k
   cases e<;>first
    | exact hk _ _ _ q k
    | (simp only at k ⊢
       split at k
       ·rename_i hi;rw[if_pos hi];exact hk _ _ _ q k
       ·rename_i hi;rw[if_neg hi];exact hk _ _ _ q k)
 | loop c hc=>
   intro env h K K' hk k
   unfold den at k ⊢
   split at k
   ·rename_i ws ks hp
    split at k
    ·rename_i hok
     rw[if_pos hok]
     obtain⟨ho1,ho3,ho2⟩:=yq hok
     refine eC (fun vs0 k=>?_) _ k
     obtain⟨⟨J,h0,hr⟩⟩:=k
     refine⟨⟨J,h0,fun k vs h' hJ=>hc _ _ _ _ (fun e env' h'' q k=>?_) (hr k vs h' hJ)⟩⟩
     have q':Keep ws env env':=fun s hs=>by
      rw[q.mono ho1 s hs,oG (fun m=>hs (ho2 s m)),sL hs]
     have q'':Keep (c7 (.loop c)) env env':=q'.mono ho3
     cases e<;>first
      | exact k
      | exact hk _ _ _ q'' k
    ·exact k.elim
   ·exact k.elim
 | scope c hc=>exact fun env h K K' hk k=>k.elim
 | rangeFunc f ps a b ha hb=>exact fun env h K K' hk k=>k.elim
 | refuse why=>exact fun env h K K' hk k=>k.elim
theorem F9:∀ (c:Code) (env:Env) (h:ab) (K:Exit→Env→ab→Prop),den P n pl c env h K→AWp P n c env h K:=by
 intro c
 induction c with
 | skip=>exact fun env h K k=>Io k
 | ret=>exact fun env h K k=>Mk k
 | exit id=>exact fun env h K k=>HB k
 | goto l=>exact fun env h K k=>I5 k
 | label l=>exact fun env h K k=>Ew k
 | region id ops d=>
   intro env h K k
   cases d with
   | false=>exact BG k
   | true=>
     unfold den at k
     split at k
     ·split at k
      ·rename_i hok
       simp only[Bool.and_eq_true]at hok
       exact DU hok.1 hok.2 k
      ·exact k.elim
     ·split at k
      ·rename_i hok
       simp only[Bool.and_eq_true]at hok
       exact OT hok.1 hok.2 k.1 k.2
      ·exact k.elim
     ·exact k.elim
 | seq x y hx hy=>
   intro env h K k
   refine FG ((hx env h _ k).mono fun e env' h' q=>?_)
   cases e<;>first|exact hy _ _ _ q|exact q
 | cond c x y hx hy=>
   intro env h K k
   refine Iq ?_
   obtain⟨v,h1,h2⟩:=ar k
   simp only[h1,bO]
   unfold ifB at h2 ⊢
   split at h2
   ·exact hx _ _ _ h2
   ·exact hy _ _ _ h2
   ·exact h2.elim
 | block id c hc=>exact fun env h K k=>Dr (hc env h _ k)
 | loop c hc=>
   intro env h K k
   unfold den at k
   split at k
   ·rename_i ws ks hp
    split at k
    ·rename_i hok
     obtain⟨ho1,ho3,ho2⟩:=yq hok
     obtain⟨vs0,hv0,⟨J,⟨k0,hJ0⟩,hr⟩⟩:=de k
     clear k
     have hweak:∀ {env1 env2:Env} {h:ab} {K:Exit→Env→ab→Prop} {c:Code},(∀ s a,get env2 s=some a→get env1 s=some a)→AWp P n c env2 h K→AWp P n c env1 h K:=
      fun hs k G w a s hn r=>k G w a s hn fun q b e=>r q b (hs q b e)
     refine QY (fun k env' h'=>∃ vs,env'=kD vs 0 ks++gJ ws env∧J k vs h') ?_ ?_ |> hweak (env2:=kD vs0 0 ks++gJ ws env) (Ol hv0 fun s a e=>vg e)
     ·exact⟨k0,vs0,rfl,hJ0⟩
     ·rintro k env' h' ⟨vs,rfl,hJ⟩
      refine (hc _ _ _ (BS c _ _ _ (fun e env2 h2=>(match e with|.normal=>dH (zH env2 ks) fun vs'=>∃ m,m<k∧J m vs' h2|e=>K e env2 h2)∧Keep (c7 c) (kD vs 0 ks++gJ ws env) env2) (fun e env2 h2 q k=>⟨k,q⟩) (hr k vs h' hJ))).mono fun e env2 h2 q=>?_
      obtain⟨q,hkeep⟩:=q
      cases e<;>first
       | exact q
       | (obtain⟨vs',hv',m,hm,hJ'⟩:=de q
          refine⟨m,kD vs' 0 ks++gJ ws env,hm,⟨vs',rfl,hJ'⟩,fun s a e=>?_⟩
          rcases rV (pre:=[]) (by simp) hv' e with e|e
          ·exact e
          ·have hs:=kr e
           rw[hkeep s (fun m=>hs (ho1 s m)),oG (fun m=>hs (ho2 s m))]
           exact e)
    ·exact k.elim
   ·exact k.elim
 | scope c hc=>exact fun env h K k=>k.elim
 | rangeFunc f ps a b ha hb=>exact fun env h K k=>k.elim
 | refuse why=>exact fun env h K k=>k.elim
end
end
section
variable [Tabs]
section
variable {P:Program}{G:Gh}{h:ab}{w:World}{n:Nat}
def C4 (P:Program) (env:Env) (h:ab):List ResultVar→(List AV→Prop)→Prop
 | [],K=>K []
 | .tmp t::rs,K=>bO (get env t) fun v=>C4 P env h rs fun vs=>K (v::vs)
 | .cell a t::rs,K=>bO (get env a) fun p=>iZ P t p h fun v=>C4 P env h rs fun vs=>K (v::vs)
def u1:List AV→AV
 | [v]=>v
 | vs=>.tup vs
def Cu (P:Program) (rs:List ResultVar) (env:Env) (h:ab) (Q:QT):Prop:=C4 P env h rs fun vs=>Q (u1 vs) h
def eo:Nat→List AV→Env
 | _,[]=>[]
 | k,v::vs=>(k,v)::eo (k+1) vs
def UW (P:Program) (pl:E9) (fn:Func) (c:Code) (args:List AV) (h:ab) (Q:QT):Prop:=
 den P fn.ntmps pl c (eo 0 args) h fun e env' h'=>match e with
  | .normal=>Cu P fn.results.toList env' h' Q
  | .ret=>Cu P fn.results.toList env' h' Q
  | _=>False
theorem FJ (s:Sim G h w) {env:Env}{tmps:Array Value}(r:EnvRep G env tmps):∀ (rs:List ResultVar) (K:List AV→Prop),C4 P env h rs K→
  ∃ vs xs,(rs.mapM fun (r:ResultVar)=>(match r with|.tmp t=>pure (tmps.getD t undef)|.cell a t=>do loadVar t (← asAddr (tmps.getD a undef)):Sem Value)).run P w=.ok xs w∧RepL G vs xs∧K vs
 | [],K,k=>⟨[],[],by simp,by simp[RepL],k⟩
 | .tmp t::rs,K,k=>by
   obtain⟨v,h1,k⟩:=ar k
   obtain⟨vs,xs,h2,h3,h4⟩:=FJ s r rs _ k
   obtain⟨x,h5,h6⟩:=r _ _ h1
   refine⟨v::vs,x::xs,?_,by simp only[RepL];exact⟨x,xs,rfl,h6,h3⟩,h4⟩
   simp only[List.mapM_cons,Sem.run_bind,Sem.run_pure,Result.andThen_ok]
   rw[h2]
   simp[Array.getD_eq_getD_getElem?,h5]
 | .cell a t::rs,K,k=>by
   obtain⟨p,h1,k1⟩:=ar k
   clear k
   obtain⟨x,h5,h6⟩:=r _ _ h1
   have hload:∃ v y,(loadVar t =<< asAddr x:Sem Value).run P w=.ok y w∧Rep G v y∧C4 P env h rs fun vs=>K (v::vs):=by
    have key:∀ {K':AV→Prop},Yl P G w (Instr.loadAt t x) K'→∃ v y,(loadVar t =<< asAddr x:Sem Value).run P w=.ok y w∧Rep G v y∧K' v:=by
     rintro K' ⟨v,y,q1,q2,q3⟩
     refine⟨v,y,?_,q2,q3⟩
     have hx:∃ a,x=.pointer (some a):=by
      unfold Instr.loadAt Instr.sureAddr at q1
      split at q1
      ·exact⟨_,rfl⟩
      ·simp at q1
     obtain⟨ad,rfl⟩:=hx
     simpa [Instr.loadAt,Instr.sureAddr,asAddr,Bind.bindLeft] using q1
    unfold iZ at k1
    split at k1
    ·rename_i d i ht hi
     split at k1
     ·rename_i hd;exact key (xW s ht hd hi h6 k1.out)
     ·rename_i hd;exact key (xS s ht (by simpa using hd) h6 k1.out)
    ·exact k1.elim
   obtain⟨v,y,q1,q2,q3⟩:=hload
   obtain⟨vs,xs,h2,h3,h4⟩:=FJ s r rs _ q3
   refine⟨v::vs,y::xs,?_,by simp only[RepL];exact⟨y,xs,rfl,q2,h3⟩,h4⟩
   have hg:tmps.getD a undef=x:=by simp[Array.getD_eq_getD_getElem?,h5]
   simp only[List.mapM_cons,hg]
   have q1':(do loadVar t (← asAddr x):Sem Value).run P w=.ok y w:=q1
   rw[Sem.run_bind,q1']
   simp only[Result.andThen_ok,Sem.run_bind]
   rw[h2]
   simp
theorem mL (s:Sim G h w) {env:Env}{fn:Func}{tmps:Array Value}(r:EnvRep G env tmps) {Q:QT}(k:Cu P fn.results.toList env h Q):
  ∃ v x,(results fn tmps).run P w=.ok x w∧Rep G v x∧Q v h:=by
 obtain⟨vs,xs,h1,h2,h3⟩:=FJ s r _ _ k
 have hm:(fn.results.mapM fun (r:ResultVar)=>(match r with|.tmp t=>pure (tmps.getD t undef)|.cell a t=>do loadVar t (← asAddr (tmps.getD a undef)):Sem Value)).run P w=.ok xs.toArray w:=by
  rw[Array.mapM_eq_mapM_toList]
  simp only[Sem.run_map,h1,Result.andThen_ok]
 refine⟨u1 vs,if h:xs.toArray.size=1 then xs.toArray[0] else .tuple xs.toArray,?_,?_,h3⟩
 ·simp only[results,Sem.run_bind]
  exact congrArg (fun r=>Result.andThen r fun a w'=>(pure (if h:a.size=1 then a[0] else .tuple a):Sem Value).run P w') hm
 ·have hl:=h2.length
  unfold u1
  split
  ·obtain⟨x,rfl,hx⟩:=h2.single
   simpa using hx
  ·rename_i hne
   have:¬ xs.toArray.size=1:=fun e=>by
    have:vs.length=1:=by simp at e;omega
    obtain⟨v,rfl⟩:=List.length_eq_one_iff.1 this
    exact hne v rfl
   rw[dif_neg this]
   simp only[Rep]
   exact⟨xs,rfl,h2⟩
theorem pA:∀ (vs:List AV) (k s:Nat) (a:AV),get (eo k vs) s=some a→k≤s∧vs[s-k]?=some a
 | [],k,s,a,e=>by simp[eo,get]at e
 | v::vs,k,s,a,e=>by
   simp only[eo,get]at e
   split at e
   ·rename_i hk;subst hk;simp at e;subst e;simp
   ·rename_i hk
    have:=pA vs (k+1) s a e
    refine⟨by omega,?_⟩
    rw[show s-k=(s-(k+1))+1 by omega]
    simpa using this.2
theorem FN {f : FuncId} {fn : Func} {c : Code} {args : List AV} {Q : QT} (hf : P.funcs[f]? = some fn) (hb : fn.body = some c) (hname : (fn.name == "runtime.NumGoroutine") = false) (hn : args.length ≤ fn.ntmps)
  {pl:E9} (k:UW P pl fn c args h Q):ACall P f args h Q:=by
 refine⟨⟨fn,hf,hname,by simp[hb]⟩,fun G w vs s r=>?_⟩
 refine calls_of_wp hf hb ?_
 have hl:=r.length
 have hre:EnvRep G (eo 0 args) (vs.toArray++Array.replicate (fn.ntmps-vs.toArray.size) undef):=fun k a e=>by
  obtain⟨_,h1⟩:=pA args 0 k a e
  obtain⟨v,h2,h3⟩:=r.at _ _ h1
  have hk:k<vs.length:=(List.getElem?_eq_some_iff.1 h2).1
  exact⟨v,by rw[Array.getElem?_append_left (by simpa using hk)];simpa using h2,h3⟩
 have W:=F9 c _ _ _ k G w { tmps:=vs.toArray++Array.replicate (fn.ntmps-vs.toArray.size) undef,defers:=[] } s (by simp;omega) hre
 refine wp_mono W fun e a w' ⟨env',h',G',hk,s',ev,r',hn',hd'⟩=>?_
 cases e with
 | normal=>
   obtain⟨v,x,q1,q2,q3⟩:=mL s' r' hk
   exact⟨hd',x,q1,v,x,h',G',rfl,q2,q3,s',ev⟩
 | ret=>
   obtain⟨v,x,q1,q2,q3⟩:=mL s' r' hk
   exact⟨hd',x,q1,v,x,h',G',rfl,q2,q3,s',ev⟩
 | exit id=>exact hk.elim
 | goto l=>exact hk.elim
 | panic ch=>exact hk.elim
 | outgrown=>exact hk.elim
end
end
section
open Go.RowKit Go.ChangeShapes
variable [Tabs]
section
variable {P:Program}
def G0 (W:World):Gh:={ loc:=fun _=>none,cap:=fun _=>0,F:=fun b o=>W.cell? ⟨b,o,none⟩ }
theorem Vf {W:World}(ht:Tabs.ok (fun b o=>W.cell? ⟨b,o,none⟩)):Sim (G0 W) [] W where
 obj:=fun i o h=>by simp at h
 dom:=fun i p h=>by simp[G0]at h
 apart:=fun i j oi oj p q h=>by simp at h
 frz:=fun b o v h=>h
 sep:=fun i o p h=>by simp at h
 tab:=ht
theorem Gk {W w':World}{G G':Gh}{h':ab}(ev:Evo G [] W G' h' w'):Below W.heap.size W w':=
 ⟨ev.os,ev.tape,ev.output,ev.size,fun k hk=>ev.frame k hk fun ⟨i,o,p,h,_⟩=>by simp at h⟩
theorem KR {f:FuncId}{args:List AV}{vs:List Value}{W:World}(ht:Tabs.ok (fun b o=>W.cell? ⟨b,o,none⟩)) (hr:RepL (G0 W) args vs) (c:ACall P f args [] fun r h'=>r=B true):
  Calls P f vs.toArray W fun e w'=>e=.returned (.bool true)∧Below W.heap.size W w':=
 (c.calls (G0 W) W vs (Vf ht) hr).mono fun e w' ⟨r,v,h',G',he,hv,hq,s,ev⟩=>by
  subst hq
  simp only[Rep]at hv
  obtain⟨rfl,_⟩:=hv
  exact⟨he,Gk ev⟩
theorem u2 {H:Type}{enc:TypeId×Value→H}(hl:laidOutB P=true) {W W':World}(hb:Below W.heap.size W W'):∀ {ts:List TypeId}{vs:List Value}{ds:List (DataW H)}{ps:List MemPlace},(∀ t∈ts,P.readableRec t=true∧t<P.types.size)→
  DataW.TrodAll enc P W 0 (fun _=>true) true ts vs ds ps→(∀ x∈ps,x.block<W.heap.size)→DataW.TrodAll enc P W' 0 (fun b=>decide (b<W.heap.size)) true ts vs ds ps
 | [],vs,ds,ps,_,h,_=>by
   obtain⟨rfl,rfl,rfl⟩:=trodAll_nil h
   exact trodAll_mk0
 | t::ts,vs,ds,ps,hr,h,hlt=>by
   obtain⟨v,vs',d,ds',p,q,rfl,rfl,rfl,h1,h2⟩:=trodAll_cons h
   exact trodAll_cons_mk (RowKit.Below.trod hl (hr t (by simp)).1 (hr t (by simp)).2 h1 hb fun x hx=>hlt x (by simp[hx])) (u2 hl hb (fun u hu=>hr u (by simp[hu])) h2 fun x hx=>hlt x (by simp[hx]))
theorem Nr {H:Type}{enc:TypeId×Value→H}{f:Func}{s:ChangeSpec}{fresh:Bool}{W W':World}{args:Array Value}{ds gs:List (DataW H)}{before:List MemPlace}{t:TypeId}(hl:laidOutB P=true)
  (hrd:∀ t∈f.params.toList,P.readableRec t=true∧t<P.types.size) (hs:s.vars=[]) (hrt:f.resultTypes=#[t]) (ht:P.underlying t=some .bool)
  (hW:DataW.Whole enc P f.params.toList s.vars false W args.toList ds gs before) (hres:(s.fn H (ds++gs)).results=[.lit (.bool true)]) (hargs:(s.fn H (ds++gs)).args=ds) (hvars:(s.fn H (ds++gs)).vars=[]) (hb:Below W.heap.size W W'):
  s.post enc P f false fresh false false W args (.bool true) W':=by
 have hlt:=hW.lt
 obtain⟨p,q,hA,hV,hpq,hfz,hn⟩:=id hW
 rw[hs]at hV
 obtain⟨rfl,rfl⟩:=trodVars_none hV
 simp only[List.append_nil]at hpq
 subst hpq
 refine⟨ds,[],before,[],before,[],hW,?_,?_,?_,hb.frame _,fun h=>by cases h⟩
 ·rw[hres,hrt]
  exact trodAll_mk1 (shut_bool ht true)
 ·rw[hargs]
  exact u2 hl hb hrd hA hlt
 ·rw[hvars,hs];rfl
