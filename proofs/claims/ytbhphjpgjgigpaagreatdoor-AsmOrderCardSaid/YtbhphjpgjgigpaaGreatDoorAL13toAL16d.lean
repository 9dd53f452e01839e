import Derived.Test.YtbhphjpgjgigpaaGreatDoorAL10ntoAL13v
set_option linter.all false
set_option autoImplicit true
set_option relaxedAutoImplicit true
set_option maxRecDepth 100000
namespace Go.Proofs.YtbhphjpgjgigpaaGreatDoor.AL
section
variable [Tabs]
section
variable {P:Program}
def VT:Op→Bool
 | .move _|.assign _|.pick ..|.build ..|.buildSlice ..|.load ..|.nilCheck _|.binOp ..|.unOp ..|.convert ..|.makeInterface ..|.makeFunc ..|.slice ..|.fieldAddr ..|.field ..|.indexAddr ..|.index ..|.extract ..=>true
 | .call c=>match c.callee with
   | .builtin .len=>true
   | .builtin .max=>true
   | .builtin .min=>true
   | _=>false
 | _=>false
def aay (P:Program):Op→Bool
 | .load ..=>true
 | .call c=>match c.callee,c.argTypes.toList with
   | .builtin .len,[t]=>match P.underlying t with|some (.map _ _)=>true|_=>false
   | _,_=>false
 | _=>false
theorem aZ {K:AV→Prop}{o:Option AV}{v:AV}(h:o=some v) (k:K v):bT o K:=by subst h;exact k
theorem lZ {K:List AV→Prop}{o:Option (List AV)}{v:List AV}(h:o=some v) (k:K v):dT o K:=by subst h;exact k
theorem lX {K:Option AV→Prop}{o:Option (Option AV)}{v:Option AV}(h:o=some v) (k:K v):Aa o K:=by subst h;exact k
theorem UU {env:Env}{h:ae}{o:Oper}{K:QT}(hq:VT o.op=true) (k:vP P env h o K):∃ v,K v h∧vP P env h o fun r h'=>r=v∧h'=h:=by
 obtain⟨dst,op,ty,pos,after,guard⟩:=o
 have up:∀ {v:AV} (r:AV),r=v→r=v∧True:=fun r e=>⟨e,trivial⟩
 cases op<;>simp only[vP,VT,Bool.false_eq_true]at k hq ⊢
 case move=>obtain⟨v,e,k⟩:=aG k;exact⟨v,k,aZ e ⟨rfl,trivial⟩⟩
 case assign=>obtain⟨v,e,k⟩:=aG k;exact⟨v,k,aZ e ⟨rfl,trivial⟩⟩
 case pick=>
  obtain⟨c,e,k⟩:=aG k
  obtain⟨x,e1,k⟩:=aG k
  obtain⟨y,e2,k⟩:=aG k
  have:∀ {X:Prop},X→True:=fun _=>trivial
  unfold ifB at k
  split at k
  ·exact⟨x,k,aZ e (aZ e1 (aZ e2 ⟨rfl,trivial⟩))⟩
  ·exact⟨y,k,aZ e (aZ e1 (aZ e2 ⟨rfl,trivial⟩))⟩
  ·exact k.elim
 case build=>
  obtain⟨vs,e,k⟩:=dx k
  unfold wc at k
  (repeat' split at k)<;>first
   | exact k.elim
   | (obtain⟨v,k1,k2⟩:=QI _ _ k
      refine⟨v,k1,lZ e ?_⟩
      simp only[wc, *,if_true]
      exact xc up _ _ k2)
 case buildSlice=>
  obtain⟨vs,e,k⟩:=dx k
  unfold gL at k
  (repeat' split at k)<;>first
   | exact k.elim
   | (obtain⟨v,k1,k2⟩:=DJ _ _ _ k
      refine⟨v,k1,lZ e ?_⟩
      simp only[gL, *]
      rw[if_pos ‹_›]
      exact mJ up _ _ _ k2)
 case load=>
  obtain⟨x,e,k⟩:=aG k
  unfold kr at k
  (repeat' split at k)<;>first
   | exact k.elim
   | (obtain⟨v,k1,k2⟩:=EJ _ _ _ k
      refine⟨v,k1,aZ e ?_⟩
      simp only[kr, *,if_true]
      exact gI up _ _ _ k2)
   | (obtain⟨v,k1,k2⟩:=G5 _ _ k
      refine⟨v,k1,aZ e ?_⟩
      simp only[kr, *,↓reduceIte,Bool.false_eq_true]
      exact gK up _ _ k2)
 case nilCheck=>
  obtain⟨x,e,k⟩:=aG k
  obtain⟨v,k1,k2⟩:=Wb _ k
  exact⟨v,k1,aZ e (Ci up _ k2)⟩
 case binOp=>
  obtain⟨x,e,k⟩:=aG k
  obtain⟨y,e1,k⟩:=aG k
  unfold Mi at k
  (repeat' split at k)<;>first
   | exact k.elim
   | (obtain⟨v,k1,k2⟩:=Xd _ _ _ k
      refine⟨v,k1,aZ e (aZ e1 ?_)⟩
      simp only[Mi, *]
      exact tr up _ _ _ k2)
   | (obtain⟨v,k1,k2⟩:=SU _ _ _ k
      refine⟨v,k1,aZ e (aZ e1 ?_)⟩
      simp only[Mi, *]
      exact zU up _ _ _ k2)
   | (obtain⟨v,k1,k2⟩:=SZ _ _ _ k
      refine⟨v,k1,aZ e (aZ e1 ?_)⟩
      simp only[Mi, *]
      exact zw up _ _ _ k2)
 case unOp=>
  obtain⟨x,e,k⟩:=aG k
  obtain⟨v,k1,k2⟩:=Zd _ _ k
  exact⟨v,k1,aZ e (GU up _ _ k2)⟩
 case convert=>
  obtain⟨x,e,k⟩:=aG k
  unfold CX at k
  (repeat' split at k)<;>first
   | exact k.elim
   | (obtain⟨v,k1,k2⟩:=Np _ _ k
      refine⟨v,k1,aZ e ?_⟩
      simp only[CX, *]
      exact ud up _ _ k2)
   | (obtain⟨v,k1,k2⟩:=MW _ _ k
      refine⟨v,k1,aZ e ?_⟩
      simp only[CX, *]
      exact uJ up _ _ k2)
   | (obtain⟨v,k1,k2⟩:=Ni _ k
      refine⟨v,k1,aZ e ?_⟩
      simp only[CX, *]
      exact uC up _ k2)
 case makeInterface=>
  obtain⟨x,e,k⟩:=aG k
  unfold BU at k
  (repeat' split at k)<;>first
   | exact k.elim
   | (rename_i hn ht
      obtain⟨v,k1,k2⟩:=QS _ _ k
      refine⟨v,k1,aZ e ?_⟩
      unfold BU
      split
      ·rename_i he;rw[ht]at he;cases he;exact (hn _ rfl).elim
      ·exact wD up _ _ k2
      ·rename_i he;rw[ht]at he;cases he)
 case makeFunc=>
  obtain⟨x,e,k⟩:=dx k
  obtain⟨y,e1,k⟩:=dx k
  exact⟨_,k,lZ e (lZ e1 ⟨rfl,trivial⟩)⟩
 case slice=>
  obtain⟨x,e,k⟩:=aG k
  obtain⟨l,e1,k⟩:=sP k
  obtain⟨u,e2,k⟩:=sP k
  obtain⟨m,e3,k⟩:=sP k
  unfold mX at k
  (repeat' split at k)<;>first
   | exact k.elim
   | (obtain⟨v,k1,k2⟩:=Oi _ _ _ k
      refine⟨v,k1,aZ e (lX e1 (lX e2 (lX e3 ?_)))⟩
      simp only[mX, *]
      exact uG up _ _ _ k2)
   | (obtain⟨v,k1,k2⟩:=Oo _ _ _ _ k
      refine⟨v,k1,aZ e (lX e1 (lX e2 (lX e3 ?_)))⟩
      simp only[mX, *]
      exact uj up _ _ _ _ k2)
   | (obtain⟨v,k1,k2⟩:=Na _ k
      refine⟨v,k1,aZ e (lX e1 (lX e2 (lX e3 ?_)))⟩
      simp only[mX, *]
      exact ub up _ k2)
 case fieldAddr=>
  obtain⟨x,e,k⟩:=aG k
  unfold mR at k
  (repeat' split at k)<;>first
   | exact k.elim
   | (obtain⟨v,k1,k2⟩:=FG _ _ k
      refine⟨v,k1,aZ e ?_⟩
      simp only[mR, *,↓reduceIte]
      exact om up _ _ k2)
 case field=>
  obtain⟨x,e,k⟩:=aG k
  unfold wG CZ at k
  (repeat' split at k)<;>first
   | exact k.elim
   | (obtain⟨v,k1,k2⟩:=O6 _ _ _ k
      refine⟨v,k1,aZ e ?_⟩
      simp only[wG,CZ, *,if_true]
      exact vx up _ _ _ k2)
   | (obtain⟨v,k1,k2⟩:=QR _ _ k
      refine⟨v,k1,aZ e ?_⟩
      simp only[wG,CZ, *,↓reduceIte,Bool.false_eq_true]
      exact vG up _ _ k2)
 case indexAddr=>
  obtain⟨x,e,k⟩:=aG k
  obtain⟨y,e1,k⟩:=aG k
  unfold eo at k
  (repeat' split at k)<;>first
   | exact k.elim
   | (obtain⟨v,k1,k2⟩:=wi _ _ _ k
      refine⟨v,k1,aZ e (aZ e1 ?_)⟩
      simp only[eo, *]
      exact ic up _ _ _ k2)
   | (obtain⟨v,k1,k2⟩:=vi _ _ _ _ k
      refine⟨v,k1,aZ e (aZ e1 ?_)⟩
      simp only[eo, *]
      exact eN up _ _ _ _ k2)
 case index=>
  obtain⟨x,e,k⟩:=aG k
  obtain⟨y,e1,k⟩:=aG k
  unfold CE at k
  (repeat' split at k)<;>first
   | exact k.elim
   | (obtain⟨v,k1,k2⟩:=Ng _ _ k
      refine⟨v,k1,aZ e (aZ e1 ?_)⟩
      simp only[CE, *]
      exact uW up _ _ k2)
 case extract=>
  obtain⟨x,e,k⟩:=aG k
  obtain⟨v,k1,k2⟩:=K5 _ _ k
  exact⟨v,k1,aZ e (rP up _ _ k2)⟩
 case call c=>
  obtain⟨vs,e,k⟩:=dx k
  split at hq
  ·rename_i hc
   simp only[hc]at k
   split at k
   ·rename_i v t hv
    unfold CQ at k
    (repeat' split at k)<;>first
     | exact k.elim
     | (obtain⟨v,k1,k2⟩:=Uj _ k
        refine⟨v,k1,lZ e ?_⟩
        simp only[hc,CQ, *]
        exact zp up _ k2)
     | (obtain⟨v,k1,k2⟩:=Ul _ k
        refine⟨v,k1,lZ e ?_⟩
        simp only[hc,CQ, *]
        exact yU up _ k2)
     | (obtain⟨v,k1,k2⟩:=TK _ _ k
        refine⟨v,k1,lZ e ?_⟩
        simp only[hc,CQ, *]
        exact y5 up _ _ k2)
   ·exact k.elim
  ·rename_i hc
   simp only[hc]at k
   split at k
   ·obtain⟨v,k1,k2⟩:=VM _ _ k
    refine⟨v,k1,lZ e ?_⟩
    simp only[hc]
    exact Cj up _ _ k2
   ·exact k.elim
  ·rename_i hc
   simp only[hc]at k
   split at k
   ·obtain⟨v,k1,k2⟩:=WN _ _ k
    refine⟨v,k1,lZ e ?_⟩
    simp only[hc]
    exact BN up _ _ k2
   ·exact k.elim
  ·exact absurd hq (by simp)
theorem SY {env:Env}{h h2:ae}{o:Oper}{R:AV→Prop}(hq:VT o.op=true) (hh:aay P o.op=false) (k:vP P env h o fun r _=>R r):vP P env h2 o fun r _=>R r:=by
 obtain⟨dst,op,ty,pos,after,guard⟩:=o
 cases op<;>simp only[vP,VT,aay,Bool.true_eq_false,Bool.false_eq_true]at k hq hh ⊢<;>try exact k
 case call c=>
  refine eR (fun vs k=>?_) _ k
  split at hq
  ·rename_i hc
   simp only[hc]at k hh ⊢
   split at k
   ·rename_i v t hv
    simp only[hv]at hh
    unfold CQ at k ⊢
    split at k<;>rename_i ht
    ·exact k
    ·exact k
    ·simp[ht]at hh
    ·exact k
   ·exact k
  ·rename_i hc
   simp only[hc]at k ⊢
   exact k
  ·rename_i hc
   simp only[hc]at k ⊢
   exact k
  ·exact absurd hq (by simp)
theorem Ce {env env':Env}{x:Operand}(h:∀ t,x=.tmp t→get env t=get env' t):opv env x=opv env' x:=by
 cases x<;>simp only[opv]
 exact h _ rfl
theorem fO {env env':Env}:∀ {l:List Operand},(∀ x∈l,opv env x=opv env' x)→ko env l=ko env' l
 | [],_=>rfl
 | x::l,h=>by
   simp only[ko,h x (by simp),fO fun y hy=>h y (List.mem_cons_of_mem _ hy)]
theorem zV {env env':Env}:∀ {l:Option Operand},(∀ x∈l,opv env x=opv env' x)→DQ env l=DQ env' l
 | none,_=>rfl
 | some x,h=>by simp only[DQ,h x (by simp)]
theorem O1 {env env':Env}{h:ae}{o:Oper}{K:QT}(he:∀ t∈Bq o,get env t=get env' t):vP P env h o K=vP P env' h o K:=by
 have ho:∀ x∈o.op.operands,opv env x=opv env' x:=fun x hx=>Ce fun t e=>he t (by
  subst e
  exact List.mem_filterMap.2 ⟨.tmp t,by simpa using hx,rfl⟩)
 clear he
 obtain⟨dst,op,ty,pos,after,guard⟩:=o
 cases op<;>simp only[Op.operands]at ho<;>simp only[vP]
 case pick c a b=>simp only[ho c (by simp),ho a (by simp),ho b (by simp)]
 case build t ps=>rw[fO fun x hx=>ho x (by simpa using hx)]
 case buildSlice t n ps=>rw[fO fun x hx=>ho x (by simpa using hx)]
 case makeFunc f fi ca=>rw[fO (l:=fi.toList) fun x hx=>ho x (by simp at hx;simp[hx]),fO (l:=ca.toList) fun x hx=>ho x (by simp at hx;simp[hx])]
 case slice t x lo hi mx=>
  rw[ho x (by simp),zV (l:=lo) fun y hy=>ho y (by simp at hy;simp[hy]),zV (l:=hi) fun y hy=>ho y (by simp at hy;simp[hy]),zV (l:=mx) fun y hy=>ho y (by simp at hy;simp[hy])]
 case call c=>
  rw[fO (l:=c.args.toList) fun x hx=>ho x (by simp at hx;simp[Call.operands,hx])]
  congr 1
  funext vs
  split
  ·rename_i f hc
   rw[ho f (by simp[Call.operands,hc])]
  ·rfl
  ·rfl
  ·rfl
  ·rfl
  ·rfl
 all_goals (first|rfl|(simp only[ho _ (by simp)];done)|(simp_all;done))
def V9 (P:Program):Op→Bool
 | .lookup ..=>true
 | .entry _=>true
 | .convert s _ _=>match P.underlying s with|some (.slice _)=>true|_=>false
 | .binOp _ t _ _ _=>match P.underlying t with|some (.slice _)=>false|_=>true
 | _=>false
def Z6 (P:Program):Op→Bool
 | .lookup ..=>true
 | .entry _=>true
 | .convert ..=>true
 | _=>false
def WQ (P:Program) (o:Op):Bool:=if C2 P o=true then V9 P o else VT o
def aaD (P:Program) (o:Op):Bool:=if C2 P o=true then Z6 P o else aay P o
def qOp (P:Program) (o:Op):Bool:=if isX P o=true then VZ o else WQ P o
def hOp (P:Program) (o:Op):Bool:=if isX P o=true then false else aaD P o
theorem M3 {d:TypeDesc}{ok:Bool}{z x key:AV}{h:ae}{K:AV→Prop}(k:jC d ok z x key h K):∃ v,K v∧jC d ok z x key h fun r=>r=v:=by
 unfold jC at *
 split at k
 ·split at k
  ·split at k
   ·rename_i hc;exact⟨_,k,by rw[if_pos hc]⟩
   ·exact k.elim
  ·split at k
   ·split at k
    ·rename_i hc
     split at k
     ·rename_i hm;exact⟨_,k,by rw[if_pos hc]⟩
     ·rename_i hm;exact⟨_,k,by rw[if_pos hc]⟩
    ·exact k.elim
   ·exact k.elim
  ·exact k.elim
 ·exact k.elim
theorem Hn {x:AV}{h:ae}{K:AV→Prop}(k:gg x h K):∃ v,K v∧gg x h fun r=>r=v:=by
 unfold gg at *
 split at k
 ·rename_i hc
  split at k
  ·split at k
   ·exact⟨_,k,by rw[if_pos hc]⟩
   ·exact k.elim
  ·exact k.elim
 ·exact k.elim
theorem QK {x:AV}{h:ae}{K:AV→Prop}(k:oo x h K):∃ v,K v∧oo x h fun r=>r=v:=by
 unfold oo at *
 split at k
 ·split at k
  ·split at k
   ·split at k
    ·split at k
     ·rename_i hc;exact⟨_,k,by rw[if_pos hc]⟩
     ·exact k.elim
    ·exact k.elim
   ·exact k.elim
  ·exact k.elim
 ·exact k.elim
theorem W6 {op:BinOp}{b:Bool}{K:AV→Prop}(k:rJ op b K):∃ v,K v∧rJ op b fun r=>r=v:=by
 unfold rJ at *
 split at k
 ·exact⟨_,k,rfl⟩
 ·exact⟨_,k,rfl⟩
 ·exact k.elim
theorem WU {op:BinOp}{ds:List TypeDesc}{x y:AV}{K:AV→Prop}(k:Fd op ds x y K):∃ v,K v∧Fd op ds x y fun r=>r=v:=by
 unfold Fd at *
 split at k
 ·split at k
  ·exact W6 k
  ·exact k.elim
 ·exact k.elim
theorem M4 {op:BinOp}{x:AV}{K:AV→Prop}(k:me op x K):∃ v,K v∧me op x fun r=>r=v:=by
 unfold me at *
 split at k<;>first|exact k.elim|exact⟨_,k,rfl⟩
theorem Nx {op:BinOp}{x:AV}{K:AV→Prop}(k:lI op x K):∃ v,K v∧lI op x fun r=>r=v:=by
 unfold lI at *
 split at k<;>first|exact k.elim|exact⟨_,k,rfl⟩
theorem Mv {op:BinOp}{x:AV}{K:AV→Prop}(k:mj op x K):∃ v,K v∧mj op x fun r=>r=v:=by
 unfold mj at *
 split at k<;>first|exact k.elim|exact⟨_,k,rfl⟩
theorem U1 {env:Env}{h:ae}{o:Oper}{K:QT}(hn:C2 P o.op=true) (hq:V9 P o.op=true) (k:wg P env h o K):∃ v,K v h∧wg P env h o fun r h'=>r=v∧h'=h:=by
 obtain⟨dst,op,ty,pos,after,guard⟩:=o
 have up:∀ {v:AV} (r:AV),r=v→r=v∧True:=fun r e=>⟨e,trivial⟩
 cases op<;>simp only[wg,V9,Bool.false_eq_true]at k hq ⊢
 case lookup=>
  obtain⟨a,e1,k⟩:=aG k
  obtain⟨b,e2,k⟩:=aG k
  have k0:=k
  obtain⟨kt,et,d,i,z,q1,q2,q3,q4,q5,k⟩:=D4 k
  obtain⟨v,k1,k2⟩:=M3 k.out
  refine⟨v,k1,aZ e1 (aZ e2 ?_)⟩
  unfold Cb
  simp only[q1,q2,q3,q4,q5,if_true]
  exact uq up _ _ _ _ _ _ ⟨k2⟩
 case entry x=>
  obtain⟨a,e1,k⟩:=aG k
  obtain⟨v,k1,k2⟩:=QK k.out
  exact⟨v,k1,aZ e1 (wl up _ _ ⟨k2⟩)⟩
 case convert s d x=>
  obtain⟨a,e1,k⟩:=aG k
  split at k
  ·split at k
   ·rename_i hb
    obtain⟨v,k1,k2⟩:=Hn k.out
    refine⟨v,k1,aZ e1 ?_⟩
    rw[if_pos hb]
    exact qh up _ _ ⟨k2⟩
   ·exact k.elim
  ·rename_i hs _;simp[hs]at hq
  ·exact k.elim
 case binOp op t x y yt=>
  split at k
  ·obtain⟨a,e1,k⟩:=aG k
   obtain⟨b,e2,k⟩:=aG k
   split at k
   ·split at k
    ·rename_i hc
     obtain⟨v,k1,k2⟩:=WU k.out
     refine⟨v,k1,aZ e1 (aZ e2 ?_)⟩
     show (if _ then _ else _)
     rw[if_pos hc]
     exact CL up _ _ _ _ ⟨k2⟩
    ·exact k.elim
   ·exact k.elim
  ·obtain⟨a,e1,k⟩:=aG k
   unfold xJ at *
   split at k
   ·rename_i ht _;simp[ht]at hq
   ·obtain⟨v,k1,k2⟩:=M4 k.out
    exact⟨v,k1,aZ e1 (uo up _ _ ⟨k2⟩)⟩
   ·obtain⟨v,k1,k2⟩:=Nx k.out
    exact⟨v,k1,aZ e1 (tV up _ _ ⟨k2⟩)⟩
   ·obtain⟨v,k1,k2⟩:=Mv k.out
    exact⟨v,k1,aZ e1 (uf up _ _ ⟨k2⟩)⟩
   ·exact k.elim
theorem Uf {env:Env}{h h2:ae}{o:Oper}{R:AV→Prop}(hn:C2 P o.op=true) (hq:V9 P o.op=true) (hh:Z6 P o.op=false) (k:wg P env h o fun r _=>R r):wg P env h2 o fun r _=>R r:=by
 obtain⟨dst,op,ty,pos,after,guard⟩:=o
 cases op<;>simp only[wg,V9,Z6,Bool.true_eq_false,Bool.false_eq_true]at k hq hh ⊢<;>exact k
theorem O0 {env env':Env}{h:ae}{o:Oper}{K:QT}(he:∀ t∈Bq o,get env t=get env' t):wg P env h o K=wg P env' h o K:=by
 have ho:∀ x∈o.op.operands,opv env x=opv env' x:=fun x hx=>Ce fun t e=>he t (by
  subst e
  exact List.mem_filterMap.2 ⟨.tmp t,by simpa using hx,rfl⟩)
 clear he
 obtain⟨dst,op,ty,pos,after,guard⟩:=o
 cases op<;>simp only[Op.operands]at ho<;>simp only[wg]
 case makeMap t re=>cases re<;>rfl
 case mapUpdate t m k v=>rw[ho m (by simp),ho k (by simp),ho v (by simp)]
 case insert t m k v=>rw[ho m (by simp),ho k (by simp),ho v (by simp)]
 case entryStore t m k v=>rw[ho m (by simp),ho k (by simp),ho v (by simp)]
 case binOp op t x y yt=>rw[ho x (by simp),ho y (by simp)]
 case call c=>
  split
  ·rw[fO (l:=c.args.toList) fun x hx=>ho x (by simp at hx;simp[Call.operands,hx])]
  ·rfl
 all_goals (first|rfl|(simp only[ho _ (by simp)];done)|(simp_all;done))
theorem WM {env:Env}{h:ae}{o:Oper}{K:QT}(hq:WQ P o.op=true) (k:vC P env h o K):∃ v,K v h∧vC P env h o fun r h'=>r=v∧h'=h:=by
 unfold vC WQ at *
 by_cases hn:C2 P o.op=true
 ·rw[if_pos hn]at hq k;simp only[if_pos hn];exact U1 hn hq k
 ·rw[if_neg hn]at hq k;simp only[if_neg hn];exact UU hq k
theorem SP {env:Env}{h h2:ae}{o:Oper}{R:AV→Prop}(hq:WQ P o.op=true) (hh:aaD P o.op=false) (k:vC P env h o fun r _=>R r):vC P env h2 o fun r _=>R r:=by
 unfold vC WQ aaD at *
 by_cases hn:C2 P o.op=true
 ·rw[if_pos hn]at hq hh k ⊢;exact Uf hn hq hh k
 ·rw[if_neg hn]at hq hh k ⊢;exact SY hq hh k
theorem PN {env env':Env}{h:ae}{o:Oper}{K:QT}(he:∀ t∈Bq o,get env t=get env' t):vC P env h o K=vC P env' h o K:=by
 unfold vC
 rw[O0 he,O1 he]
theorem Wz {env:Env}{h:ae}{o:Oper}{K:QT}(hq:VZ o.op=true) (k:vY P env h o K):∃ v,K v h∧vY P env h o fun r h'=>r=v∧h'=h:=by
 obtain⟨dst,op,ty,pos,after,guard⟩:=o
 have up:∀ {v:AV} (r:AV),r=v→r=v∧True:=fun r e=>⟨e,trivial⟩
 cases op<;>simp only[vY]at k ⊢<;>try exact k.elim
 case call c=>
  simp only[VZ]at hq
  split at hq
  ·rename_i f hc
   simp only[hc]at k ⊢
   obtain⟨vs,h1,k⟩:=dx k
   rw[h1]
   simp only[dT]
   split at k
   ·obtain⟨v,k1,k2⟩:=Vs k.out
    exact⟨v,k1,⟨B6 up k2⟩⟩
   ·exact k.elim
  ·cases hq
 case indexAddr t x i=>
  cases x<;>simp only at k ⊢<;>try exact k.elim
  split at k
  ·obtain⟨iv,h1,k⟩:=aG k
   rw[h1]
   simp only[bT]
   unfold eo at *
   split at k
   ·split at k
    ·obtain⟨v,k1,k2⟩:=wi _ _ _ k
     exact⟨v,k1,ic up _ _ _ k2⟩
    ·exact k.elim
   ·split at k
    ·obtain⟨v,k1,k2⟩:=vi _ _ _ _ k
     exact⟨v,k1,eN up _ _ _ _ k2⟩
    ·exact k.elim
   ·exact k.elim
  ·exact k.elim
 case load t x=>
  cases x<;>simp only at k ⊢<;>try exact k.elim
  split at k
  ·unfold kr at *
   split at k
   ·split at k
    ·rename_i hd
     obtain⟨v,k1,k2⟩:=EJ _ _ _ k
     exact⟨v,k1,by rw[if_pos hd];exact gI up _ _ _ k2⟩
    ·rename_i hd
     obtain⟨v,k1,k2⟩:=G5 _ _ k
     exact⟨v,k1,by rw[if_neg hd];exact gK up _ _ k2⟩
   ·exact k.elim
  ·exact k.elim
theorem Tu {env:Env}{h h2:ae}{o:Oper}{R:AV→Prop}(hq:VZ o.op=true) (k:vY P env h o fun r _=>R r):vY P env h2 o fun r _=>R r:=by
 obtain⟨dst,op,ty,pos,after,guard⟩:=o
 cases op<;>simp only[vY]at k ⊢<;>try exact k.elim
 case call c=>
  simp only[VZ]at hq
  split at hq
  ·rename_i f hc
   simp only[hc]at k ⊢
   exact k
  ·cases hq
 case indexAddr t x i=>
  cases x<;>simp only at k ⊢<;>try exact k.elim
  exact k
 case load t x=>
  cases x<;>simp only at k ⊢<;>try exact k.elim
  split at k
  ·unfold kr at *
   split at k
   ·split at k
    ·rename_i hd;rw[if_pos hd];exact⟨k.out⟩
    ·rename_i hd;rw[if_neg hd];exact⟨k.out⟩
   ·exact k.elim
  ·exact k.elim
theorem Qi {env env':Env}{h:ae}{o:Oper}{K:QT}(he:∀ t∈Bq o,get env t=get env' t):vY P env h o K=vY P env' h o K:=by
 have ho:∀ x∈o.op.operands,opv env x=opv env' x:=fun x hx=>Ce fun t e=>he t (by
  subst e
  exact List.mem_filterMap.2 ⟨.tmp t,by simpa using hx,rfl⟩)
 clear he
 obtain⟨dst,op,ty,pos,after,guard⟩:=o
 cases op<;>simp only[Op.operands]at ho<;>simp only[vY]
 case load t x=>cases x<;>rfl
 case indexAddr t x i=>cases x<;>first|rfl|(simp only[] ;rw[ho i (by simp)])
 case call c=>
  split
  ·rw[fO (l:=c.args.toList) fun x hx=>ho x (by simp at hx;simp[Call.operands,hx])]
  ·rw[fO (l:=c.args.toList) fun x hx=>ho x (by simp at hx;simp[Call.operands,hx])]
  ·rw[fO (l:=c.args.toList) fun x hx=>ho x (by simp at hx;simp[Call.operands,hx])]
  ·rfl
theorem Si {env:Env}{h:ae}{o:Oper}{K:QT}(hq:qOp P o.op=true) (k:aop P env h o K):∃ v,K v h∧aop P env h o fun r h'=>r=v∧h'=h:=by
 unfold aop qOp at *
 by_cases hn:isX P o.op=true
 ·rw[if_pos hn]at hq k;simp only[if_pos hn];exact Wz hq k
 ·rw[if_neg hn]at hq k;simp only[if_neg hn];exact WM hq k
theorem XM {env:Env}{h h2:ae}{o:Oper}{R:AV→Prop}(hq:qOp P o.op=true) (hh:hOp P o.op=false) (k:aop P env h o fun r _=>R r):aop P env h2 o fun r _=>R r:=by
 unfold aop qOp hOp at *
 by_cases hn:isX P o.op=true
 ·rw[if_pos hn]at hq k ⊢;exact Tu hq k
 ·rw[if_neg hn]at hq hh k ⊢;exact SP hq hh k
theorem TO {env env':Env}{h:ae}{o:Oper}{K:QT}(he:∀ t∈Bq o,get env t=get env' t):aop P env h o K=aop P env' h o K:=by
 unfold aop
 rw[Qi he,PN he]
end
end
section
variable [Tabs]
section
variable {P:Program}{n:Nat}
abbrev qe:=List (Nat×(ae→Prop))
def qp:List (Nat×Nat)→Nat→Nat
 | [],_=>0
 | (k,m)::r,i=>if k=i then m else qp r i
def rM (m:Nat):qe→ae→Prop→Prop
 | [],_,k=>k
 | (q,c)::r,h,k=>if m.testBit q=true then rM m r h k else c h∧rM m r h k
def p8 (P:Program) (n:Nat) (m:Nat) (i:Nat) (o:Oper) (env:Env) (h:ae) (pend:qe) (K:Env→ae→qe→Prop):Prop:=
 if fg n o.dst=true then
  if qOp P o.op=true then
   aop P env h o fun v h'=>K (putD env o.dst v) h' (if hOp P o.op=true then (i,fun h2=>aop P env h2 o fun r _=>r=v)::pend else pend)
  else aop P env h o fun v h'=>rM m pend h' (K (putD env o.dst v) h' pend)
 else False
def ka (P:Program) (n:Nat) (ops:Array Oper) (ms:List (Nat×Nat)):List Nat→Env→ae→qe→(Env→ae→Prop)→Prop
 | [],env,h,_,K=>K env h
 | i::rest,env,h,pend,K=>match ops[i]? with
   | none=>False
   | some o=>match o.guard with
     | none=>p8 P n (qp ms i) i o env h pend fun env' h' pend'=>ka P n ops ms rest env' h' pend' K
     | some (j,want)=>match (ops[j]?).bind (·.dst) with
       | none=>False
       | some s=>bT (get env s) fun v=>
         ifG (Ue ops j) v
          (if want=true then p8 P n (qp ms i) i o ((s,B true)::env) h pend fun env' h' pend'=>ka P n ops ms rest env' h' pend' K
           else if fg n o.dst=true then ka P n ops ms rest (putD ((s,B true)::env) o.dst (.tup [])) h pend K else False)
          (if want=true then (if fg n o.dst=true then ka P n ops ms rest (putD ((s,B false)::env) o.dst (.tup [])) h pend K else False)
           else p8 P n (qp ms i) i o ((s,B false)::env) h pend fun env' h' pend'=>ka P n ops ms rest env' h' pend' K)
          (if fg n o.dst=true then ka P n ops ms rest (putD ((s,.tup [])::env) o.dst (.tup [])) h pend K else False)
def u5 (o:Oper):List Nat:=(o.after.toList.filter (Region.binds .any)).map (·.on)
def ol (ops:Array Oper):List Nat→List (Nat×Nat)→List (Nat×Nat)
 | [],ms=>ms
 | i::r,ms=>ol ops r ((i,match ops[i]? with|some o=>(u5 o).foldl (fun m p=>m ||| 1 <<< p ||| qp ms p) 0|none=>0)::ms)
def Q2 (f:Nat→Nat→Bool):List Nat→Bool
 | []=>true
 | i::r=>r.all (f i)&&Q2 f r
def LM (ops:Array Oper):List Nat→List Nat→Bool
 | _,[]=>true
 | seen,i::r=>(match ops[i]? with|some o=>(u5 o).all seen.contains|none=>false)&&LM ops (i::seen) r
def Xk (P:Program) (ops:Array Oper) (ms:List (Nat×Nat)) (i j:Nat):Bool:=
 match ops[i]?,ops[j]? with
 | some oi,some oj=>
   (i != j)&&(match oi.dst,oj.dst with|some d,some e=>d != e|_,_=>true)&&
   ((qp ms j).testBit i||(qOp P oi.op&&(match oi.dst with|some d=>!(oj.looksAt ops).contains d|none=>true)&&(match oj.dst with|some d=>!(oi.looksAt ops).contains d|none=>true)))
 | _,_=>false
def np (P:Program) (ops:Array Oper) (L:List Nat):Bool:=(List.range ops.size).all L.contains&&LM ops [] L&&Q2 (Xk P ops (ol ops L [])) L
def QH (ops:Array Oper) (D:Nat→Bool):Prop:=∀ i o,ops[i]?=some o→D i=true→∀ p∈u5 o,D p=true
def HY (ops:Array Oper) (j i:Nat):Prop:=∀ D,QH ops D→(∀ o,ops[i]?=some o→∀ p∈u5 o,D p=true)→D j=true
theorem Bt {ms:List (Nat×Nat)}{j:Nat}:∀ (l:List Nat) (m:Nat),(l.foldl (fun m p=>m ||| 1 <<< p ||| qp ms p) m).testBit j=true→m.testBit j=true∨∃ p∈l,p=j∨(qp ms p).testBit j=true
 | [],m,h=>.inl h
 | p::l,m,h=>by
   rcases Bt l _ h with h|⟨q,hq,h⟩
   ·simp only[Nat.testBit_or,Bool.or_eq_true]at h
    rcases h with (h|h)|h
    ·exact .inl h
    ·refine .inr ⟨p,by simp,.inl ?_⟩
     rw[Nat.one_shiftLeft,Nat.testBit_two_pow]at h
     simpa using h
    ·exact .inr ⟨p,by simp,.inr h⟩
   ·exact .inr ⟨q,by simp[hq],h⟩
theorem vM {ops:Array Oper}:∀ (L:List Nat) (ms:List (Nat×Nat)),(∀ i j,(qp ms i).testBit j=true→HY ops j i)→∀ i j,(qp (ol ops L ms) i).testBit j=true→HY ops j i
 | [],ms,h=>h
 | k::L,ms,h=>by
   refine vM L _ fun i j hb=>?_
   simp only[qp]at hb
   split at hb
   ·rename_i hk
    subst hk
    split at hb
    ·rename_i o ho
     rcases Bt _ _ hb with hb|⟨p,hp,hb⟩
     ·simp at hb
     ·intro D hc hD
      have hp1:=hD o ho p hp
      rcases hb with rfl|hb
      ·exact hp1
      ·exact h p j hb D hc fun o2 ho2=>hc p o2 ho2 hp1
    ·simp at hb
   ·exact h i j hb
theorem CW {ops:Array Oper}:∀ {L seen:List Nat},LM ops seen L=true→∀ {A B:List Nat}{i:Nat},L=A++i::B→∃ o,ops[i]?=some o∧∀ p∈u5 o,p∈seen∨p∈A
 | [],seen,h,A,B,i,e=>by simp at e
 | k::L,seen,h,A,B,i,e=>by
   simp only[LM,Bool.and_eq_true]at h
   cases A with
   | nil=>
     simp only[List.nil_append,List.cons.injEq]at e
     obtain⟨rfl,rfl⟩:=e
     have h1:=h.1
     split at h1
     ·rename_i o ho
      exact⟨o,ho,fun p hp=>.inl (by simpa using List.all_eq_true.1 h1 p hp)⟩
     ·cases h1
   | cons a A=>
     simp only[List.cons_append,List.cons.injEq]at e
     obtain⟨rfl,rfl⟩:=e
     obtain⟨o,ho,hp⟩:=CW h.2 rfl
     refine⟨o,ho,fun p hp'=>?_⟩
     rcases hp p hp' with h|h
     ·simp only[List.mem_cons]at h
      rcases h with rfl|h
      ·exact .inr (by simp)
      ·exact .inl h
     ·exact .inr (by simp[h])
theorem EZ {f:Nat→Nat→Bool}:∀ {L:List Nat},Q2 f L=true→∀ {A B:List Nat},L=A++B→∀ i∈A,∀ j∈B,f i j=true
 | [],h,A,B,e,i,hi,j,hj=>by
   have:A=[]∧B=[]:=by simpa using e.symm
   rw[this.1]at hi;cases hi
 | k::L,h,A,B,e,i,hi,j,hj=>by
   simp only[Q2,Bool.and_eq_true]at h
   cases A with
   | nil=>cases hi
   | cons a A=>
     simp only[List.cons_append,List.cons.injEq]at e
     obtain⟨rfl,rfl⟩:=e
     rcases List.mem_cons.1 hi with rfl|hi
     ·exact List.all_eq_true.1 h.1 j (by simp[hj])
     ·exact EZ h.2 rfl i hi j hj
structure Canon (P:Program) (ops:Array Oper) (L:List Nat):Prop where
 all:∀ i o,ops[i]?=some o→i∈L
 order:∀ {A B:List Nat} {i:Nat},L=A++i::B→∃ o,ops[i]?=some o∧∀ p∈u5 o,p∈A
 pair:∀ {A B:List Nat},L=A++B→∀ i∈A,∀ j∈B,∀ oi oj,ops[i]?=some oi→ops[j]?=some oj→i≠j∧(∀ d,oi.dst=some d→oj.dst≠some d)∧
  (HY ops i j∨(qOp P oi.op=true∧(∀ d,oi.dst=some d→d∉oj.looksAt ops)∧(∀ d,oj.dst=some d→d∉oi.looksAt ops)))
theorem Nw {ops:Array Oper}{L:List Nat}(h:np P ops L=true):Canon P ops L:=by
 simp only[np,Bool.and_eq_true]at h
 obtain⟨⟨h1,h2⟩,h3⟩:=h
 refine⟨fun i o ho=>?_,fun e=>?_,fun {A B} e i hi j hj oi oj hoi hoj=>?_⟩
 ·have:=List.all_eq_true.1 h1 i (List.mem_range.2 (Array.getElem?_eq_some_iff.1 ho).1)
  simpa using this
 ·obtain⟨o,ho,hp⟩:=CW h2 e
  exact⟨o,ho,fun p hp'=>(hp p hp').resolve_left (by simp)⟩
 ·have:=EZ h3 e i hi j hj
  simp only[Xk,hoi,hoj,Bool.and_eq_true,bne_iff_ne,ne_eq,Bool.or_eq_true]at this
  obtain⟨⟨q1,q2⟩,q3⟩:=this
  refine⟨q1,fun d hd he=>?_,?_⟩
  ·simp[hd,he]at q2
  ·rcases q3 with q3|⟨⟨q3,q4⟩,q5⟩
   ·exact .inl (vM L [] (fun i j hb=>by simp[qp]at hb) _ _ q3)
   ·refine .inr ⟨q3,fun d hd=>?_,fun d hd=>?_⟩
    ·simpa [hd] using q4
    ·simpa [hd] using q5
section
variable {ops:Array Oper}{L:List Nat}(hc:Canon P ops L)
include hc
theorem Canon.closed {C rest:List Nat}(e:L=C++rest):QH ops C.contains:=by
 intro i o ho hi p hp
 simp only[List.contains_eq_mem,decide_eq_true_eq]at hi ⊢
 obtain⟨A,B,rfl⟩:=List.append_of_mem hi
 obtain⟨o',ho',h⟩:=hc.order (A:=A) (i:=i) (B:=B++rest) (by rw[e];simp)
 rw[ho]at ho';cases ho'
 simp[h p hp]
theorem Canon.must {A B:List Nat}{i j:Nat}(e:L=A++i::B) (m:HY ops j i):j∈A:=by
 have:=m A.contains (hc.closed e) fun o ho p hp=>by
  obtain⟨o',ho',h⟩:=hc.order e
  rw[ho]at ho';cases ho'
  simpa using h p hp
 simpa using this
theorem Canon.notMem {A B:List Nat}{i:Nat}(e:L=A++i::B):i∉A:=fun hi=>by
 obtain⟨o,ho,_⟩:=hc.order e
 exact (hc.pair e i hi i (by simp) o o ho ho).1 rfl
theorem Canon.uniq {i j:Nat}{oi oj:Oper}{d:Nat}(hi:ops[i]?=some oi) (hj:ops[j]?=some oj) (di:oi.dst=some d) (dj:oj.dst=some d):i=j:=by
 obtain⟨A,B,e⟩:=List.append_of_mem (hc.all i oi hi)
 have hm:=hc.all j oj hj
 rw[e]at hm
 simp only[List.mem_append,List.mem_cons]at hm
 rcases hm with hm|rfl|hm
 ·exact ((hc.pair e j hm i (by simp) oj oi hj hi).2.1 d dj di).elim
 ·rfl
 ·exact ((hc.pair (A:=A++[i]) (B:=B) (by rw[e];simp) i (by simp) j hm oi oj hi hj).2.1 d di dj).elim
theorem Canon.cmp {i j:Nat}{oi oj:Oper}{d:Nat}(hi:ops[i]?=some oi) (hj:ops[j]?=some oj) (di:oi.dst=some d) (lj:d∈oj.looksAt ops):i=j∨HY ops i j∨HY ops j i:=by
 obtain⟨A,B,e⟩:=List.append_of_mem (hc.all j oj hj)
 have hm:=hc.all i oi hi
 rw[e]at hm
 simp only[List.mem_append,List.mem_cons]at hm
 rcases hm with hm|rfl|hm
 ·rcases (hc.pair e i hm j (by simp) oi oj hi hj).2.2 with h|h
  ·exact .inr (.inl h)
  ·exact (h.2.1 d di lj).elim
 ·exact .inl rfl
 ·rcases (hc.pair (A:=A++[j]) (B:=B) (by rw[e];simp) j (by simp) i hm oj oi hj hi).2.2 with h|h
  ·exact .inr (.inr h)
  ·exact (h.2.2 d di lj).elim
theorem Canon.self {i:Nat}{o:Oper}(hi:ops[i]?=some o):¬ HY ops i i:=fun m=>by
 obtain⟨A,B,e⟩:=List.append_of_mem (hc.all i o hi)
 exact hc.notMem e (hc.must e m)
end
def tk (env:Env):List Nat→Env
 | []=>[]
 | s::l=>match get env s with|some v=>(s,v)::tk env l|none=>tk env l
theorem pD {env:Env}:∀ {l:List Nat}{s:Nat},s∈l→get (tk env l) s=get env s
 | k::l,s,h=>by
   simp only[tk]
   split
   ·rename_i v hv
    simp only[get]
    split
    ·rename_i hk;subst hk;exact hv.symm
    ·rename_i hk;exact pD ((List.mem_cons.1 h).resolve_left (Ne.symm hk))
   ·rename_i hv
    rcases List.mem_cons.1 h with rfl|h
    ·by_cases hm:s∈l
     ·exact pD hm
     ·rw[hv]
      have:∀ l:List Nat,s∉l→get (tk env l) s=none:=fun l=>by
       induction l with
       | nil=>intro _;rfl
       | cons k l ih=>
         intro hs
         simp only[List.mem_cons,not_or]at hs
         simp only[tk]
         split
         ·simp only[get,if_neg (Ne.symm hs.1)];exact ih hs.2
         ·exact ih hs.2
      exact this l hm
    ·exact pD h
theorem rx {env:Env}:∀ {l:List Nat}{s:Nat}{v:AV},get (tk env l) s=some v→s∈l
 | [],s,v,h=>by simp[tk,get]at h
 | k::l,s,v,h=>by
   simp only[tk]at h
   split at h
   ·simp only[get]at h
    split at h
    ·rename_i hk;simp[hk]
    ·exact List.mem_cons_of_mem _ (rx h)
   ·exact List.mem_cons_of_mem _ (rx h)
end
end
section
variable [Tabs]
section
variable {P:Program}{n:Nat}{ops:Array Oper}{L:List Nat}
structure Inv (ops:Array Oper) (L:List Nat) (D:Nat→Bool) (C rest:List Nat) (eM env:Env) (G:Gh) (tmps:Array Value):Prop where
 split:L=C++rest
 closed:QH ops D
 sub:∀ i,D i=true→i∈C
 same:∀ s,(∀ i o,i∈C→ops[i]?=some o→o.dst≠some s)→get env s=get eM s
 old:∀ s v,(∃ i o,ops[i]?=some o∧o.dst=some s∧D i=false)→get eM s=some v→∃ x,tmps[s]?=some x∧Rep G v x
 new:∀ s v,(∀ i o,ops[i]?=some o→o.dst=some s→D i=true)→get env s=some v→∃ x,tmps[s]?=some x∧Rep G v x
structure Z7 (ops:Array Oper) (i:Nat) (o:Oper) (eM env envq:Env):Prop where
 r1:∀ s∈o.looksAt ops,(∃ (i0:Nat) (o0:Oper),ops[i0]?=some o0∧o0.dst=some s∧HY ops i0 i)→get envq s=get env s
 r2:∀ s∈o.looksAt ops,(¬ ∃ (i0:Nat) (o0:Oper),ops[i0]?=some o0∧o0.dst=some s∧HY ops i0 i)→get envq s=get eM s
def iA (ops:Array Oper) (o:Oper) (envq:Env) (b:Bool):Prop:=
 match o.guard with
 | none=>b=true
 | some (j,want)=>∃ sl,(ops[j]?).bind (·.dst)=some sl∧(get envq sl=some (B (b==want))∨(b=false∧get envq sl=some (.tup [])))
structure Known (P:Program) (n:Nat) (ops:Array Oper) (i:Nat) (o:Oper) (eM env:Env) (h:ae) (pend:qe):Prop where
 mk::(out:fg n o.dst=true∧∃ envq v,Z7 ops i o eM env envq∧(∀ d,o.dst=some d→get env d=some v)∧
  ((iA ops o envq false∧v=.tup [])∨
   (iA ops o envq true∧qOp P o.op=true∧(aop P envq h o fun r h'=>r=v∧h'=h)∧(hOp P o.op=true→(i,fun h2=>aop P envq h2 o fun r _=>r=v)∈pend))))
variable {D:Nat→Bool}{C rest:List Nat}{eM env:Env}{G:Gh}{tmps:Array Value}(hc:Canon P ops L)
include hc
theorem Inv.reads (I:Inv ops L D C rest eM env G tmps) {i:Nat}{o:Oper}(hi:ops[i]?=some o) (hD:D i=false) (hp:∀ p∈u5 o,D p=true) {envq:Env}(se:Z7 ops i o eM env envq):
  EnvRep G (tk envq (o.looksAt ops)) tmps:=by
 intro s v e
 have hs:=rx e
 rw[pD hs]at e
 have hpr:∀ o',ops[i]?=some o'→∀ p∈u5 o',D p=true:=fun o' ho'=>by rw[hi]at ho';cases ho';exact hp
 by_cases hw:∃ (i0:Nat) (o0:Oper),ops[i0]?=some o0∧o0.dst=some s∧HY ops i0 i
 ·have hw':=hw
  obtain⟨i0,o0,h1,h2,h3⟩:=hw'
  refine I.new s v (fun i1 o1 h4 h5=>?_) (by rw[← se.r1 s hs hw];exact e)
  have:=hc.uniq h1 h4 h2 h5
  subst this
  exact h3 D I.closed hpr
 ·rw[se.r2 s hs hw]at e
  by_cases hex:∃ (i0:Nat) (o0:Oper),ops[i0]?=some o0∧o0.dst=some s
  ·obtain⟨i0,o0,h1,h2⟩:=hex
   refine I.old s v ⟨i0,o0,h1,h2,?_⟩ e
   rcases hc.cmp h1 hi h2 hs with rfl|h|h
   ·exact hD
   ·exact (hw ⟨i0,o0,h1,h2,h⟩).elim
   ·cases hd:D i0 with
    | false=>rfl
    | true=>
      have:=h D I.closed fun o' ho' p hp'=>I.closed i0 o' ho' hd p hp'
      rw[hD]at this;cases this
  ·refine I.new s v (fun i1 o1 h4 h5=>(hex ⟨i1,o1,h4,h5⟩).elim) ?_
   rw[I.same s fun i1 o1 _ h4 h5=>hex ⟨i1,o1,h4,h5⟩]
   exact e
theorem Inv.sees (I:Inv ops L D C rest eM env G tmps) {i:Nat}{post:List Nat}(hr:rest=i::post) {o:Oper}(hi:ops[i]?=some o) {env1:Env}(he:∀ s,get env1 s=get env s):Z7 ops i o eM env env1 where
 r1:=fun s _ _=>he s
 r2:=fun s hs hw=>by
  rw[he,I.same s fun i1 o1 hm h4 h5=>?_]
  have e:L=C++i::post:=by rw[I.split,hr]
  rcases hc.cmp h4 hi h5 hs with rfl|h|h
  ·exact hc.notMem e hm
  ·exact hw ⟨i1,o1,h4,h5,h⟩
  ·obtain⟨A,B,rfl⟩:=List.append_of_mem hm
   have h1:=hc.must (A:=A) (i:=i1) (B:=B++i::post) (by rw[e];simp) h
   have:=hc.notMem e
   simp[h1]at this
theorem Inv.get_put (I:Inv ops L D C rest eM env G tmps) {i:Nat}{post:List Nat}(hr:rest=i::post) {o:Oper}(hi:ops[i]?=some o) {env1:Env}(he:∀ s,get env1 s=get env s) {v:AV}{s:Nat}(hs:o.dst≠some s):
  get (putD env1 o.dst v) s=get env s:=by
 rw[← he s]
 cases hd:o.dst with
 | none=>rfl
 | some d=>rw[hd]at hs;simp only[putD,get,if_neg (fun e=>hs (congrArg some e))]
theorem Inv.grow (I:Inv ops L D C rest eM env G tmps) {i:Nat}{post:List Nat}(hr:rest=i::post) {o:Oper}(hi:ops[i]?=some o) {env1:Env}(he:∀ s,get env1 s=get env s) {v:AV}:
  Inv ops L D (C++[i]) post eM (putD env1 o.dst v) G tmps where
 split:=by rw[I.split,hr];simp
 closed:=I.closed
 sub:=fun j hj=>by simp[I.sub j hj]
 same:=fun s hs=>by
  rw[I.get_put hc hr hi he (hs i o (by simp) hi)]
  exact I.same s fun j oj hj=>hs j oj (by simp[hj])
 old:=I.old
 new:=fun s u hs e=>by
  rw[I.get_put hc hr hi he ?_]at e
  ·exact I.new s u hs e
  ·intro hd
   have:=I.sub i (hs i o hi hd)
   exact hc.notMem (by rw[I.split,hr]) this
omit hc in
theorem Inv.mono (I:Inv ops L D C rest eM env G tmps) {G':Gh}(le:G.le G'):Inv ops L D C rest eM env G' tmps where
 split:=I.split
 closed:=I.closed
 sub:=I.sub
 same:=I.same
 old:=fun s v h e=>let ⟨x,h1,h2⟩:=I.old s v h e;⟨x,h1,Rep.mono le _ _ h2⟩
 new:=fun s v h e=>let ⟨x,h1,h2⟩:=I.new s v h e;⟨x,h1,Rep.mono le _ _ h2⟩
theorem Inv.done (I:Inv ops L D C rest eM env G tmps) {i:Nat}{o:Oper}(hi:ops[i]?=some o) (hm:i∈C) (hp:∀ p∈u5 o,D p=true) {D':Nat→Bool}(hD':∀ k,D' k=true↔k=i∨D k=true) {a:Act}(ha:a.tmps=tmps) (hd:fg a.tmps.size o.dst=true)
  {v:AV} (hv:∀ d,o.dst=some d→get env d=some v) {x:Value} (hx:Rep G v x):Inv ops L D' C rest eM env G (a.put o.dst x).tmps:=by
 have keep:∀ s,o.dst≠some s→(a.put o.dst x).tmps[s]?=tmps[s]?:=fun s hs=>by
  rw[← ha]
  cases hdd:o.dst with
  | none=>rfl
  | some d=>rw[hdd]at hs;simp only[Act.put];rw[Array.getElem?_setIfInBounds_ne (fun e=>hs (congrArg some e))]
 refine⟨I.split,?_,?_,I.same,?_,?_⟩
 ·intro k ok hk hDk p hpm
  rcases (hD' k).1 hDk with rfl|hDk
  ·rw[hi]at hk;cases hk
   exact (hD' p).2 (.inr (hp p hpm))
  ·exact (hD' p).2 (.inr (I.closed k ok hk hDk p hpm))
 ·intro k hk
  rcases (hD' k).1 hk with rfl|hk
  ·exact hm
  ·exact I.sub k hk
 ·rintro s u ⟨k,ok,h1,h2,h3⟩ e
  have hne:k≠i∧D k=false:=by
   constructor
   ·rintro rfl
    have:=(hD' k).2 (.inl rfl)
    rw[h3]at this;cases this
   ·cases hDk:D k with
    | false=>rfl
    | true=>have:=(hD' k).2 (.inr hDk);rw[h3]at this;cases this
  rw[keep s fun hds=>hne.1 (hc.uniq h1 hi h2 hds)]
  exact I.old s u ⟨k,ok,h1,h2,hne.2⟩ e
 ·intro s u hs e
  by_cases hds:o.dst=some s
  ·rw[hv s hds]at e
   cases e
   refine⟨x,?_,hx⟩
   rw[hds]
   rw[hds]at hd
   simp only[fg,decide_eq_true_eq]at hd
   simp[Act.put,hd]
  ·rw[keep s hds]
   refine I.new s u (fun k ok h1 h2=>?_) e
   rcases (hD' k).1 (hs k ok h1 h2) with rfl|h
   ·rw[hi]at h1;cases h1;exact (hds h2).elim
   ·exact h
theorem Known.grow (I:Inv ops L D C rest eM env G tmps) {i:Nat}{post:List Nat}(hr:rest=i::post) {o:Oper}(hi:ops[i]?=some o) {env1:Env}(he:∀ s,get env1 s=get env s) {v:AV}{q:Nat}{oq:Oper}(hq:ops[q]?=some oq) (hm:q∈C)
  {h:ae} {pend pend':qe} (hpe:∀ p∈pend,p∈pend') (k:Known P n ops q oq eM env h pend):Known P n ops q oq eM (putD env1 o.dst v) h pend':=by
 obtain⟨hd,envq,vq,se,hv,hk⟩:=k.out
 have e:L=C++i::post:=by rw[I.split,hr]
 refine⟨hd,envq,vq,⟨fun s hs hw=>?_,se.r2⟩,fun d hdd=>?_,?_⟩
 ·rw[se.r1 s hs hw,I.get_put hc hr hi he]
  obtain⟨i0,o0,h1,h2,h3⟩:=hw
  intro hds
  have:=hc.uniq h1 hi h2 hds
  subst this
  obtain⟨A,B,rfl⟩:=List.append_of_mem hm
  have hA:=hc.must (A:=A) (i:=q) (B:=B++i0::post) (by rw[e];simp) h3
  have:=hc.notMem e
  simp[hA]at this
 ·rw[I.get_put hc hr hi he,hv d hdd]
  intro hds
  have:=hc.uniq hq hi hdd hds
  subst this
  exact hc.notMem e hm
 ·exact hk.imp id fun ⟨h1,h2,h3,h4⟩=>⟨h1,h2,h3,fun hh=>hpe _ (h4 hh)⟩
omit hc in
theorem zA {m:Nat}{h:ae}{k:Prop}:∀ {pend:qe},rM m pend h k→k∧∀ p∈pend,m.testBit p.1=false→p.2 h
 | [],hk=>⟨hk,fun p hp=>by cases hp⟩
 | (q,c)::r,hk=>by
   simp only[rM]at hk
   split at hk
   ·rename_i hb
    obtain⟨h1,h2⟩:=zA hk
    refine⟨h1,fun p hp hb'=>?_⟩
    rcases List.mem_cons.1 hp with rfl|hp
    ·rw[hb]at hb';cases hb'
    ·exact h2 p hp hb'
   ·obtain⟨hc',hk⟩:=hk
    obtain⟨h1,h2⟩:=zA hk
    refine⟨h1,fun p hp hb'=>?_⟩
    rcases List.mem_cons.1 hp with rfl|hp
    ·exact hc'
    ·exact h2 p hp hb'
omit hc in
theorem nz {o:Oper}{envq:Env}{b:Bool}{a:Act}(r:EnvRep G (tk envq (o.looksAt ops)) a.tmps) (hg:iA ops o envq b):Region.wanted o (yielded ops a.tmps)=b:=by
 unfold iA at hg
 split at hg
 ·rename_i h0
  subst hg
  simp[Region.wanted,h0]
 ·rename_i j want h0
  obtain⟨sl,h1,h2⟩:=hg
  have hs:sl∈o.looksAt ops:=by simp[Oper.looksAt,h0,h1]
  rw[← pD hs]at h2
  rcases h2 with h2|⟨rfl,h2⟩
  ·rw[uU h0 h1 r h2]
   cases b<;>cases want<;>rfl
  ·exact BA h0 h1 r h2
end
end
section
variable [Tabs]
section
variable {P:Program}{n:Nat}{ops:Array Oper}{L:List Nat}{ms:List (Nat×Nat)}
theorem Jj {p:Nat}{r:List Nat}{env:Env}{h:ae}{pend:qe}{K:Env→ae→Prop}(k:ka P n ops ms (p::r) env h pend K):
  ∃ o env1,ops[p]?=some o∧(∀ s,get env1 s=get env s)∧
    ((iA ops o env1 true∧p8 P n (qp ms p) p o env1 h pend fun env' h' pend'=>ka P n ops ms r env' h' pend' K)∨
     (iA ops o env1 false∧fg n o.dst=true∧ka P n ops ms r (putD env1 o.dst (.tup [])) h pend K)):=by
 unfold ka at k
 split at k
 ·exact k.elim
 ·rename_i o ho
  split at k
  ·rename_i hg
   exact⟨o,env,ho,fun _=>rfl,.inl ⟨by simp[iA,hg],k⟩⟩
  ·rename_i j want hg
   split at k
   ·exact k.elim
   ·rename_i s hs
    obtain⟨v,hv,k⟩:=aG k
    have same:∀ {u:AV},v=u→∀ t,get ((s,u)::env) t=get env t:=fun e t=>by
     simp only[get];split
     ·rename_i h;subst h;rw[hv,e]
     ·rfl
    replace k:=IX k
    rcases k with ⟨e,k⟩|⟨e,k⟩|⟨e,k⟩
    ·refine⟨o,(s,B true)::env,ho,same e,?_⟩
     cases want
     ·simp only[Bool.false_eq_true,if_false]at k
      split at k
      ·exact .inr ⟨by simp only[iA,hg];exact⟨s,hs,.inl (by simp[get])⟩,‹_›,k⟩
      ·exact k.elim
     ·simp only[if_true]at k
      exact .inl ⟨by simp only[iA,hg];exact⟨s,hs,.inl (by simp[get])⟩,k⟩
    ·refine⟨o,(s,B false)::env,ho,same e,?_⟩
     cases want
     ·simp only[Bool.false_eq_true,if_false]at k
      exact .inl ⟨by simp only[iA,hg];exact⟨s,hs,.inl (by simp[get])⟩,k⟩
     ·simp only[if_true]at k
      split at k
      ·exact .inr ⟨by simp only[iA,hg];exact⟨s,hs,.inl (by simp[get])⟩,‹_›,k⟩
      ·exact k.elim
    ·refine⟨o,(s,.tup [])::env,ho,same e,?_⟩
     split at k
     ·exact .inr ⟨by simp only[iA,hg];exact⟨s,hs,.inr ⟨by simp,by simp[get]⟩⟩,‹_›,k⟩
     ·exact k.elim
variable {D:Nat→Bool}{eM:Env}{G:Gh}{tmps:Array Value}{h:ae}{K:Env→ae→Prop}(hc:Canon P ops L)
include hc
theorem sA {env:Env}{d:Nat}{o:Option Tmp}(h:o=some d) (v:AV):get (putD env o v) d=some v:=by subst h;simp[putD,get]
theorem Sg {i:Nat}{oi:Oper}(hi:ops[i]?=some oi) (hD:D i=false) (hp:∀ p∈u5 oi,D p=true):∀ (rest C:List Nat) (env:Env) (pend:qe),Inv ops L D C rest eM env G tmps→ka P n ops ms rest env h pend K→
  (∀ q∈C,D q=false→∀ oq,ops[q]?=some oq→Known P n ops q oq eM env h pend)→
  ∃ C' rest' env' pend',Inv ops L D C' rest' eM env' G tmps∧ka P n ops ms rest' env' h pend' K∧(∀ q∈C',D q=false→∀ oq,ops[q]?=some oq→Known P n ops q oq eM env' h pend')∧(i∈C'∨∃ post,rest'=i::post∧qOp P oi.op=false)
 | [],C,env,pend,I,k,kn=>by
   refine⟨C,[],env,pend,I,k,kn,.inl ?_⟩
   have:=hc.all i oi hi
   rw[I.split]at this
   simpa using this
 | p::r,C,env,pend,I,k,kn=>by
   by_cases hm:i∈C
   ·exact⟨C,p::r,env,pend,I,k,kn,.inl hm⟩
   have k0:=k
   obtain⟨o,env1,ho,hsame,k⟩:=Jj k
   by_cases hq:qOp P o.op=true
   ·-- one that changes nothing
    have fin:∀ (v:AV) (pend':qe),(∀ x∈pend,x∈pend')→fg n o.dst=true→ka P n ops ms r (putD env1 o.dst v) h pend' K→
      ((iA ops o env1 false∧v=.tup [])∨(iA ops o env1 true∧qOp P o.op=true∧(aop P env1 h o fun r h'=>r=v∧h'=h)∧(hOp P o.op=true→(p,fun h2=>aop P env1 h2 o fun r _=>r=v)∈pend')))→
      ∃ C' rest' env' pend',Inv ops L D C' rest' eM env' G tmps∧ka P n ops ms rest' env' h pend' K∧(∀ q∈C',D q=false→∀ oq,ops[q]?=some oq→Known P n ops q oq eM env' h pend')∧(i∈C'∨∃ post,rest'=i::post∧qOp P oi.op=false):=by
     intro v pend' hpe hd k hk
     refine Sg hi hD hp r (C++[p]) (putD env1 o.dst v) pend' (I.grow hc rfl ho hsame) k fun q hqm hqD oq hoq=>?_
     rcases List.mem_append.1 hqm with hqm|hqm
     ·exact (kn q hqm hqD oq hoq).grow hc I rfl ho hsame hoq hqm hpe
     ·have:q=p:=by simpa using hqm
      subst this
      rw[ho]at hoq;cases hoq
      have se:=I.sees hc rfl ho hsame
      have e:L=C++q::r:=I.split
      refine⟨hd,env1,v,⟨fun s hs hw=>?_,se.r2⟩,fun d hdd=>sA hc hdd v,hk⟩
      rw[I.get_put hc rfl ho hsame,hsame]
      intro hds
      obtain⟨i0,o0,h1,h2,h3⟩:=hw
      have:=hc.uniq h1 ho h2 hds
      subst this
      exact hc.self ho h3
    rcases k with ⟨hg,k⟩|⟨hg,hd,k⟩
    ·unfold p8 at k
     by_cases hd:fg n o.dst=true
     ·rw[if_pos hd,if_pos hq]at k
      obtain⟨v,k1,k2⟩:=Si hq k
      refine fin v _ (fun x hx=>?_) hd k1 (.inr ⟨hg,hq,k2,fun hh=>?_⟩)
      ·split
       ·exact List.mem_cons_of_mem _ hx
       ·exact hx
      ·rw[if_pos hh];simp
     ·rw[if_neg hd]at k;exact k.elim
    ·exact fin (.tup []) pend (fun _ h=>h) hd k (.inl ⟨hg,rfl⟩)
   ·by_cases hpi:p=i
    ·subst hpi
     rw[hi]at ho;cases ho
     exact⟨C,p::r,env,pend,I,k0,kn,.inr ⟨r,rfl,by simpa using hq⟩⟩
    ·exfalso
     have hir:i∈r:=by
      have:=hc.all i oi hi
      rw[I.split]at this
      simp only[List.mem_append,List.mem_cons]at this
      rcases this with h|h|h
      ·exact (hm h).elim
      ·exact (hpi h.symm).elim
      ·exact h
     rcases (hc.pair (A:=C++[p]) (B:=r) (by rw[I.split];simp) p (by simp) i hir o oi ho hi).2.2 with h|h
     ·have:=h D I.closed fun o' ho' p' hp'=>by rw[hi]at ho';cases ho';exact hp p' hp'
      exact hc.notMem I.split (I.sub p this)
     ·exact hq h.1
theorem RZ {Q:Exit→Act→World→Prop}{next:Act→World→Prop}{o:Oper}{envq:Env}{a:Act}{w:World}{K':QT}(s:Sim G h w) (r:EnvRep G (tk envq (o.looksAt ops)) a.tmps) (k:aop P envq h o K')
  (hnext:∀ v x h' G' w',Rep G' v x→K' v h'→Sim G' h' w'→Evo G h w G' h' w'→next (a.put o.dst x) w'):o.wp P a w next Q:=by
 have k':aop P (tk envq (o.looksAt ops)) h o K':=by
  rw[TO (env':=envq)]
  ·exact k
  ·intro t ht
   exact pD (List.mem_append_left _ ht)
 unfold Oper.wp
 refine Dk ?_
 have:=Xq s r k'
 unfold UpV at this ⊢
 split at this
 ·obtain⟨v,h',G',q1,q2,q3,q4⟩:=this;exact hnext _ _ _ _ _ q1 q2 q3 q4
 ·obtain⟨v,h',G',q1,q2,q3,q4⟩:=this;exact hnext _ _ _ _ _ q1 q2 q3 q4
 ·exact Calls.mono this fun e w'' ⟨x,he,hv⟩=>⟨x,he,by obtain⟨v,h',G',q1,q2,q3,q4⟩:=hv;exact hnext _ _ _ _ _ q1 q2 q3 q4⟩
 ·exact this.elim
omit hc in
theorem M6 {p:Nat→Prop}:∀ {L:List Nat},(∃ x∈L,p x)→∃ A i B,L=A++i::B∧p i∧∀ x∈A,¬ p x
 | [],h=>by obtain⟨x,hx,_⟩:=h;cases hx
 | y::L,h=>by
   by_cases hy:p y
   ·exact⟨[],y,L,rfl,hy,fun x hx=>by cases hx⟩
   ·obtain⟨x,hx,hpx⟩:=h
    rcases List.mem_cons.1 hx with rfl|hx
    ·exact (hy hpx).elim
    ·obtain⟨A,i,B,rfl,h1,h2⟩:=M6 ⟨x,hx,hpx⟩
     refine⟨y::A,i,B,rfl,h1,fun x hx=>?_⟩
     rcases List.mem_cons.1 hx with rfl|hx
     ·exact hy
     ·exact h2 x hx
theorem QY {C rest:List Nat}{env:Env}{pend:qe}(I:Inv ops L D C rest eM env G tmps) (hall:∀ i o,ops[i]?=some o→D i=true) (k:ka P n ops ms rest env h pend K):K env h∧EnvRep G env tmps:=by
 refine⟨?_,fun s v e=>I.new s v (fun i o hi _=>hall i o hi) e⟩
 cases rest with
 | nil=>exact k
 | cons p r=>
   exfalso
   obtain⟨o,ho,_⟩:=hc.order I.split
   exact hc.notMem I.split (I.sub p (hall p o ho))
theorem MQ (hms:ms=ol ops L []) {h0:ae}{G0:Gh}{w0:World}{Df:List Deferred}{Q:Exit→Act→World→Prop}(hq:∀ a' w',Ef G0 h0 w0 n Df K a' w'→Q .normal a' w'):
  ∀ (fuel:Nat) (listed:Array Bool) (a:Act) (w:World) (G:Gh) (h:ae) (C rest:List Nat) (env:Env) (pend:qe) (U:List Nat),listed.size=ops.size→
    Inv ops L (fun k=>listed.getD k false) C rest eM env G a.tmps→(∀ q∈C,listed.getD q false=false→∀ oq,ops[q]?=some oq→Known P n ops q oq eM env h pend)→Sim G h w→a.tmps.size=n→a.defers=Df→Evo G0 h0 w0 G h w→
    ka P n ops ms rest env h pend K→U.length≤fuel→(∀ i,i<ops.size→listed.getD i false=false→i∈U)→wpAny P .any ops Q fuel listed a w:=by
 intro fuel
 induction fuel with
 | zero=>
   intro listed a w G h C rest env pend U hsz I kn s hn hdf ev k hU hUm
   have hU0:U=[]:=by simpa using hU
   subst hU0
   have hall:∀ i o,ops[i]?=some o→listed.getD i false=true:=fun i o ho=>by
    cases hd:listed.getD i false with
    | true=>rfl
    | false=>have:=hUm i (Array.getElem?_eq_some_iff.1 ho).1 hd;cases this
   obtain⟨k1,k2⟩:=QY hc I hall k
   refine⟨?_,hq a w ⟨env,h,G,k1,s,ev,k2,hn,hdf⟩⟩
   apply List.eq_nil_iff_forall_not_mem.2
   intro i hi
   obtain⟨hi0,o,ho,_⟩:=mem_ready.1 hi
   have h1:=hall i o ho
   have hlt:i<listed.size:=by rw[hsz];exact (Array.getElem?_eq_some_iff.1 ho).1
   simp[hlt]at hi0 h1
   rw[hi0]at h1;cases h1
 | succ fuel ih=>
   intro listed a w G h C rest env pend U hsz I kn s hn hdf ev k hU hUm
   refine⟨fun hr=>?_,fun i hir=>?_⟩
   ·-- nothing is ready: all is done
    have hall:∀ i o,ops[i]?=some o→listed.getD i false=true:=fun i o ho=>by
     cases hd:listed.getD i false with
     | true=>rfl
     | false=>
       exfalso
       obtain⟨A,j,B,e,h1,h2⟩:=M6 (p:=fun k=>listed.getD k false=false) ⟨i,hc.all i o ho,hd⟩
       obtain⟨oj,hj,hpj⟩:=hc.order e
       have:j∈Region.ready .any ops listed:=mem_ready.2 ⟨by
        have hlt:j<listed.size:=by rw[hsz];exact (Array.getElem?_eq_some_iff.1 hj).1
        simp[hlt]at h1 ⊢;exact h1,oj,hj,fun e he hb=>by
         have:=h2 e.on (hpj e.on (List.mem_map.2 ⟨e,List.mem_filter.2 ⟨by simpa using he,hb⟩,rfl⟩))
         simpa using this⟩
       rw[hr]at this;cases this
    obtain⟨k1,k2⟩:=QY hc I hall k
    exact hq a w ⟨env,h,G,k1,s,ev,k2,hn,hdf⟩
   ·obtain⟨hi0,o,ho,hpre⟩:=mem_ready.1 hir
    have hlt:i<listed.size:=by rw[hsz];exact (Array.getElem?_eq_some_iff.1 ho).1
    have hD:listed.getD i false=false:=by simp[hlt]at hi0 ⊢;exact hi0
    have hp:∀ p∈u5 o,listed.getD p false=true:=fun p hp=>by
     obtain⟨e,he,rfl⟩:=List.mem_map.1 hp
     obtain⟨he1,he2⟩:=List.mem_filter.1 he
     exact hpre e (by simpa using he1) he2
    obtain⟨C',rest',env',pend',I',k',kn',hcase⟩:=Sg hc ho hD hp rest C env pend I k kn
    have hD':∀ k,(listed.setIfInBounds i true).getD k false=true↔k=i∨listed.getD k false=true:=fun k=>by
     by_cases hki:i=k
     ·subst hki;simp[hlt]
     ·rw[getD_set_ne false hki];simp[Ne.symm hki]
    have hDf:∀ k,(listed.setIfInBounds i true).getD k false=false→k≠i∧listed.getD k false=false:=fun k hk=>by
     have:=hD' k
     rw[hk]at this
     simp only[Bool.false_eq_true,false_iff,not_or,Bool.not_eq_true]at this
     exact this
    have hU':(U.erase i).length≤fuel:=by
     have:=hUm i (by rw[← hsz];exact hlt) hD
     rw[List.length_erase_of_mem this];omega
    have hUm':∀ j,j<ops.size→(listed.setIfInBounds i true).getD j false=false→j∈U.erase i:=fun j hj hjD=>by
     obtain⟨q1,q2⟩:=hDf j hjD
     exact (List.mem_erase_of_ne q1).2 (hUm j hj q2)
    unfold wpOp
    simp only[ho]
    rcases hcase with hm|⟨post,rfl,hnq⟩
    ·-- vb already
     obtain⟨hd,envq,v,se,hv,hk⟩:=(kn' i hm hD o ho).out
     have hr:=I'.reads hc ho hD hp se
     have go:∀ (x:Value) (G':Gh) (w':World),Rep G' v x→Sim G' h w'→Evo G h w G' h w'→wpAny P .any ops Q fuel (listed.setIfInBounds i true) (a.put o.dst x) w':=fun x G' w' hx s' ev'=>
      ih _ _ w' G' h C' rest' env' pend' (U.erase i) (by simp[hsz]) ((I'.mono ev'.le).done hc ho hm hp hD' rfl (by rw[hn];exact hd) hv hx)
       (fun q hqm hqD oq hoq=>kn' q hqm (hDf q hqD).2 oq hoq) s' (by rw[AL.put_size,hn]) (by rw[AL.put_defers,hdf]) (ev.trans ev') k' hU' hUm'
     rcases hk with ⟨hg,rfl⟩|⟨hg,hqo,hk,_⟩
     ·rw[nz hr hg]
      simp only[Bool.false_eq_true,if_false]
      exact go undef G w (by simp[Rep,RepL,undef]) s (Evo.refl _ _ _)
     ·rw[nz hr hg]
      simp only[if_true]
      refine .inl (RZ (G:=G) (h:=h) hc s hr hk fun v' x h' G' w' hx hk' s' ev'=>?_)
      obtain⟨rfl,rfl⟩:=hk'
      exact go x G' w' hx s' ev'
    ·-- the next one in the order
     obtain⟨o',env1,ho',hsame,k'⟩:=Jj k'
     rw[ho]at ho';cases ho'
     have se:=I'.sees hc rfl ho hsame
     have hr:=I'.reads hc ho hD hp se
     have grown:∀ {v:AV} {q:Nat} {oq:Oper} {pend2:qe},ops[q]?=some oq→q∈C'++[i]→(listed.setIfInBounds i true).getD q false=false→Known P n ops q oq eM (putD env1 o.dst v) h pend':=fun {v q oq pend2} hoq hqm hqD=>by
      obtain⟨q1,q2⟩:=hDf q hqD
      have hqm:q∈C':=by
       rcases List.mem_append.1 hqm with h|h
       ·exact h
       ·exact (q1 (by simpa using h)).elim
      exact (kn' q hqm q2 oq hoq).grow hc I' rfl ho hsame hoq hqm fun _ h=>h
     rcases k' with ⟨hg,k'⟩|⟨hg,hd,k'⟩
     ·rw[nz hr hg]
      simp only[if_true]
      unfold p8 at k'
      by_cases hd:fg n o.dst=true
      ·rw[if_pos hd,if_neg (by simp[hnq])]at k'
       refine .inl (RZ (G:=G) (h:=h) hc s hr k' fun v x h' G' w' hx hk' s' ev'=>?_)
       obtain⟨hk1,hk2⟩:=zA hk'
       have I2:=((I'.grow hc rfl ho hsame (v:=v)).mono ev'.le).done hc ho (by simp) hp hD' (a:=a) rfl (by rw[hn];exact hd) (fun d hdd=>sA hc hdd v) hx
       refine ih _ _ w' G' h' _ post _ pend' (U.erase i) (by simp[hsz]) I2 (fun q hqm hqD oq hoq=>?_) s' (by rw[AL.put_size,hn]) (by rw[AL.put_defers,hdf]) (ev.trans ev') hk1 hU' hUm'
       obtain⟨hdq,envq,vq,seq,hvq,hkq⟩:=(grown (v:=v) (pend2:=pend') hoq hqm hqD).out
       refine⟨hdq,envq,vq,seq,hvq,?_⟩
       rcases hkq with hkq|⟨g1,g2,g3,g4⟩
       ·exact .inl hkq
       ·refine .inr ⟨g1,g2,?_,g4⟩
        have up:∀ (k:aop P envq h' oq fun r _=>r=vq),aop P envq h' oq fun r h''=>r=vq∧h''=h':=fun k=>by
         obtain⟨v2,e,k2⟩:=Si g2 k
         subst e;exact k2
        by_cases hh:hOp P oq.op=true
        ·refine up (hk2 _ (g4 hh) ?_)
         cases hb:(qp ms i).testBit q with
         | false=>rfl
         | true=>
           exfalso
           rw[hms]at hb
           have hmust:=vM L [] (fun i j hb=>by simp[qp]at hb) i q hb
           have:=hmust (fun k=>listed.getD k false) I'.closed fun o' ho' p hp'=>by rw[ho]at ho';cases ho';exact hp p hp'
           simp only[(hDf q hqD).2]at this
           cases this
        ·exact up (XM g2 (by simpa using hh) (kp (fun v h e=>e.1) g3))
      ·rw[if_neg hd]at k';exact k'.elim
     ·rw[nz hr hg]
      simp only[Bool.false_eq_true,if_false]
      have I2:=(I'.grow hc rfl ho hsame (v:=.tup [])).done hc ho (by simp) hp hD' (a:=a) rfl (by rw[hn];exact hd) (fun d hdd=>sA hc hdd _) (x:=undef) (by simp[Rep,RepL,undef])
      exact ih _ _ w G h _ post _ pend' (U.erase i) (by simp[hsz]) I2 (fun q hqm hqD oq hoq=>grown (pend2:=pend') hoq hqm hqD) s (by rw[AL.put_size,hn]) (by rw[AL.put_defers,hdf]) ev k' hU' hUm'
end
section
variable {P:Program}{n:Nat}
theorem xA (m i:Nat):(Array.replicate m false).getD i false=false:=by
 rw[Array.getD_eq_getD_getElem?,Array.getElem?_replicate]
 split<;>rfl
theorem Jt {id:Nat}{ops:Array Oper}{L:List Nat}{env:Env}{h:ae}{K:Exit→Env→ae→Prop}(hm:P.follows .mixedOrders=true) (hok:np P ops L=true)
  (k:ka P n ops (ol ops L []) L env h [] fun env' h'=>K .normal env' h'):AWp P n (.region id ops true) env h K:=by
 intro G w a s hn r
 have hc:=Nw hok
 refine wp_region_any hm ?_
 have s':Sim G h { w with drawn:=w.drawn+1 }:=(s.drawn _).1
 have ev:Evo G h w G h { w with drawn:=w.drawn+1 }:=⟨Gh.le.refl G,Nat.le_refl _,rfl,rfl,rfl,fun _ _ _=>rfl,fun _ h=>.inl h,fun _ _ _ h=>.inl h⟩
 refine MQ (eM:=env) hc rfl (G0:=G) (h0:=h) (w0:=w) (Df:=a.defers) (K:=fun env' h'=>K .normal env' h') (fun a' w' p=>p) ops.size _ a _ G h [] L env [] (List.range ops.size) (by simp) ⟨rfl,?_,?_,?_,?_,?_⟩ ?_ s' hn rfl ev k (by simp) (fun i hi _=>List.mem_range.2 hi)
 ·intro i o ho hd p hp
  have:=(xA ops.size i).symm.trans hd;cases this
 ·intro i hd
  have:=(xA ops.size i).symm.trans hd;cases this
 ·exact fun s _=>rfl
 ·exact fun s v _ e=>r s v e
 ·exact fun s v _ e=>r s v e
 ·intro q hq;cases hq
end
end
section
variable [Tabs]
section
variable {P:Program}{G:Gh}{h:ae}{w:World}{n:Nat}{ops:Array Oper}{Q:Exit→Act→World→Prop}
def Qt (p:Nat) (o:Oper):Oper:={ o with after:=o.after.push { on:=p,ground:=.data } }
def de (ops:Array Oper) (p q:Nat):Array Oper:=ops.modify q (Qt p)
theorem Aq (p q i:Nat):(de ops p q)[i]?=if q=i then ops[i]?.map (Qt p) else ops[i]?:=by
 simp[de,Array.getElem?_modify]
theorem xt (p q:Nat):(de ops p q).size=ops.size:=by simp[de]
theorem Kb (p q:Nat) (t:Array Value):yielded (de ops p q) t=yielded ops t:=by
 funext j
 unfold yielded
 have:((de ops p q)[j]?).bind (·.dst)=(ops[j]?).bind (·.dst):=by
  rw[Aq]
  split
  ·cases ops[j]?<;>rfl
  ·rfl
 rw[this]
theorem zX (p q:Nat):∀ (l:List Nat) (a:Act) (w:World),wpOps P (de ops p q) Q l a w→wpOps P ops Q l a w
 | [],a,w,h=>h
 | i::l,a,w,h=>by
   rw[wpOps_cons]at h ⊢
   have h:=wpOp_mono (fun a w=>zX p q l a w) h
   unfold wpOp at h ⊢
   rw[Aq,Kb]at h
   by_cases e:q=i
   ·rw[if_pos e]at h
    cases ho:ops[i]? with
    | none=>rw[ho]at h;exact h
    | some o=>rw[ho]at h;exact h
   ·rw[if_neg e]at h;exact h
def NS (ops:Array Oper):Array Bool→List Nat→Prop
 | d,[]=>Region.ready .any ops d=[]
 | d,i::r=>i∈Region.ready .any ops d∧NS ops (d.setIfInBounds i true) r
theorem zB:∀ (l:List Nat) (fuel:Nat) (d:Array Bool) (a:Act) (w:World),NS ops d l→wpAny P .any ops Q fuel d a w→wpOps P ops Q l a w
 | [],0,d,a,w,g,h=>by simpa [wpOps] using h.2
 | [],f+1,d,a,w,g,h=>by simpa [wpOps] using h.1 g
 | i::l,0,d,a,w,g,h=>by have:=g.1;rw[h.1]at this;cases this
 | i::l,f+1,d,a,w,g,h=>by
   rw[wpOps_cons]
   exact wpOp_mono (fun a w=>zB l f _ a w g.2) (h.2 i g.1)
def qM (d:Array Bool) (m:Nat):List Nat:=(List.range m).filter fun i=>!d.getD i true
theorem Wy {d:Array Bool}{i m:Nat}(h:i∈qM d m):(qM (d.setIfInBounds i true) m).length<(qM d m).length:=by
 have hs:(qM (d.setIfInBounds i true) m)=(qM d m).filter (· != i):=by
  unfold qM
  rw[List.filter_filter]
  refine List.filter_congr fun k hk=>?_
  rw[Array.getD_eq_getD_getElem?,Array.getD_eq_getD_getElem?,Array.getElem?_setIfInBounds]
  by_cases e:i=k
  ·subst e;by_cases hb:i<d.size<;>simp[hb]
  ·have e':k≠i:=fun h=>e h.symm
   simp[e,e']
 rw[hs]
 exact List.length_filter_lt_length_iff_exists.2 ⟨i,h,by simp⟩
theorem zY {d:Array Bool}{i:Nat}(h:i∈Region.ready .any ops d):i∈qM d ops.size:=by
 unfold Region.ready at h
 unfold qM
 simp only[List.mem_filter,Bool.and_eq_true]at h ⊢
 exact⟨h.1,h.2.1⟩
theorem M7:∀ (fuel t:Nat) (d:Array Bool),(qM d ops.size).length≤fuel→NS ops d (Region.linearise.go .any ops fuel t d [])
 | 0,t,d,h=>by
   show Region.ready .any ops d=[]
   refine List.eq_nil_iff_forall_not_mem.2 fun i hi=>?_
   have:=zY hi
   have h0:qM d ops.size=[]:=by simpa using h
   rw[h0]at this;cases this
 | f+1,t,d,h=>by
   simp only[Region.linearise.go]
   change NS ops d (match (Region.ready .any ops d)[t%(Region.ready .any ops d).length]? with
    | some i=>Region.linearise.go .any ops f (t / (Region.ready .any ops d).length) (d.setIfInBounds i true) [i]
    | none=>[].reverse)
   cases hi:(Region.ready .any ops d)[t%(Region.ready .any ops d).length]? with
   | none=>
     show Region.ready .any ops d=[]
     cases hr:Region.ready .any ops d with
     | nil=>rfl
     | cons x xs=>
       rw[hr]at hi
       have hlt:t%(x::xs).length<(x::xs).length:=Nat.mod_lt _ (by simp)
       simp at hi
       simp at hlt
       omega
   | some i=>
     have hm:=List.mem_of_getElem? hi
     simp only[]
     rw[linearise_go_acc,List.reverse_singleton,List.singleton_append]
     have:=Wy (zY hm)
     exact⟨hm,M7 f _ _ (by omega)⟩
theorem yT {p q i:Nat}{d:Array Bool}(h:i∈Region.ready .any ops d) (hq:i=q→d.getD p false=true):i∈Region.ready .any (de ops p q) d:=by
 unfold Region.ready at h ⊢
 rw[xt]
 simp only[List.mem_filter,Bool.and_eq_true]at h ⊢
 refine⟨h.1,h.2.1,?_⟩
 rw[Aq]
 have h2:=h.2.2
 split
 ·rename_i e
  cases ho:ops[i]? with
  | none=>rw[ho]at h2;cases h2
  | some o=>
    rw[ho]at h2
    simp only[Option.map_some,Option.getD_some]at h2 ⊢
    show ((o.after.push _).all _)=true
    rw[Array.all_push,h2]
    simp[hq e.symm]
 ·exact h2
theorem Pd {p q i:Nat}{d:Array Bool}(h:i∈Region.ready .any (de ops p q) d):i∈Region.ready .any ops d:=by
 unfold Region.ready at h ⊢
 rw[xt]at h
 simp only[List.mem_filter,Bool.and_eq_true]at h ⊢
 refine⟨h.1,h.2.1,?_⟩
 have h2:=h.2.2
 rw[Aq]at h2
 split at h2
 ·cases ho:ops[i]? with
  | none=>rw[ho]at h2;cases h2
  | some o=>
    rw[ho]at h2
    simp only[Option.map_some,Option.getD_some]at h2 ⊢
    have h2:((o.after.push { on:=p,ground:=.data }).all _)=true:=h2
    rw[Array.all_push,Bool.and_eq_true]at h2
    exact h2.1
 ·exact h2
def Rt (p q:Nat):List Nat→Prop
 | []=>True
 | i::r=>i=p∨(i≠q∧Rt p q r)
theorem OQ {p q:Nat}:∀ l:List Nat,Rt p q l∨Rt q p l
 | []=>.inl trivial
 | i::l=>by
   by_cases h1:i=p
   ·exact .inl (.inl h1)
   by_cases h2:i=q
   ·exact .inr (.inl h2)
   rcases OQ l with h|h
   ·exact .inl (.inr ⟨h2,h⟩)
   ·exact .inr (.inr ⟨h1,h⟩)
theorem NV {p q:Nat}{d:Array Bool}(h:Region.ready .any ops d=[]):Region.ready .any (de ops p q) d=[]:=
 List.eq_nil_iff_forall_not_mem.2 fun i hi=>by have:=Pd hi;rw[h]at this;cases this
theorem IG {p q:Nat}:∀ (l:List Nat) (d:Array Bool),d.getD p false=true→NS ops d l→NS (de ops p q) d l
 | [],d,hd,g=>NV g
 | i::l,d,hd,g=>by
   refine⟨yT g.1 fun _=>hd,IG l _ ?_ g.2⟩
   rw[Array.getD_eq_getD_getElem?]at hd ⊢
   rw[Array.getElem?_setIfInBounds]
   split
   ·split
    ·rfl
    ·rename_i h1 h2;subst h1;rw[Array.getElem?_eq_none (by omega)]at hd;cases hd
   ·exact hd
theorem XW {i m:Nat}{d:Array Bool}(h:i∈qM d m):(d.setIfInBounds i true).getD i false=true:=by
 unfold qM at h
 simp only[List.mem_filter]at h
 have h2:=h.2
 rw[Array.getD_eq_getD_getElem?]at h2 ⊢
 rw[Array.getElem?_setIfInBounds]
 by_cases hb:i<d.size
 ·simp[hb]
 ·rw[Array.getElem?_eq_none (by omega)]at h2;cases h2
theorem Cp {p q:Nat}(hpq:p≠q):∀ (l:List Nat) (d:Array Bool),Rt p q l→NS ops d l→NS (de ops p q) d l
 | [],d,_,g=>NV g
 | i::l,d,.inl e,g=>by
   subst e
   exact⟨yT g.1 fun e=>(hpq e).elim,IG l _ (XW (zY g.1)) g.2⟩
 | i::l,d,.inr ⟨e,r⟩,g=>⟨yT g.1 fun h=>(e h).elim,Cp hpq l _ r g.2⟩
theorem JE {L:List Nat}{env:Env}{K:Env→ae→Prop}{a:Act}{Q:Exit→Act→World→Prop}(hq:∀ a' w',Ef G h w n a.defers K a' w'→Q .normal a' w') (hok:np P ops L=true) (s:Sim G h w) (hn:a.tmps.size=n) (r:EnvRep G env a.tmps)
  (k:ka P n ops (ol ops L []) L env h [] K):wpAny P .any ops Q ops.size (Array.replicate ops.size false) a { w with drawn:=w.drawn+1 }:=by
 have hc:=Nw hok
 have s':Sim G h { w with drawn:=w.drawn+1 }:=(s.drawn _).1
 have ev:Evo G h w G h { w with drawn:=w.drawn+1 }:=⟨Gh.le.refl G,Nat.le_refl _,rfl,rfl,rfl,fun _ _ _=>rfl,fun _ h=>.inl h,fun _ _ _ h=>.inl h⟩
 refine MQ (eM:=env) hc rfl (G0:=G) (h0:=h) (w0:=w) (Df:=a.defers) (K:=K) hq ops.size _ a _ G h [] L env [] (List.range ops.size) (by simp) ⟨rfl,?_,?_,?_,?_,?_⟩ ?_ s' hn rfl ev k (by simp) (fun i hi _=>List.mem_range.2 hi)
 ·intro i o ho hd p hp
  have:=(xA ops.size i).symm.trans hd;cases this
 ·intro i hd
  have:=(xA ops.size i).symm.trans hd;cases this
 ·exact fun s _=>rfl
 ·exact fun s v _ e=>r s v e
 ·exact fun s v _ e=>r s v e
 ·intro q hq;cases hq
def ZR (ops:Array Oper) (p q:Nat) (L L2:List Nat) (P:Program):Bool:=p != q&&np P (de ops p q) L&&np P (de ops q p) L2
theorem W4 {id p q:Nat}{L L2:List Nat}{env:Env}{K:Exit→Env→ae→Prop}(hm:P.follows .mixedOrders=true) (hok:ZR ops p q L L2 P=true)
  (k1:ka P n (de ops p q) (ol (de ops p q) L []) L env h [] fun env' h'=>K .normal env' h')
  (k2:ka P n (de ops q p) (ol (de ops q p) L2 []) L2 env h [] fun env' h'=>K .normal env' h'):AWp P n (.region id ops true) env h K:=by
 intro G w a s hn r
 simp only[ZR,Bool.and_eq_true,bne_iff_ne]at hok
 obtain⟨⟨hpq,h1⟩,h2⟩:=hok
 refine wp_region_draw fun t=>?_
 simp only[Region.schedule,hm,Bool.true_or,if_true]
 have hf:(qM (Array.replicate ops.size false) ops.size).length≤ops.size:=by
  have:=List.length_filter_le (fun i=>!(Array.replicate ops.size false).getD i true) (List.range ops.size)
  simpa [qM] using this
 have g:=M7 ops.size t (Array.replicate ops.size false) hf
 unfold Region.linearise
 generalize Region.linearise.go .any ops ops.size t (Array.replicate ops.size false) []=l at g ⊢
 rcases OQ (p:=p) (q:=q) l with c|c
 ·have w1:=JE (Q:=Post G h w n a.defers K) (fun a' w' p=>p) h1 s hn r k1
  rw[xt]at w1
  exact zX p q l a _ (zB l _ _ a _ (Cp hpq l _ c g) w1)
 ·have w1:=JE (Q:=Post G h w n a.defers K) (fun a' w' p=>p) h2 s hn r k2
  rw[xt]at w1
  exact zX q p l a _ (zB l _ _ a _ (Cp (fun e=>hpq e.symm) l _ c g) w1)
end
end
end Go.Proofs.YtbhphjpgjgigpaaGreatDoor.AL
