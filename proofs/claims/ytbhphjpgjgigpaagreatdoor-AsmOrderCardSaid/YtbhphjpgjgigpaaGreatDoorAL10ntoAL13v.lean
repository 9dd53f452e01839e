import Derived.Test.YtbhphjpgjgigpaaGreatDoorAL9ctoAL10e
import Derived.Laws.Externs
import Derived.Lib.Bytealg
set_option linter.all false
set_option autoImplicit true
set_option relaxedAutoImplicit true
set_option maxRecDepth 100000
namespace Go.Proofs.YtbhphjpgjgigpaaGreatDoor.AL
section
variable [Tabs]
section
variable {P:Program}{G:Gh}{h:ae}{w:World}
def C2 (P:Program):Op→Bool
 | .makeMap _ none=>true
 | .lookup ..=>true
 | .mapUpdate ..=>true
 | .insert ..=>true
 | .mapEntry ..=>true
 | .entryStore ..=>true
 | .range ..=>true
 | .next ..=>true
 | .entry _=>true
 | .makeSlice ..=>true
 | .convert s d _=>match P.underlying s,P.underlying d with
   | some (.slice _),some .string=>true
   | some .string,some (.slice _)=>true
   | _,_=>false
 | .binOp _ t _ _ _=>match P.underlying t with
   | some (.slice _)=>true
   | some (.map _ _)=>true
   | some (.interface _)=>true
   | some (.func _ _ _)=>true
   | some (.struct _)=>true
   | _=>false
 | .call c=>match c.callee with
   | .builtin .delete=>true
   | _=>false
 | _=>false
def Cb (P:Program) (t:TypeId) (K:TypeDesc→Value→Prop):Prop:=
 match P.underlying t with
 | some (.map kt et)=>(match P.underlying kt,P.info? et with
   | some d,some i=>(match i.zero with|some z=>if okV z=true then K d z else False|none=>False)
   | _,_=>False)
 | _=>False
def z7 (P:Program) (t:TypeId) (K:TypeDesc→Prop):Prop:=
 match P.underlying t with
 | some (.map kt _)=>(match P.underlying kt with|some d=>K d|none=>False)
 | _=>False
def xz (P:Program) (e:TypeId):Bool:=match P.underlying e with|some (.int .u8)=>true|_=>false
def xJ (P:Program) (op:BinOp) (t:TypeId) (a:AV) (y:Operand) (K:AV→Prop):Prop:=
 match P.underlying t,y with
 | some (.slice _),.const (.slice none 0 0)=>lQ op a K
 | some (.map _ _),.const (.map none)=>Eh op a K
 | some (.interface _),.const .nilIface=>Eg op a K
 | some (.func _ _ _),.const .nilFunc=>Eo op a K
 | _,_=>False
def wg (P:Program) (env:Env) (h:ae) (o:Oper) (K:QT):Prop:=
 match o.op with
 | .makeMap _ none=>qf h K
 | .lookup t x i ok=>en (opv env x) (opv env i) fun a b=>Cb P t fun d z=>jo d ok (ofV z) a b h fun r=>K r h
 | .mapUpdate t m k v=>en (opv env m) (opv env k) fun a b=>bT (opv env v) fun c=>z7 P t fun d=>ep d a b c h fun h'=>K (.tup []) h'
 | .insert t m k v=>en (opv env m) (opv env k) fun a b=>bT (opv env v) fun c=>z7 P t fun d=>ep d a b c h fun h'=>K (.tup []) h'
 | .mapEntry t m k=>en (opv env m) (opv env k) fun a b=>Cb P t fun d z=>pG d (ofV z) a b h K
 | .entryStore t m s v=>en (opv env m) (opv env s) fun a b=>bT (opv env v) fun c=>lf a b c h fun h'=>K (.tup []) h'
 | .range t x=>bT (opv env x) fun a=>match P.underlying t with
   | some .string=>tU a h K
   | some (.map _ _)=>um a h K
   | _=>False
 | .next x b=>bT (opv env x) fun a=>if b=true then zP a h K else zW a h K
 | .entry x=>bT (opv env x) fun a=>zD a h fun r=>K r h
 | .makeSlice t l c=>en (opv env l) (opv env c) fun a b=>match P.underlying t with
   | some (.slice e)=>(match P.info? e with
     | some i=>(match i.zero with|some z=>if (i.size==1&&z.oneCell')=true then kL i.bytes (F9 z) a b h K else False|none=>False)
     | none=>False)
   | _=>False
 | .convert s d x=>bT (opv env x) fun a=>match P.underlying s,P.underlying d with
   | some (.slice e),some .string=>if xz P e=true then pA a h fun r=>K r h else False
   | some .string,some (.slice e)=>if xz P e=true then pI a h K else False
   | _,_=>False
 | .binOp op t x y _=>match P.underlying t with
   | some (.struct fs)=>en (opv env x) (opv env y) fun a b=>(match wt P fs.toList 0 with
     | some ds=>if (!P.stoodInHeld t&&!P.eqGuardType P.depth t)=true then YN op ds a b fun r=>K r h else False
     | none=>False)
   | _=>bT (opv env x) fun a=>xJ P op t a y fun r=>K r h
 | .call c=>match c.callee with
   | .builtin .delete=>dT (ko env c.args.toList) fun vs=>(match vs,c.argTypes.toList with
     | [m,k],t::_=>z7 P t fun d=>Bx d m k h fun h'=>K (.tup []) h'
     | _,_=>False)
   | _=>False
 | _=>False
def vC (P:Program) (env:Env) (h:ae) (o:Oper) (K:QT):Prop:=if C2 P o.op=true then wg P env h o K else vP P env h o K
theorem D4 {t:TypeId}{K:TypeDesc→Value→Prop}(k:Cb P t K):∃ kt et d i z,P.underlying t=some (.map kt et)∧P.underlying kt=some d∧P.info? et=some i∧i.zero=some z∧okV z=true∧K d z:=by
 unfold Cb at k
 split at k
 ·split at k
  ·split at k
   ·split at k
    ·exact⟨_,_,_,_,_,‹_›,‹_›,‹_›,‹_›,‹_›,k⟩
    ·exact k.elim
   ·exact k.elim
  ·exact k.elim
 ·exact k.elim
theorem AD {t:TypeId}{K:TypeDesc→Prop}(k:z7 P t K):∃ kt et d,P.underlying t=some (.map kt et)∧P.underlying kt=some d∧K d:=by
 unfold z7 at k
 split at k
 ·split at k
  ·exact⟨_,_,_,‹_›,‹_›,k⟩
  ·exact k.elim
 ·exact k.elim
theorem FO {e:TypeId}(h:xz P e=true):P.underlying e=some (.int .u8):=by
 unfold xz at h
 split at h
 ·assumption
 ·cases h
theorem V8 {m:Sem Unit}{K:ae→Prop}(k:∃ h' G' w',m.run P w=.ok () w'∧K h'∧Sim G' h' w'∧Evo G h w G' h' w'):UpV P (N0 G h w fun v h'=>v=.tup []∧K h') ((do m;pure .skip:Sem Next).run P w):=by
 obtain⟨h',G',w',q1,q2,q3,q4⟩:=k
 simp only[Sem.run_bind,q1,Result.andThen_ok,Sem.run_pure]
 exact⟨.tup [],h',G',by simp[Rep,RepL,undef],⟨rfl,q2⟩,q3,q4⟩
theorem Xc {N N':Value→World→Prop}(hk:∀ v w,N v w→N' v w) {r:Result Next}(k:UpV P N r):UpV P N' r:=by
 unfold UpV at *
 split at k
 ·exact hk _ _ k
 ·exact hk _ _ k
 ·exact Calls.mono k fun e w'' ⟨v,he,hv⟩=>⟨v,he,hk _ _ hv⟩
 ·exact k.elim
theorem FW {m:Sem Unit}{K:QT}(k:∃ h' G' w',m.run P w=.ok () w'∧K (.tup []) h'∧Sim G' h' w'∧Evo G h w G' h' w'):UpV P (N0 G h w K) ((do m;pure .skip:Sem Next).run P w):=
 Xc (fun v w' ⟨r,h',G',q1,⟨q2,q3⟩,q4,q5⟩=>⟨r,h',G',q1,by subst q2;exact q3,q4,q5⟩) (V8 (K:=K (.tup [])) k)
theorem Y2 (s:Sim G h w) {env:Env}{a:Act}(r:EnvRep G env a.tmps) {o:Oper}{K:QT}(k:wg P env h o K):UpV P (N0 G h w K) ((execOp a.eval o).run P w):=by
 obtain⟨dst,op,ty,pos,after,guard⟩:=o
 cases op<;>simp only[wg]at k<;>try exact k.elim
 case makeMap t re=>
  cases re with
  | none=>exact gj (Nj s k.out)
  | some x=>exact k.elim
 case lookup t x i ok=>
  obtain⟨v,h1,k⟩:=aG k
  obtain⟨u,h2,k⟩:=aG k
  obtain⟨kt,et,d,inf,z,q1,q2,q3,q4,q5,k⟩:=D4 k
  exact be s (Pj s q1 q2 q3 q4 q5 (aO r h1) (aO r h2) k.out)
 case mapUpdate t m i x=>
  obtain⟨v,h1,k⟩:=aG k
  obtain⟨u,h2,k⟩:=aG k
  obtain⟨y,h3,k⟩:=aG k
  obtain⟨kt,et,d,q1,q2,k⟩:=AD k
  exact FW (yq s q1 q2 (aO r h1) (aO r h2) (aO r h3) k.out)
 case insert t m i x=>
  obtain⟨v,h1,k⟩:=aG k
  obtain⟨u,h2,k⟩:=aG k
  obtain⟨y,h3,k⟩:=aG k
  obtain⟨kt,et,d,q1,q2,k⟩:=AD k
  exact FW (yq s q1 q2 (aO r h1) (aO r h2) (aO r h3) k.out)
 case mapEntry t m i=>
  obtain⟨v,h1,k⟩:=aG k
  obtain⟨u,h2,k⟩:=aG k
  obtain⟨kt,et,d,inf,z,q1,q2,q3,q4,q5,k⟩:=D4 k
  exact gj (J2 s q1 q2 q3 q4 q5 (aO r h1) (aO r h2) k.out)
 case entryStore t m i x=>
  obtain⟨v,h1,k⟩:=aG k
  obtain⟨u,h2,k⟩:=aG k
  obtain⟨y,h3,k⟩:=aG k
  exact FW (FN s (aO r h1) (aO r h2) (aO r h3) k.out)
 case range t x=>
  obtain⟨v,h1,k⟩:=aG k
  split at k
  ·exact gj (PB s ‹_› (aO r h1) k.out)
  ·exact gj (Pb s ‹_› (aO r h1) k.out)
  ·exact k.elim
 case next x b=>
  obtain⟨v,h1,k⟩:=aG k
  cases b
  ·exact gj (Uu s (aO r h1) k.out)
  ·exact gj (Tt s (aO r h1) k.out)
 case entry x=>
  obtain⟨v,h1,k⟩:=aG k
  exact be s (UF s (aO r h1) k.out)
 case makeSlice t l c=>
  obtain⟨v,h1,k⟩:=aG k
  obtain⟨u,h2,k⟩:=aG k
  split at k
  ·split at k
   ·split at k
    ·split at k
     ·rename_i hc
      simp only[Bool.and_eq_true,beq_iff_eq]at hc
      exact gj (HS s ‹_› ‹_› ‹_› hc.1 hc.2 (aO r h1) (aO r h2) k.out)
     ·exact k.elim
    ·exact k.elim
   ·exact k.elim
  ·exact k.elim
 case convert sr d x=>
  obtain⟨v,h1,k⟩:=aG k
  split at k
  ·split at k
   ·exact be s (K0 s ‹_› (FO ‹_›) ‹_› (aO r h1) k.out)
   ·exact k.elim
  ·split at k
   ·exact gj (J6 s ‹_› ‹_› (FO ‹_›) (aO r h1) k.out)
   ·exact k.elim
  ·exact k.elim
 case binOp op t x y yt=>
  split at k
  ·rename_i fs ht
   obtain⟨v,h1,k⟩:=aG k
   obtain⟨u,h2,k⟩:=aG k
   split at k
   ·split at k
    ·rename_i hc
     simp only[Bool.and_eq_true,Bool.not_eq_true']at hc
     exact be s (Yp ht ‹_› hc.1 hc.2 (aO r h1) (aO r h2) k.out)
    ·exact k.elim
   ·exact k.elim
  ·obtain⟨v,h1,k⟩:=aG k
   unfold xJ at k
   split at k
   ·exact be s (PA ‹_› (aO r h1) k.out)
   ·exact be s (P7 ‹_› (aO r h1) k.out)
   ·exact be s (Qe ‹_› (aO r h1) k.out)
   ·exact be s (Ql ‹_› (aO r h1) k.out)
   ·exact k.elim
 case call c=>
  obtain⟨callee,args,argTypes⟩:=c
  simp only at k
  split at k
  ·obtain⟨vs,h1,k⟩:=dx k
   have hr:=i9 r h1
   split at k
   ·rename_i m ke t ts hT
    obtain⟨kt,et,d,q1,q2,k⟩:=AD k
    obtain⟨x,y,hx,hx2,hx3⟩:=hr.two
    have hargs:args.map a.eval=#[x,y]:=by apply Array.toList_inj.1;simpa using hx
    have hts:argTypes[0]?=some t:=by have:=congrArg (·[0]?) hT;simpa using this
    obtain⟨r',v',h',G',w',p1,p2,⟨p3,p4⟩,p5,p6⟩:=QP (ty:=ty) s q1 q2 hx2 hx3 hts k.out
    subst p3
    simp only[execOp,resolve,Sem.run_bind,Sem.run_pure,Result.andThen_ok,invoke,builtin,hargs,p1]
    exact⟨_,h',G',p2,p4,p5,p6⟩
   ·exact k.elim
  ·exact k.elim
theorem Y1 (s:Sim G h w) {env:Env}{a:Act}(r:EnvRep G env a.tmps) {o:Oper}{K:QT}(k:vC P env h o K):UpV P (N0 G h w K) ((execOp a.eval o).run P w):=by
 unfold vC at k
 split at k
 ·exact Y2 s r k
 ·exact Y4 s r k
theorem Iy {t:TypeId}{K K':TypeDesc→Value→Prop}(hk:∀ d z,K d z→K' d z) (k:Cb P t K):Cb P t K':=by
 unfold Cb at *
 (repeat' split at k)<;>first|exact k.elim|(simp only[*,if_true];exact hk _ _ k)|(rw[if_pos ‹_›];exact hk _ _ k)
theorem CR {t:TypeId}{K K':TypeDesc→Prop}(hk:∀ d,K d→K' d) (k:z7 P t K):z7 P t K':=by
 unfold z7 at *
 (repeat' split at k)<;>first|exact k.elim|exact hk _ k
theorem Ux {env:Env}{h:ae}{o:Oper}{K K':QT}(hk:∀ v h,K v h→K' v h) (k:wg P env h o K):wg P env h o K':=by
 obtain⟨dst,op,ty,pos,after,guard⟩:=o
 have hk':∀ v,K v h→K' v h:=fun v=>hk v h
 have hk2:∀ h',K (.tup []) h'→K' (.tup []) h':=fun h'=>hk _ h'
 cases op<;>simp only[wg]at k ⊢<;>try exact k.elim
 case makeMap t re=>
  cases re with
  | none=>exact HL hk _ k
  | some x=>exact k.elim
 case lookup=>exact dH (fun _ _ k=>Iy (fun _ _ k=>uq hk' _ _ _ _ _ _ k) k) _ _ k
 case mapUpdate=>exact dH (fun _ _ k=>bm (fun _ k=>CR (fun _ k=>u6 hk2 _ _ _ _ _ k) k) _ k) _ _ k
 case insert=>exact dH (fun _ _ k=>bm (fun _ k=>CR (fun _ k=>u6 hk2 _ _ _ _ _ k) k) _ k) _ _ k
 case mapEntry=>exact dH (fun _ _ k=>Iy (fun _ _ k=>Es hk _ _ _ _ _ k) k) _ _ k
 case entryStore=>exact dH (fun _ _ k=>bm (fun _ k=>BO hk2 _ _ _ _ k) _ k) _ _ k
 case range=>
  refine bm (fun _ k=>?_) _ k
  split at k
  ·exact LG hk _ _ k
  ·exact Lj hk _ _ k
  ·exact k.elim
 case next x b=>
  refine bm (fun _ k=>?_) _ k
  cases b
  ·exact ML hk _ _ k
  ·exact M1 hk _ _ k
 case entry=>exact bm (fun _ k=>wl hk' _ _ k) _ k
 case makeSlice=>
  refine dH (fun _ _ k=>?_) _ _ k
  (repeat' split at k)<;>first|exact k.elim|(rw[if_pos ‹_›];exact D1 hk _ _ _ _ _ k)
 case convert=>
  refine bm (fun _ k=>?_) _ k
  (repeat' split at k)<;>first|exact k.elim|(rw[if_pos ‹_›];exact qh hk' _ _ k)|(rw[if_pos ‹_›];exact Gy hk _ _ k)
 case binOp=>
  split at k
  ·refine dH (fun _ _ k=>?_) _ _ k
   (repeat' split at k)<;>first|exact k.elim|(rw[if_pos ‹_›];exact CL hk' _ _ _ _ k)
  ·refine bm (fun _ k=>?_) _ k
   unfold xJ at *
   split at k
   ·exact A8 hk' _ _ k
   ·exact uo hk' _ _ k
   ·exact tV hk' _ _ k
   ·exact uf hk' _ _ k
   ·exact k.elim
 case call c=>
  split at k
  ·refine eR (fun _ k=>?_) _ k
   split at k
   ·exact CR (fun _ k=>Lq hk2 _ _ _ _ k) k
   ·exact k.elim
  ·exact k.elim
theorem S9 {env:Env}{h:ae}{o:Oper}{K K':QT}(hk:∀ v h,K v h→K' v h) (k:vC P env h o K):vC P env h o K':=by
 unfold vC at *
 split at k
 ·rename_i hn;rw[if_pos hn];exact Ux hk k
 ·rename_i hn;rw[if_neg hn];exact S8 hk k
end
end
section
variable [Tabs]
section
variable {P:Program}{G:Gh}{h:ae}{w:World}
omit [Tabs] in
theorem FP {α:Type}(l:List α) (off:Nat):splice l off []=l:=by simp[splice]
omit [Tabs] in
theorem N8 {i:Nat}{o:AObj}(hi:h[i]?=some o):h.set i o=h:=by
 apply List.ext_getElem?
 intro j
 rw[List.getElem?_set]
 split
 ·rename_i e;subst e
  split
  ·exact hi.symm
  ·rename_i hn;rw[List.getElem?_eq_none (by omega)]at hi;cases hi
 ·rfl
theorem IW (s:Sim G h w) {i off len sz:Nat}{cs xs:List AV}{x:Value}(hcs:h[i]?=some (.cells cs)) (hx:Rep G (.sl i off len sz) x) {vs:List Value}(hv:RepL G xs vs) (hone:xs.all AV.one=true) (hl:xs.length≤len*sz) (hle:off+len*sz≤cs.length):
  ∃ b c,x=.slice (some b) len c∧∃ G' w',(storeCells b vs).run P w=.ok () w'∧Sim G' (h.set i (.cells (splice cs off xs))) w'∧Evo G h w G' (h.set i (.cells (splice cs off xs))) w':=by
 simp only[Rep]at hx
 obtain⟨b,o,c,ad,h1,h2,h3,h4,rfl⟩:=hx
 refine⟨_,_,rfl,?_⟩
 have hlv:=hv.length
 rcases Nat.eq_zero_or_pos c with hc0|hc0
 ·have:xs=[]:=by
   have:len=0:=by omega
   subst this
   exact List.length_eq_zero_iff.1 (by omega)
  subst this
  simp only[RepL]at hv
  subst hv
  refine⟨G,w,by simp[storeCells],?_,?_⟩
  ·rw[FP,N8 hcs];exact s
  ·rw[FP,N8 hcs];exact Evo.refl _ _ _
 ·obtain rfl:=h4 hc0
  obtain⟨b',o',arr,el,lo,hi',e1,e2,e3,e4,e5,e6⟩:=ro s hcs
  rw[h1]at e1
  cases e1
  obtain⟨arr',q2,q3⟩:=uu (P:=P) b (o+off) el lo hi' vs 0 arr w e2 e3 (by omega) (Em hv hone)
  have hsz:arr'.size=arr.size:=by
   have:=congrArg List.length q3
   rw[fL (by simp;omega)]at this
   simpa using this
  have x:ObjAt G (dl w b (.cells arr' el (lo,hi'))) i (.cells (splice cs off xs)):=by
   refine⟨b,o,arr',el,lo,hi',h1,mI w b _ (Array.getElem?_eq_some_iff.1 e2).1,by rw[hsz];exact e3,by rw[fL (by omega)];exact e4,by rw[hsz];exact e5,?_⟩
   intro q a ha
   rw[dB (by omega)]at ha
   have hget:arr'[o+q]?=arr'.toList[o+q]?:=by simp
   rw[hget,q3,dB (by simp;omega)]
   by_cases c1:q<off
   ·rw[if_pos c1]at ha
    rw[if_pos (by omega)]
    simpa using e6 q a ha
   ·rw[if_neg c1]at ha
    rw[if_neg (by omega)]
    by_cases c2:q<off+xs.length
    ·rw[if_pos c2]at ha
     rw[if_pos (by omega)]
     obtain⟨v,h4,h5⟩:=hv.at _ a ha
     exact⟨v,by rw[← h4];congr 1;omega,h5⟩
    ·rw[if_neg c2]at ha
     rw[if_neg (by omega)]
     simpa using e6 q a ha
  obtain⟨s',ev⟩:=vV s hcs rfl h1 rfl x
  exact⟨_,_,q2,s',ev⟩
theorem C4 (s:Sim G h w) {size:Nat}{v:AV}{x:Value}(hx:Rep G v x) {m:Nat}{xs:List AV}(e:dz h size v=some (m,xs)) {k:Nat}(hk:k≤m):
  ∃ vs:List Value,RepL G (xs.take (k*size)) vs∧(Builtin.firstCells size k x).run P w=.ok vs.toArray w:=by
 have hmul:k*size≤m*size:=Nat.mul_le_mul_right _ hk
 have snap:∀ (n c:Nat) (cs:List AV) (base:Option Addr),dz h size (.snap n cs)=some (m,xs)→k≤n→(cs=[]∧n=0∨∃ b o,base=some ⟨b,o,none⟩∧RepAt G cs b o)→
   ∃ vs:List Value,RepL G (xs.take (k*size)) vs∧(Builtin.firstCells size k (.slice base n c)).run P w=.ok vs.toArray w:=by
  intro n c cs base e hkn hb
  simp only[dz]at e
  split at e
  ·rename_i hl
   cases e
   rcases hb with ⟨rfl,rfl⟩|⟨b,o,rfl,h2⟩
   ·exact⟨[],by simp[RepL],by rw[show k=0 by omega];cases base<;>simp[Builtin.firstCells,loadCells,loadCellsFrom]⟩
   ·obtain⟨vs,h3,h4,h5⟩:=tF s h2 hl
    refine⟨vs.take (k*size),?_,?_⟩
    ·refine i7 (by simp;omega) fun j a ha=>?_
     rw[List.getElem?_take]at ha ⊢
     split at ha
     ·rename_i hj;rw[if_pos hj];exact h4.at j a ha
     ·cases ha
    ·have:=run_loadCells_list (P:=P) w ⟨b,o,none⟩ (vs.take (k*size)) (fun j v hj=>by
      rw[dF]
      rw[List.getElem?_take]at hj
      split at hj
      ·exact h5 j v hj
      ·cases hj)
     have hlen:(vs.take (k*size)).length=k*size:=by simp;omega
     rw[hlen]at this
     simpa [Builtin.firstCells] using this
  ·cases e
 unfold dz at e
 split at e
 ·rename_i n cs
  have hn:n=m:=by split at e<;>cases e;rfl
  simp only[Rep]at hx
  rcases hx with ⟨rfl,rfl,za,rfl⟩|⟨b,o,c,h1,rfl,h2⟩
  ·exact snap 0 0 [] za (by simpa [dz] using e) (by omega) (.inl ⟨rfl,rfl⟩)
  ·exact snap n c cs _ (by simpa [dz] using e) (by omega) (.inr ⟨b,o,rfl,h2⟩)
 ·rename_i n cs
  have hn:n=m:=by split at e<;>cases e;rfl
  simp only[Rep]at hx
  rcases hx with ⟨rfl,rfl,za,rfl⟩|⟨b,o,rfl,h2⟩
  ·exact snap 0 0 [] za (by simpa [dz] using e) (by omega) (.inl ⟨rfl,rfl⟩)
  ·exact snap n n cs _ (by simpa [dz] using e) (by omega) (.inr ⟨b,o,rfl,h2⟩)
 ·rename_i i off len sz
  split at e
  ·rename_i cs hcs
   split at e
   ·rename_i hc
    obtain⟨rfl,hle⟩:=hc
    cases e
    simp only[Rep]at hx
    obtain⟨b,o,c,ad,h1,h2,h3,h4,rfl⟩:=hx
    obtain⟨vs,q1,q2,_,q4⟩:=m7 (P:=P) (size:=sz) s (v:=.sl i off k sz) (x:=.slice (some ⟨b,ad,none⟩) k c) (by
     simp only[Rep];exact⟨b,o,c,ad,h1,h2,by omega,h4,rfl⟩) (m:=k) (xs:=(cs.drop off).take (k*sz)) (by simp[dz,hcs];omega)
    refine⟨vs,?_,?_⟩
    ·rw[List.take_take,Nat.min_eq_left hmul];exact q2
    ·simpa [Builtin.firstCells] using q4
   ·cases e
  ·cases e
 ·rename_i s'
  split at e
  ·rename_i h1
   subst h1
   cases e
   simp only[Rep]at hx
   obtain⟨rfl,_⟩:=hx
   refine⟨(s'.data.toList.take k).map fun b=>Value.int .u8 b.toNat,by rw[Nat.mul_one,← List.map_take];exact zL G _,?_⟩
   simp only[Builtin.firstCells,Sem.run_pure]
   congr 1
   apply Array.toList_inj.1
   simp[ByteArray.extract,ByteArray.copySlice]
  ·cases e
 ·cases e
def CU (size:Nat) (v x:AV) (h:ae) (K:QT):Prop:=
 match dz h size x with
 | none=>False
 | some (m,xs)=>match v with
   | .sl i off len sz=>(match h[i]? with
     | some (.cells cs)=>(sz=size∧off+len*size≤cs.length∧xs.all AV.one=true)∧K (I (Nat.min m len)) (h.set i (.cells (splice cs off (xs.take (Nat.min m len*size)))))
     | _=>False)
   | .full n _=>Nat.min m n=0∧K (I 0) h
   | .snap n _=>Nat.min m n=0∧K (I 0) h
   | _=>False
structure aaZ (size:Nat) (v x:AV) (h:ae) (K:QT):Prop where
 mk::(out:CU size v x h K)
theorem Wg (s:Sim G h w) {t e ty:TypeId}{ts:Array TypeId}{i:TypeInfo}(ht0:ts[0]?=some t) (ht:P.underlying t=some (.slice e)) (hi:P.info? e=some i) {v x:AV}{a b:Value}(hx:Rep G v a) (hy:Rep G x b) {K:QT}(k:CU i.size v x h K):
  Ye P G h w (Builtin.copy_ ts ty #[a,b]) K:=by
 unfold CU at k
 split at k
 ·exact k.elim
 ·rename_i m xs hxs
  obtain⟨_,_,_,hm,_⟩:=m7 (P:=P) s hy hxs
  have none_:∀ (base:Option Addr) (n c:Nat),a=.slice base n c→Nat.min m n=0→K (I 0) h→Ye P G h w (Builtin.copy_ ts ty #[a,b]) K:=by
   rintro base n c rfl hmn k
   obtain⟨vs,hv1,hv2⟩:=C4 (P:=P) s hy hxs (k:=0) (Nat.zero_le _)
   simp only[Nat.zero_mul,List.take_zero,RepL]at hv1
   subst hv1
   refine⟨I 0,.int .i64 0,h,G,w,?_,by simp[Rep,Value.oneCell'],k,s,Evo.refl _ _ _⟩
   have hmn':min m n=0:=hmn
   cases base<;>simp[Builtin.copy_,ht0,run_underlying ht,hm,sizeOf,typeInfo,hi,hmn',hv2,storeCells,goInt]
  split at k
  ·rename_i j off len sz
   split at k
   ·rename_i cs hcs
    obtain⟨⟨rfl,hle,hone⟩,k⟩:=k
    have hkm:Nat.min m len≤m:=Nat.min_le_left _ _
    have hkl:Nat.min m len≤len:=Nat.min_le_right _ _
    obtain⟨vs,hv1,hv2⟩:=C4 (P:=P) s hy hxs hkm
    obtain⟨ba,c,rfl,G',w',q1,q2,q3⟩:=IW (P:=P) s hcs hx hv1 (by
     rw[List.all_eq_true]at hone ⊢;exact fun y hy=>hone y (List.mem_of_mem_take hy)) (by simp only[List.length_take];exact Nat.le_trans (Nat.min_le_left _ _) (Nat.mul_le_mul_right _ hkl)) hle
    refine⟨_,.int .i64 (Nat.min m len),_,G',w',?_,by simp[Rep,Value.oneCell'],k,q2,q3⟩
    have hv2':(Builtin.firstCells i.size (min m len) b).run P w=.ok vs.toArray w:=hv2
    simp[Builtin.copy_,ht0,run_underlying ht,hm,sizeOf,typeInfo,hi,hv2',q1,goInt]
   ·exact k.elim
  ·rename_i n cs
   simp only[Rep]at hx
   rcases hx with ⟨rfl,rfl,za,rfl⟩|⟨bb,o,rfl,h2⟩
   ·exact none_ _ _ _ rfl k.1 k.2
   ·exact none_ _ _ _ rfl k.1 k.2
  ·rename_i n cs
   simp only[Rep]at hx
   rcases hx with ⟨rfl,rfl,za,rfl⟩|⟨bb,o,c,_,rfl,h2⟩
   ·exact none_ _ _ _ rfl k.1 k.2
   ·exact none_ _ _ _ rfl k.1 k.2
  ·exact k.elim
theorem OW {size:Nat}{v x:AV}{h:ae}{K K':QT}(hk:∀ v h,K v h→K' v h) (k:CU size v x h K):CU size v x h K':=by
 unfold CU at *
 split at k
 ·exact k.elim
 ·split at k
  ·split at k
   ·exact⟨k.1,hk _ _ k.2⟩
   ·exact k.elim
  ·exact⟨k.1,hk _ _ k.2⟩
  ·exact⟨k.1,hk _ _ k.2⟩
  ·exact k.elim
def wo (size:Nat) (u v:AV) (h:ae) (K:ae→Prop):Prop:=
 match v with
 | .sl i off len sz=>(match h[i]? with
   | some (.cells cs)=>(u.isTup=false∧u.cells.length=size∧sz=size∧off+len*size≤cs.length∧u.cells.all AV.one=true)∧K (h.set i (.cells (splice cs off (List.replicate len u.cells).flatten)))
   | _=>False)
 | .full 0 _=>K h
 | .snap 0 _=>K h
 | _=>False
structure aab (size:Nat) (u v:AV) (h:ae) (K:ae→Prop):Prop where
 mk::(out:wo size u v h K)
omit [Tabs] in
theorem vS (zs:Array Value):∀ n,(Builtin.zeroCells zs n).toList=(List.replicate n zs.toList).flatten
 | 0=>by simp[Builtin.zeroCells]
 | n+1=>by
   have ih:=vS zs n
   rw[List.replicate_succ',List.flatten_append,← ih]
   simp only[Builtin.zeroCells,Array.toList_map,Array.toList_range,List.flatten_cons,List.flatten_nil,List.append_nil]
   rw[Nat.succ_mul,List.range_add,List.map_append]
   congr 1
   rw[List.map_map]
   apply List.ext_getElem?
   intro j
   simp only[List.getElem?_map,Function.comp_apply]
   by_cases hj:j<zs.size
   ·simp[hj,Nat.mod_eq_of_lt hj]
   ·simp[hj]
theorem Nd {G:Gh}{cs:List AV}{vs:List Value}(r:RepL G cs vs):∀ n,RepL G (List.replicate n cs).flatten (List.replicate n vs).flatten
 | 0=>by simp[RepL]
 | n+1=>by rw[List.replicate_succ,List.replicate_succ,List.flatten_cons,List.flatten_cons];exact r.append (Nd r n)
theorem SL (s:Sim G h w) {t e ty:TypeId}{ts:Array TypeId}{i:TypeInfo}{z:Value}(ht0:ts[0]?=some t) (ht:P.underlying t=some (.slice e)) (hi:P.info? e=some i) (hz:i.zero=some z) {u v:AV}{a:Value}(hx:Rep G v a) (hu:Rep G u z) {K:ae→Prop}(k:wo i.size u v h K):
  Ye P G h w (Builtin.clear_ ts ty #[a]) (fun r h'=>r=.tup []∧K h'):=by
 unfold wo at k
 split at k
 ·rename_i j off len sz
  split at k
  ·rename_i cs hcs
   obtain⟨⟨hut,hul,rfl,hle,hone⟩,k⟩:=k
   have hc:=hu.cells hut
   have hrr:=Nd hc len
   have hlen:(List.replicate len u.cells).flatten.length=len*i.size:=by simp[List.length_flatten,hul]
   have hone':(List.replicate len u.cells).flatten.all AV.one=true:=by
    rw[List.all_eq_true]at hone ⊢
    intro y hy
    obtain⟨l,h1,h2⟩:=List.mem_flatten.1 hy
    rw[(List.mem_replicate.1 h1).2]at h2
    exact hone y h2
   obtain⟨ba,c,rfl,G',w',q1,q2,q3⟩:=IW (P:=P) s hcs hx hrr hone' (by omega) hle
   refine⟨.tup [],.tuple #[],_,G',w',?_,by simp[Rep,RepL],⟨rfl,k⟩,q2,q3⟩
   rw[← vS]at q1
   cases len with
   | zero=>
     have:w'=w:=by
      simp[Builtin.zeroCells,storeCells]at q1
      exact q1.symm
     subst this
     simp[Builtin.clear_,ht0,run_underlying ht]
   | succ len=>simp[Builtin.clear_,ht0,run_underlying ht,zeroValue,typeInfo,hi,hz,q1]
  ·exact k.elim
 ·simp only[Rep]at hx
  refine⟨.tup [],.tuple #[],h,G,w,?_,by simp[Rep,RepL],⟨rfl,k⟩,s,Evo.refl _ _ _⟩
  rcases hx with ⟨_,rfl,za,rfl⟩|⟨bb,o,rfl,h2⟩<;>(try cases za)<;>simp[Builtin.clear_,ht0,run_underlying ht]
 ·simp only[Rep]at hx
  refine⟨.tup [],.tuple #[],h,G,w,?_,by simp[Rep,RepL],⟨rfl,k⟩,s,Evo.refl _ _ _⟩
  rcases hx with ⟨_,rfl,za,rfl⟩|⟨bb,o,c,_,rfl,h2⟩<;>(try cases za)<;>simp[Builtin.clear_,ht0,run_underlying ht]
 ·exact k.elim
theorem MK {size:Nat}{u v:AV}{h:ae}{K K':ae→Prop}(hk:∀ h,K h→K' h) (k:wo size u v h K):wo size u v h K':=by
 unfold wo at *
 split at k
 ·split at k
  ·exact⟨k.1,hk _ k.2⟩
  ·exact k.elim
 ·exact hk _ k
 ·exact hk _ k
 ·exact k.elim
end
end
section
variable [Tabs]
section
variable {P:Program}{G:Gh}{h:ae}{w:World}
inductive Ext where
 | index
 | count
 | bits
 | frombits
def Me (P:Program) (f:FuncId):Option Ext:=match P.funcs[f]? with
 | some fn => if fn.body.isNone = true then (if (fn.name == "internal/bytealg.IndexByteString" && fn.origin == "") = true then some .index
   else if (fn.name == "internal/bytealg.CountString" && fn.origin == "") = true then some .count else if (fn.name == "math.Float64bits" && fn.origin == "") = true then some .bits else if (fn.name == "math.Float64frombits" && fn.origin == "") = true then some .frombits else none) else none
 | none=>none
def yX (e:Ext) (vs:List AV) (K:AV→Prop):Prop:=
 match e,vs with
 | .index,[.lit (.string s),.lit (.int .u8 c)]=>K (I (Lib.indexByte s.data.toList c.toNat.toUInt8))
 | .count,[.lit (.string s),.lit (.int .u8 c)]=>K (I (Lib.countByte s.data.toList c.toNat.toUInt8))
 | .bits,[.lit (.float .f64 b)]=>K (.lit (.int .u64 b))
 | .frombits,[.lit (.int .u64 n)]=>K (.lit (.float .f64 n.toNat))
 | _,_=>False
structure Xr (e:Ext) (vs:List AV) (K:AV→Prop):Prop where
 mk::(out:yX e vs K)
theorem B6 {e:Ext}{vs:List AV}{K K':AV→Prop}(hk:∀ r,K r→K' r) (k:yX e vs K):yX e vs K':=by
 unfold yX at *
 split at k<;>first|exact hk _ k|exact k.elim
theorem Vs {e:Ext}{vs:List AV}{K:AV→Prop}(k:yX e vs K):∃ v,K v∧yX e vs fun r=>r=v:=by
 unfold yX at *
 split at k<;>first|exact⟨_,k,rfl⟩|exact k.elim
theorem look_index : Extern.allGenericRows.lookup "internal/bytealg.IndexByteString" = none ∧ Extern.allTypedRows.lookup "internal/bytealg.IndexByteString" = none ∧ Extern.allRows.lookup "internal/bytealg.IndexByteString" = some Extern.BytealgIndexByte.indexByte := ⟨by kernel_rfl, by kernel_rfl, by kernel_rfl⟩
theorem look_count : Extern.allGenericRows.lookup "internal/bytealg.CountString" = none ∧ Extern.allTypedRows.lookup "internal/bytealg.CountString" = none ∧ Extern.allRows.lookup "internal/bytealg.CountString" = some Extern.BytealgCount.count := ⟨by kernel_rfl, by kernel_rfl, by kernel_rfl⟩
theorem look_bits : Extern.allGenericRows.lookup "math.Float64bits" = none ∧ Extern.allTypedRows.lookup "math.Float64bits" = none ∧ Extern.allRows.lookup "math.Float64bits" = some Extern.MathFloatBits.float64bits := ⟨by kernel_rfl, by kernel_rfl, by kernel_rfl⟩
theorem look_frombits : Extern.allGenericRows.lookup "math.Float64frombits" = none ∧ Extern.allTypedRows.lookup "math.Float64frombits" = none ∧ Extern.allRows.lookup "math.Float64frombits" = some Extern.MathFloatBits.float64frombits := ⟨by kernel_rfl, by kernel_rfl, by kernel_rfl⟩
theorem look_next2 : Extern.allNextRows.lookup "math.Float64bits" = none ∧ Extern.allNextRows.lookup "math.Float64frombits" = none := ⟨by kernel_rfl, by kernel_rfl⟩
theorem look_next : Extern.allNextRows.lookup "internal/bytealg.IndexByteString" = none ∧ Extern.allNextRows.lookup "internal/bytealg.CountString" = none ∧ Extern.allNextRows.lookup "" = none := ⟨by kernel_rfl, by kernel_rfl, by kernel_rfl⟩
theorem Yw {f:FuncId}{e:Ext}(he:Me P f=some e) {vs:List AV}{xs:Array Value}(hr:RepL G vs xs.toList) {K:AV→Prop}(k:yX e vs K):
  ∃ r v,(callFunc f xs).run P w=.ok (.value v) w∧Rep G r v∧K r:=by
 unfold Me at he
 split at he
 ·rename_i fn hf
  split at he
  ·rename_i hb
   split at he
   ·rename_i hn
    cases he
    simp only[Bool.and_eq_true,beq_iff_eq]at hn
    have h1:Extern.findNext fn=none:=by unfold Extern.findNext;simp only[hn.1,hn.2,look_next.1,look_next.2.2];rfl
    have h2:Extern.find fn=some Extern.BytealgIndexByte.indexByte:=by unfold Extern.find;simp only[hn.1,look_index.1,look_index.2.1,look_index.2.2];rfl
    rw[run_callFunc_extern hf (by rw[hn.1];decide) hb h1 h2]
    have k:∃ s c,vs=[.lit (.string s),.lit (.int .u8 c)]∧K (I (Lib.indexByte s.data.toList c.toNat.toUInt8)):=by
     unfold yX at k;split at k<;>first|contradiction|exact⟨_,_,rfl,k⟩|exact k.elim
    obtain⟨s,c,rfl,k⟩:=k
    ·obtain⟨a,b,hx,ha,hb⟩:=hr.two
     simp only[Rep]at ha hb
     have:xs=#[a,b]:=by apply Array.toList_inj.1;simpa using hx
     rw[this,ha.1,hb.1,run_indexByte_string,Lib.firstIdx_eq]
     exact⟨_,_,rfl,by simp[Rep,Value.oneCell'],k⟩
   ·split at he
    ·rename_i hn
     cases he
     simp only[Bool.and_eq_true,beq_iff_eq]at hn
     have h1:Extern.findNext fn=none:=by unfold Extern.findNext;simp only[hn.1,hn.2,look_next.2.1,look_next.2.2];rfl
     have h2:Extern.find fn=some Extern.BytealgCount.count:=by unfold Extern.find;simp only[hn.1,look_count.1,look_count.2.1,look_count.2.2];rfl
     rw[run_callFunc_extern hf (by rw[hn.1];decide) hb h1 h2]
     have k:∃ s c,vs=[.lit (.string s),.lit (.int .u8 c)]∧K (I (Lib.countByte s.data.toList c.toNat.toUInt8)):=by
      unfold yX at k;split at k<;>first|contradiction|exact⟨_,_,rfl,k⟩|exact k.elim
     obtain⟨s,c,rfl,k⟩:=k
     ·obtain⟨a,b,hx,ha,hb⟩:=hr.two
      simp only[Rep]at ha hb
      have:xs=#[a,b]:=by apply Array.toList_inj.1;simpa using hx
      rw[this,ha.1,hb.1,Lib.run_countString]
      exact⟨_,_,rfl,by simp[Rep,Value.oneCell'],k⟩
    ·split at he
     ·rename_i hn
      cases he
      simp only[Bool.and_eq_true,beq_iff_eq]at hn
      have h1:Extern.findNext fn=none:=by unfold Extern.findNext;simp only[hn.1,hn.2,look_next2.1,look_next.2.2];rfl
      have h2:Extern.find fn=some Extern.MathFloatBits.float64bits:=by unfold Extern.find;simp only[hn.1,look_bits.1,look_bits.2.1,look_bits.2.2];rfl
      rw[run_callFunc_extern hf (by rw[hn.1];decide) hb h1 h2]
      have k:∃ b,vs=[.lit (.float .f64 b)]∧K (.lit (.int .u64 b)):=by
       unfold yX at k;split at k<;>first|contradiction|exact⟨_,rfl,k⟩|exact k.elim
      obtain⟨b,rfl,k⟩:=k
      obtain⟨a,hx,ha⟩:=hr.single
      simp only[Rep]at ha
      have:xs=#[a]:=by apply Array.toList_inj.1;simpa using hx
      rw[this,ha.1]
      exact⟨_,_,rfl,by simp[Rep,Value.oneCell'],k⟩
     ·split at he
      ·rename_i hn
       cases he
       simp only[Bool.and_eq_true,beq_iff_eq]at hn
       have h1:Extern.findNext fn=none:=by unfold Extern.findNext;simp only[hn.1,hn.2,look_next2.2,look_next.2.2];rfl
       have h2:Extern.find fn=some Extern.MathFloatBits.float64frombits:=by unfold Extern.find;simp only[hn.1,look_frombits.1,look_frombits.2.1,look_frombits.2.2];rfl
       rw[run_callFunc_extern hf (by rw[hn.1];decide) hb h1 h2]
       have k:∃ n,vs=[.lit (.int .u64 n)]∧K (.lit (.float .f64 n.toNat)):=by
        unfold yX at k;split at k<;>first|contradiction|exact⟨_,rfl,k⟩|exact k.elim
       obtain⟨n,rfl,k⟩:=k
       obtain⟨a,hx,ha⟩:=hr.single
       simp only[Rep]at ha
       have:xs=#[a]:=by apply Array.toList_inj.1;simpa using hx
       rw[this,ha.1]
       exact⟨_,_,rfl,by simp[Rep,Value.oneCell'],k⟩
      ·cases he
  ·cases he
 ·cases he
def isX (P:Program):Op→Bool
 | .call c=>match c.callee with
   | .value (.func f)=>(Me P f).isSome
   | .builtin .copy=>true
   | .builtin .clear=>true
   | _=>false
 | .indexAddr _ (.global _) _=>true
 | .load _ (.global _)=>true
 | _=>false
def VZ:Op→Bool
 | .call c=>match c.callee with
   | .value (.func _)=>true
   | _=>false
 | .indexAddr _ (.global _) _=>true
 | .load _ (.global _)=>true
 | _=>false
def Gz (P:Program) (ts:Array TypeId) (K:Value→TypeInfo→Prop):Prop:=
 match ts.toList with
 | t::_=>(match P.underlying t with
   | some (.slice e)=>(match P.info? e with
     | some i=>(match i.zero with|some z=>if okV z=true then K z i else False|none=>False)
     | none=>False)
   | _=>False)
 | _=>False
theorem El {ts:Array TypeId}{K:Value→TypeInfo→Prop}(k:Gz P ts K):∃ t e i z,ts[0]?=some t∧P.underlying t=some (.slice e)∧P.info? e=some i∧i.zero=some z∧okV z=true∧K z i:=by
 unfold Gz at k
 split at k
 ·rename_i t rest ht
  split at k
  ·split at k
   ·split at k
    ·split at k
     ·refine⟨t,_,_,_,?_,by assumption,by assumption,by assumption,by assumption,k⟩
      rw[← Array.getElem?_toList,ht];rfl
     ·exact k.elim
    ·exact k.elim
   ·exact k.elim
  ·exact k.elim
 ·exact k.elim
theorem Jx {ts:Array TypeId}{K K':Value→TypeInfo→Prop}(hk:∀ z i,K z i→K' z i) (k:Gz P ts K):Gz P ts K':=by
 unfold Gz at *
 split at k
 ·split at k
  ·split at k
   ·split at k
    ·split at k
     ·rename_i h;rw[if_pos h];exact hk _ _ k
     ·exact k.elim
    ·exact k.elim
   ·exact k.elim
  ·exact k.elim
 ·exact k.elim
def vY (P:Program) (env:Env) (h:ae) (o:Oper) (K:QT):Prop:=
 match o.op with
 | .call c=>match c.callee with
   | .value (.func f)=>dT (ko env c.args.toList) fun vs=>(match Me P f with|some e=>Xr e vs fun r=>K r h|none=>False)
   | .builtin .copy=>dT (ko env c.args.toList) fun vs=>Gz P c.argTypes fun _ i=>(match vs with|[v,x]=>aaZ i.size v x h K|_=>False)
   | .builtin .clear=>dT (ko env c.args.toList) fun vs=>Gz P c.argTypes fun z i=>(match vs with|[v]=>aab i.size (ofV z) v h fun h'=>K (.tup []) h'|_=>False)
   | _=>False
 | .indexAddr t (.global g) i=>(match Tabs.tab g with
   | some cs=>bT (opv env i) fun iv=>eo P t (.cptr cs) iv fun r=>K r h
   | none=>False)
 | .load t (.global g)=>(match Tabs.tab g with
   | some cs=>kr P t (.cptr cs) h fun r=>K r h
   | none=>False)
 | _=>False
def aop (P:Program) (env:Env) (h:ae) (o:Oper) (K:QT):Prop:=if isX P o.op=true then vY P env h o K else vC P env h o K
theorem Rg (s:Sim G h w) {g:Nat}{cs:List AV}(hg:Tabs.tab g=some cs) (a:Act):Rep G (.cptr cs) (a.eval (.global g)):=by
 simp only[Act.eval,Rep]
 exact⟨g,0,rfl,Tabs.tab_ok G g cs s.tab hg⟩
theorem Yy (s:Sim G h w) {env:Env}{a:Act}(r:EnvRep G env a.tmps) {o:Oper}{K:QT}(k:vY P env h o K):UpV P (N0 G h w K) ((execOp a.eval o).run P w):=by
 obtain⟨dst,op,ty,pos,after,guard⟩:=o
 cases op<;>simp only[vY]at k<;>try exact k.elim
 case call c=>
  obtain⟨callee,args,argTypes⟩:=c
  simp only at k
  split at k
  ·rename_i f
   obtain⟨vs,h1,k⟩:=dx k
   split at k
   ·rename_i e he
    have hr:=i9 r h1
    obtain⟨rr,v,q1,q2,q3⟩:=Yw (w:=w) (xs:=args.map a.eval) he (by simpa using hr) k.out
    simp only[execOp,resolve,Deferred.ofValue,Act.eval,Sem.run_bind,Sem.run_pure,Result.andThen_ok,invoke,Array.append_empty,Array.empty_append]
    rw[q1]
    exact⟨rr,h,G,q2,q3,s,Evo.refl _ _ _⟩
   ·exact k.elim
  ·obtain⟨vs,h1,k⟩:=dx k
   obtain⟨t,e,i,z,ht0,ht,hi,hz,hzo,k2⟩:=El k
   have hr:=i9 r h1
   clear k
   split at k2
   ·rename_i v u
    obtain⟨x,y,hx,hx2,hx3⟩:=(show RepL G [v,u] (args.map a.eval).toList by simpa using hr).two
    have hargs:args.map a.eval=#[x,y]:=by apply Array.toList_inj.1;simpa using hx
    obtain⟨r',v',h',G',w',q1,q2,q3,q4,q5⟩:=Wg (ty:=ty) s ht0 ht hi hx2 hx3 k2.out
    simp only[execOp,resolve,Sem.run_bind,Sem.run_pure,Result.andThen_ok,invoke,builtin,hargs,q1]
    exact⟨r',h',G',q2,q3,q4,q5⟩
   ·exact k2.elim
  ·obtain⟨vs,h1,k⟩:=dx k
   obtain⟨t,e,i,z,ht0,ht,hi,hz,hzo,k2⟩:=El k
   have hr:=i9 r h1
   clear k
   split at k2
   ·rename_i v
    obtain⟨x,hx,hx2⟩:=(show RepL G [v] (args.map a.eval).toList by simpa using hr).single
    have hargs:args.map a.eval=#[x]:=by apply Array.toList_inj.1;simpa using hx
    obtain⟨r',v',h',G',w',q1,q2,⟨rfl,q3⟩,q4,q5⟩:=SL (ty:=ty) s ht0 ht hi hz hx2 (qI G z hzo) k2.out
    simp only[execOp,resolve,Sem.run_bind,Sem.run_pure,Result.andThen_ok,invoke,builtin,hargs,q1]
    exact⟨_,h',G',q2,q3,q4,q5⟩
   ·exact k2.elim
  ·exact k.elim
 case indexAddr t x i=>
  cases x<;>simp only at k<;>try exact k.elim
  split at k
  ·rename_i cs hg
   obtain⟨iv,h1,k⟩:=aG k
   have hx:=Rg s hg a
   unfold eo at k
   split at k
   ·split at k
    ·exact be s (yE ‹_› ‹_› hx (aO r h1) k.out)
    ·exact k.elim
   ·split at k
    ·exact be s (xb ‹_› ‹_› hx (aO r h1) k.out)
    ·exact k.elim
   ·exact k.elim
  ·exact k.elim
 case load t x=>
  cases x<;>simp only at k<;>try exact k.elim
  split at k
  ·rename_i cs hg
   have hx:=Rg s hg a
   unfold kr at k
   split at k
   ·split at k
    ·exact be s (CB s ‹_› ‹_› ‹_› hx k.out)
    ·rename_i hd;exact be s (Cn s ‹_› (by simpa using hd) hx k.out)
   ·exact k.elim
  ·exact k.elim
theorem UG {env:Env}{h:ae}{o:Oper}{K K':QT}(hk:∀ v h,K v h→K' v h) (k:vY P env h o K):vY P env h o K':=by
 obtain⟨dst,op,ty,pos,after,guard⟩:=o
 cases op<;>simp only[vY]at k ⊢<;>try exact k.elim
 case call c=>
  split at k
  ·refine eR (fun _ k=>?_) _ k
   split at k
   ·exact⟨B6 (fun r k=>hk r h k) k.out⟩
   ·exact k.elim
  ·refine eR (fun _ k=>Jx (fun z i k=>?_) k) _ k
   split at k
   ·exact⟨OW hk k.out⟩
   ·exact k.elim
  ·refine eR (fun _ k=>Jx (fun z i k=>?_) k) _ k
   split at k
   ·exact⟨MK (fun h k=>hk _ h k) k.out⟩
   ·exact k.elim
  ·exact k.elim
 case indexAddr t x i=>
  cases x<;>simp only at k ⊢<;>try exact k.elim
  split at k
  ·refine bm (fun _ k=>?_) _ k
   unfold eo at *
   (repeat' split at k)<;>first
    | exact k.elim
    | exact ic (fun r k=>hk r h k) _ _ _ k
    | exact eN (fun r k=>hk r h k) _ _ _ _ k
  ·exact k.elim
 case load t x=>
  cases x<;>simp only at k ⊢<;>try exact k.elim
  split at k
  ·unfold kr at *
   split at k
   ·split at k
    ·rename_i hd;rw[if_pos hd];exact gI (fun r k=>hk r h k) _ _ _ k
    ·rename_i hd;rw[if_neg hd];exact gK (fun r k=>hk r h k) _ _ k
   ·exact k.elim
  ·exact k.elim
theorem Xq (s:Sim G h w) {env:Env}{a:Act}(r:EnvRep G env a.tmps) {o:Oper}{K:QT}(k:aop P env h o K):UpV P (N0 G h w K) ((execOp a.eval o).run P w):=by
 unfold aop at k
 split at k
 ·exact Yy s r k
 ·exact Y1 s r k
theorem kp {env:Env}{h:ae}{o:Oper}{K K':QT}(hk:∀ v h,K v h→K' v h) (k:aop P env h o K):aop P env h o K':=by
 unfold aop at *
 split at k
 ·rename_i hn;rw[if_pos hn];exact UG hk k
 ·rename_i hn;rw[if_neg hn];exact S9 hk k
end
end
section
variable [Tabs]
section
variable {P:Program}{G:Gh}{h:ae}{w:World}{n:Nat}
def putD (env:Env) (d:Option Tmp) (v:AV):Env:=match d with|some d=>(d,v)::env|none=>env
def fg (n:Nat) (d:Option Tmp):Bool:=match d with|some d=>decide (d<n)|none=>true
theorem EnvRep.putD {env:Env}{a:Act}(r:EnvRep G env a.tmps) {d:Option Tmp}(hd:fg a.tmps.size d=true) {v:AV}{x:Value}(hx:Rep G v x):EnvRep G (putD env d v) (a.put d x).tmps:=by
 cases d with
 | none=>exact r
 | some d=>exact r.put (by simpa [fg] using hd) hx
theorem put_size (a:Act) (d:Option Tmp) (x:Value):(a.put d x).tmps.size=a.tmps.size:=by cases d<;>simp[Act.put]
theorem put_defers (a:Act) (d:Option Tmp) (x:Value):(a.put d x).defers=a.defers:=by cases d<;>simp[Act.put]
def pX (P:Program) (n:Nat) (env:Env) (h:ae) (o:Oper) (K:Env→ae→Prop):Prop:=
 if fg n o.dst=true then aop P env h o fun v h'=>K (putD env o.dst v) h' else False
def ifT (v:AV) (X Y Z:Prop):Prop:=match v with|.tup []=>Z|_=>ifB v X Y
def ifG (g:Bool) (v:AV) (X Y Z:Prop):Prop:=match g with|true=>ifT v X Y Z|false=>ifB v X Y
def Ue (ops:Array Oper) (j:Nat):Bool:=match ops[j]? with|some o=>o.guard.isSome|none=>false
omit [Tabs] in
theorem IQ {v:AV}{X Y:Prop}(k:ifB v X Y):(v=B true∧X)∨(v=B false∧Y):=by
 unfold ifB at k;split at k
 ·exact .inl ⟨rfl,k⟩
 ·exact .inr ⟨rfl,k⟩
 ·exact k.elim
omit [Tabs] in
theorem IX {g:Bool}{v:AV}{X Y Z:Prop}(k:ifG g v X Y Z):(v=B true∧X)∨(v=B false∧Y)∨(v=.tup []∧Z):=by
 unfold ifG at k;split at k
 ·unfold ifT at k;split at k
  ·exact .inr (.inr ⟨rfl,k⟩)
  ·exact (IQ k).elim .inl fun h=>.inr (.inl h)
 ·exact (IQ k).elim .inl fun h=>.inr (.inl h)
theorem L4 {g:Bool}{v:AV}{X Y Z X' Y' Z':Prop}(hx:X→X') (hy:Y→Y') (hz:Z→Z') (k:ifG g v X Y Z):ifG g v X' Y' Z':=by
 unfold ifG at *
 split at k
 ·unfold ifT at *;split at k
  ·exact hz k
  ·exact Be hx hy k
 ·exact Be hx hy k
omit [Tabs] in
theorem Sl {g:Bool}{X Y Z:Prop}(k:X):ifG g (B true) X Y Z:=by cases g<;>exact k
omit [Tabs] in
theorem Ss {g:Bool}{X Y Z:Prop}(k:Y):ifG g (B false) X Y Z:=by cases g<;>exact k
def jb (P:Program) (n:Nat) (ops:Array Oper):List Nat→Env→ae→(Env→ae→Prop)→Prop
 | [],env,h,K=>K env h
 | i::rest,env,h,K=>match ops[i]? with
   | none=>False
   | some o=>match o.guard with
     | none=>pX P n env h o fun env' h'=>jb P n ops rest env' h' K
     | some (j,want)=>match (ops[j]?).bind (·.dst) with
       | none=>False
       | some s=>bT (get env s) fun v=>
         ifG (Ue ops j) v
          (if want=true then pX P n ((s,B true)::env) h o fun env' h'=>jb P n ops rest env' h' K
           else if fg n o.dst=true then jb P n ops rest (putD ((s,B true)::env) o.dst (.tup [])) h K else False)
          (if want=true then (if fg n o.dst=true then jb P n ops rest (putD ((s,B false)::env) o.dst (.tup [])) h K else False)
           else pX P n ((s,B false)::env) h o fun env' h'=>jb P n ops rest env' h' K)
          (if fg n o.dst=true then jb P n ops rest (putD ((s,.tup [])::env) o.dst (.tup [])) h K else False)
def Ef (G:Gh) (h:ae) (w:World) (n:Nat) (D:List Deferred) (K:Env→ae→Prop) (a:Act) (w':World):Prop:=
 ∃ env' h' G',K env' h'∧Sim G' h' w'∧Evo G h w G' h' w'∧EnvRep G' env' a.tmps∧a.tmps.size=n∧a.defers=D
theorem Nk {o:Oper}{env:Env}{K:Env→ae→Prop}{a:Act}{Q:Exit→Act→World→Prop}{next:Act→World→Prop}(s:Sim G h w) (hn:a.tmps.size=n) (r:EnvRep G env a.tmps) (k:pX P n env h o K)
  (hnext:∀ a' w',Ef G h w n a.defers K a' w'→next a' w'):o.wp P a w next Q:=by
 unfold pX at k
 split at k
 ·rename_i hd
  unfold Oper.wp
  refine Dk ?_
  have:=Xq s r k
  unfold UpV at this ⊢
  have conv:∀ v w',N0 G h w (fun v h'=>K (putD env o.dst v) h') v w'→next (a.put o.dst v) w':=fun v w' ⟨rr,h',G',q1,q2,q3,q4⟩=>by
   refine hnext _ _ ⟨_,h',G',q2,q3,q4,(r.mono q4.le).putD (by rw[hn];exact hd) q1,by rw[put_size,hn],put_defers _ _ _⟩
  split at this
  ·exact conv _ _ this
  ·exact conv _ _ this
  ·exact Calls.mono this fun e w'' ⟨v,he,hv⟩=>⟨v,he,conv _ _ hv⟩
  ·exact this.elim
 ·exact k.elim
theorem wa {env:Env}{tmps:Array Value}(r:EnvRep G env tmps) {s:Nat}{v:AV}(h:get env s=some v):EnvRep G ((s,v)::env) tmps:=fun k a e=>by
 simp only[get]at e
 split at e
 ·rename_i hk;subst hk;cases e;exact r _ _ h
 ·exact r k a e
theorem uU {ops:Array Oper}{o:Oper}{j:Nat}{want b:Bool}{s:Nat}{env:Env}{a:Act}(hg:o.guard=some (j,want)) (hs:(ops[j]?).bind (·.dst)=some s) (r:EnvRep G env a.tmps) (hv:get env s=some (B b)):
  Region.wanted o (yielded ops a.tmps)=(b==want):=by
 obtain⟨x,h1,h2⟩:=r s _ hv
 simp only[Rep]at h2
 obtain⟨rfl,_⟩:=h2
 have hy:yielded ops a.tmps j=some b:=by
  unfold yielded
  simp only[hs]
  simp[Array.getD_eq_getD_getElem?,h1]
 simp only[Region.wanted,hg,hy]
 cases b<;>cases want<;>rfl
theorem BA {ops:Array Oper}{o:Oper}{j:Nat}{want:Bool}{s:Nat}{env:Env}{a:Act}(hg:o.guard=some (j,want)) (hs:(ops[j]?).bind (·.dst)=some s) (r:EnvRep G env a.tmps) (hv:get env s=some (.tup [])):
  Region.wanted o (yielded ops a.tmps)=false:=by
 obtain⟨x,h1,h2⟩:=r s _ hv
 simp only[Rep]at h2
 obtain⟨vs,rfl,h3⟩:=h2
 have hy:yielded ops a.tmps j=none:=by
  unfold yielded
  simp only[hs]
  simp[Array.getD_eq_getD_getElem?,h1]
 simp only[Region.wanted,hg,hy]
 rfl
theorem GL (ops:Array Oper) (Q:Exit→Act→World→Prop):∀ (l:List Nat) (env:Env) (h:ae) (G:Gh) (w:World) (a:Act) (K:Env→ae→Prop),Sim G h w→a.tmps.size=n→EnvRep G env a.tmps→jb P n ops l env h K→
  (∀ a' w',Ef G h w n a.defers K a' w'→Q .normal a' w')→wpOps P ops Q l a w
 | [],env,h,G,w,a,K,s,hn,r,k,hq=>hq a w ⟨env,h,G,k,s,Evo.refl _ _ _,r,hn,rfl⟩
 | i::rest,env,h,G,w,a,K,s,hn,r,k,hq=>by
   unfold jb at k
   unfold wpOps
   split at k
   ·exact k.elim
   ·rename_i o ho
    simp only[ho]
    have go:∀ {env:Env},EnvRep G env a.tmps→pX P n env h o (fun env' h'=>jb P n ops rest env' h' K)→o.wp P a w (wpOps P ops Q rest) Q:=fun r k=>
     Nk s hn r k fun a' w' ⟨env',h',G',q1,q2,q3,q4,q5,q6⟩=>
      GL ops Q rest env' h' G' w' a' K q2 q5 q4 q1 fun a2 w2 ⟨env2,h2,G2,p1,p2,p3,p4,p5,p6⟩=>hq a2 w2 ⟨env2,h2,G2,p1,p2,q3.trans p3,p4,p5,p6.trans q6⟩
    have skip:∀ {env:Env},EnvRep G env a.tmps→fg n o.dst=true→jb P n ops rest (putD env o.dst (.tup [])) h K→wpOps P ops Q rest (a.put o.dst undef) w:=fun r hd k=>
     GL ops Q rest _ h G w _ K s (by rw[put_size,hn]) (r.putD (by rw[hn];exact hd) (by simp[Rep,RepL,undef])) k fun a2 w2 p=>hq a2 w2 (by rwa [put_defers]at p)
    split at k
    ·rename_i hg
     have:Region.wanted o (yielded ops a.tmps)=true:=by simp[Region.wanted,hg]
     rw[if_pos this]
     exact .inl (go r k)
    ·rename_i j want hg
     split at k
     ·exact k.elim
     ·rename_i sl hsl
      obtain⟨v,hv,k⟩:=aG k
      replace k:=IX k
      rcases k with ⟨rfl,k⟩|⟨rfl,k⟩|⟨rfl,k⟩
      ·have r':=wa r hv
       have hw:=uU hg hsl r hv
       rw[hw]
       cases want
       ·simp only[Bool.false_eq_true,if_false]at k
        rw[if_neg (by simp)]
        split at k
        ·exact skip r' ‹_› k
        ·exact k.elim
       ·simp only[if_true]at k
        rw[if_pos (by simp)]
        exact .inl (go r' k)
      ·have r':=wa r hv
       have hw:=uU hg hsl r hv
       rw[hw]
       cases want
       ·simp only[Bool.false_eq_true,if_false]at k
        rw[if_pos (by simp)]
        exact .inl (go r' k)
       ·simp only[if_true]at k
        rw[if_neg (by simp)]
        split at k
        ·exact skip r' ‹_› k
        ·exact k.elim
      ·have r':=wa r hv
       rw[BA hg hsl r hv]
       rw[if_neg (by simp)]
       split at k
       ·exact skip r' ‹_› k
       ·exact k.elim
theorem Gw {id:Nat}{ops:Array Oper}{env:Env}{K:Exit→Env→ae→Prop}(k:jb P n ops (List.range ops.size) env h fun env' h'=>K .normal env' h'):AWp P n (.region id ops false) env h K:=
 fun G w a s hn r=>wp_region (GL ops _ _ env h G w a _ s hn r k fun a' w' p=>p)
theorem L1 {c:Operand}{x y:Code}{env:Env}{K:Exit→Env→ae→Prop}(k:bT (opv env c) fun v=>ifB v (AWp P n x env h K) (AWp P n y env h K)):AWp P n (.cond c x y) env h K:=by
 intro G w a s hn r
 obtain⟨v,hv,k⟩:=aG k
 have hr:=aO r hv
 unfold ifB at k
 split at k
 ·simp only[Rep]at hr
  exact wp_cond_true hr.1 (k G w a s hn r)
 ·simp only[Rep]at hr
  exact wp_cond_false hr.1 (k G w a s hn r)
 ·exact k.elim
def dy:Code→List Nat
 | .region _ ops _=>ops.toList.filterMap (·.dst)
 | .seq a b=>dy a++dy b
 | .cond _ a b=>dy a++dy b
 | .block _ b=>dy b
 | .loop b=>dy b
 | .scope b=>dy b
 | .rangeFunc _ _ a b=>dy a++dy b
 | _=>[]
def Bq (o:Oper):List Nat:=o.op.operands.toList.filterMap fun|.tmp t=>some t|_=>none
def ZL:List Nat→List Nat
 | []=>[]
 | x::xs=>if xs.contains x then ZL xs else x::ZL xs
def DV (env:Env):List Nat→Option (List AV)
 | []=>some []
 | s::l=>match get env s,DV env l with
   | some v,some vs=>some (v::vs)
   | _,_=>none
def iC (ws:List Nat) (env:Env):Env:=env.filter fun p=>!ws.contains p.1
theorem zx {ws:List Nat}:∀ {env:Env}{s:Nat}{a:AV},get (iC ws env) s=some a→get env s=some a
 | [],s,a,e=>by simp[iC,get]at e
 | (k,v)::env,s,a,e=>by
   simp only[iC,List.filter_cons]at e
   split at e
   ·simp only[get]at e ⊢
    split
    ·rename_i hk;rw[if_pos hk]at e;exact e
    ·rename_i hk;rw[if_neg hk]at e;exact zx e
   ·rename_i hc
    have ih:=zx (ws:=ws) (env:=env) (s:=s) (a:=a) e
    simp only[get]
    split
    ·rename_i hk
     subst hk
     exfalso
     have:∀ env:Env,get (iC ws env) k=none:=fun env=>by
      induction env with
      | nil=>simp[iC,get]
      | cons p env ih=>
        simp only[iC,List.filter_cons]
        split
        ·rename_i hp
         simp only[get]
         rw[if_neg (fun e=>by subst e;exact hc hp)]
         exact ih
        ·exact ih
     rw[show env.filter _=iC ws env from rfl,this]at e
     cases e
    ·exact ih
def ap (vs:List AV) (i:Nat):AV:=(vs[i]?).getD default
def lA (vs:List AV):Nat→List Nat→Env
 | _,[]=>[]
 | i,k::ks=>(k,ap vs i)::lA vs (i+1) ks
structure bZ (vs:List AV) (h:ae) (B:List AV→ae→(NT)→Prop):Prop where
 mk::(out:∃ J:Nat→NT,(∃ k,J k vs h)∧∀ k vs h,J k vs h→B vs h fun vs' h'=>∃ m,m<k∧J m vs' h')
def abc (ws ks:List Nat) (body:Env→ae→(Exit→Env→ae→Prop)→Prop) (env:Env) (h:ae) (K:Exit→Env→ae→Prop):Prop:=
 dT (DV env ks) fun vs0=>bZ vs0 h fun vs h next=>body (lA vs 0 ks++iC ws env) h fun e env' h'=>match e with
  | .normal=>dT (DV env' ks) fun vs'=>next vs' h'
  | e=>K e env' h'
abbrev Lm:=List (Nat×List Nat×List Nat)
def qO:Code→Nat
 | .region id _ _=>id+1
 | .seq a b=>match qO a with|0=>qO b|k=>k
 | .cond _ a b=>match qO a with|0=>qO b|k=>k
 | .block _ b=>qO b
 | .loop b=>qO b
 | .scope b=>qO b
 | _=>0
def OY:Lm→Nat→Option (List Nat×List Nat)
 | [],_=>none
 | (k,p)::r,i=>if k=i then some p else OY r i
def Qd (c:Code) (ws ks:List Nat):Bool:=((dy c).all ws.contains&&ws.all (dy c).contains)&&ks.all ws.contains
theorem Dl {c:Code}{ws ks:List Nat}(h:Qd c ws ks=true):(∀ s,s∈dy c→s∈ws)∧(∀ s,s∈ws→s∈dy c)∧∀ s,s∈ks→s∈ws:=by
 simp only[Qd,Bool.and_eq_true,List.all_eq_true]at h
 exact⟨fun s hs=>by simpa using h.1.1 s hs,fun s hs=>by simpa using h.1.2 s hs,fun s hs=>by simpa using h.2 s hs⟩
end
end
section
variable [Tabs]
section
variable {P:Program}
theorem Xt {K:AV→Prop}(op:BinOp) (x y:AV) (k:DH op x y K):∃ v,K v∧DH op x y fun r=>r=v:=by
 unfold DH at *
 (repeat' split at k)<;>first|exact k.elim|exact⟨_,k,rfl⟩|exact⟨_,k.2,k.1,rfl⟩|exact⟨_,k.2.2,k.1,k.2.1,rfl⟩|(refine⟨_,k,?_⟩;simp_all;done)|(refine⟨_,k.2,?_⟩;simp_all;done)|(refine⟨_,k.2.2,?_⟩;simp_all;done)
theorem SK {K:AV→Prop}(op:BinOp) (x y:AV) (k:wn op x y K):∃ v,K v∧wn op x y fun r=>r=v:=by
 unfold wn at *
 (repeat' split at k)<;>first|exact k.elim|exact⟨_,k,rfl⟩|exact⟨_,k.2,k.1,rfl⟩|exact⟨_,k.2.2,k.1,k.2.1,rfl⟩|(refine⟨_,k,?_⟩;simp_all;done)|(refine⟨_,k.2,?_⟩;simp_all;done)|(refine⟨_,k.2.2,?_⟩;simp_all;done)
theorem TN {K:AV→Prop}(op:BinOp) (x y:AV) (k:we op x y K):∃ v,K v∧we op x y fun r=>r=v:=by
 unfold we at *
 (repeat' split at k)<;>first|exact k.elim|exact⟨_,k,rfl⟩|exact⟨_,k.2,k.1,rfl⟩|exact⟨_,k.2.2,k.1,k.2.1,rfl⟩|(refine⟨_,k,?_⟩;simp_all;done)|(refine⟨_,k.2,?_⟩;simp_all;done)|(refine⟨_,k.2.2,?_⟩;simp_all;done)
theorem Zk {K:AV→Prop}(op:UnOp) (x:AV) (k:pUn op x K):∃ v,K v∧pUn op x fun r=>r=v:=by
 unfold pUn at *
 (repeat' split at k)<;>first|exact k.elim|exact⟨_,k,rfl⟩|exact⟨_,k.2,k.1,rfl⟩|exact⟨_,k.2.2,k.1,k.2.1,rfl⟩|(refine⟨_,k,?_⟩;simp_all;done)|(refine⟨_,k.2,?_⟩;simp_all;done)|(refine⟨_,k.2.2,?_⟩;simp_all;done)
theorem ND {K:AV→Prop}(d:IntKind) (x:AV) (k:lW d x K):∃ v,K v∧lW d x fun r=>r=v:=by
 unfold lW at *
 (repeat' split at k)<;>first|exact k.elim|exact⟨_,k,rfl⟩|exact⟨_,k.2,k.1,rfl⟩|exact⟨_,k.2.2,k.1,k.2.1,rfl⟩|(refine⟨_,k,?_⟩;simp_all;done)|(refine⟨_,k.2,?_⟩;simp_all;done)|(refine⟨_,k.2.2,?_⟩;simp_all;done)
theorem OL {K:AV→Prop}(d:FloatKind) (x:AV) (k:lP d x K):∃ v,K v∧lP d x fun r=>r=v:=by
 unfold lP at *
 (repeat' split at k)<;>first|exact k.elim|exact⟨_,k,rfl⟩|exact⟨_,k.2,k.1,rfl⟩|exact⟨_,k.2.2,k.1,k.2.1,rfl⟩|(refine⟨_,k,?_⟩;simp_all;done)|(refine⟨_,k.2,?_⟩;simp_all;done)|(refine⟨_,k.2.2,?_⟩;simp_all;done)
theorem Nm {K:AV→Prop}(x:AV) (k:lH x K):∃ v,K v∧lH x fun r=>r=v:=by
 unfold lH at *
 (repeat' split at k)<;>first|exact k.elim|exact⟨_,k,rfl⟩|exact⟨_,k.2,k.1,rfl⟩|exact⟨_,k.2.2,k.1,k.2.1,rfl⟩|(refine⟨_,k,?_⟩;simp_all;done)|(refine⟨_,k.2,?_⟩;simp_all;done)|(refine⟨_,k.2.2,?_⟩;simp_all;done)
theorem Wr {K:AV→Prop}(x:AV) (k:HN x K):∃ v,K v∧HN x fun r=>r=v:=by
 unfold HN at *
 (repeat' split at k)<;>first|exact k.elim|exact⟨_,k,rfl⟩|exact⟨_,k.2,k.1,rfl⟩|exact⟨_,k.2.2,k.1,k.2.1,rfl⟩|(refine⟨_,k,?_⟩;simp_all;done)|(refine⟨_,k.2,?_⟩;simp_all;done)|(refine⟨_,k.2.2,?_⟩;simp_all;done)
theorem GW {K:AV→Prop}(n:Nat) (x:AV) (k:eT n x K):∃ v,K v∧eT n x fun r=>r=v:=by
 unfold eT at *
 (repeat' split at k)<;>first|exact k.elim|exact⟨_,k,rfl⟩|exact⟨_,k.2,k.1,rfl⟩|exact⟨_,k.2.2,k.1,k.2.1,rfl⟩|(refine⟨_,k,?_⟩;simp_all;done)|(refine⟨_,k.2,?_⟩;simp_all;done)|(refine⟨_,k.2.2,?_⟩;simp_all;done)
theorem Qp {K:AV→Prop}(n:Nat) (x:AV) (h:ae) (k:mH n x h K):∃ v,K v∧mH n x h fun r=>r=v:=by
 unfold mH at *
 (repeat' split at k)<;>first|exact k.elim|exact⟨_,k,rfl⟩|exact⟨_,k.2,k.1,rfl⟩|exact⟨_,k.2.2,k.1,k.2.1,rfl⟩|(refine⟨_,k,?_⟩;simp_all;done)|(refine⟨_,k.2,?_⟩;simp_all;done)|(refine⟨_,k.2.2,?_⟩;simp_all;done)
theorem QM {K:AV→Prop}(x:AV) (h:ae) (k:ml x h K):∃ v,K v∧ml x h fun r=>r=v:=by
 unfold ml at *
 (repeat' split at k)<;>first|exact k.elim|exact⟨_,k,rfl⟩|exact⟨_,k.2,k.1,rfl⟩|exact⟨_,k.2.2,k.1,k.2.1,rfl⟩|(refine⟨_,k,?_⟩;simp_all;done)|(refine⟨_,k.2,?_⟩;simp_all;done)|(refine⟨_,k.2.2,?_⟩;simp_all;done)
theorem Qc {K:AV→Prop}(o n:Nat) (x:AV) (k:pS o n x K):∃ v,K v∧pS o n x fun r=>r=v:=by
 unfold pS at *
 (repeat' split at k)<;>first|exact k.elim|exact⟨_,k,rfl⟩|exact⟨_,k.2,k.1,rfl⟩|exact⟨_,k.2.2,k.1,k.2.1,rfl⟩|(refine⟨_,k,?_⟩;simp_all;done)|(refine⟨_,k.2,?_⟩;simp_all;done)|(refine⟨_,k.2.2,?_⟩;simp_all;done)
theorem Pc {K:AV→Prop}(o:Nat) (x:AV) (k:qb o x K):∃ v,K v∧qb o x fun r=>r=v:=by
 unfold qb at *
 (repeat' split at k)<;>first|exact k.elim|exact⟨_,k,rfl⟩|exact⟨_,k.2,k.1,rfl⟩|exact⟨_,k.2.2,k.1,k.2.1,rfl⟩|(refine⟨_,k,?_⟩;simp_all;done)|(refine⟨_,k.2,?_⟩;simp_all;done)|(refine⟨_,k.2.2,?_⟩;simp_all;done)
theorem OT {K:AV→Prop}(x i:AV) (k:kH x i K):∃ v,K v∧kH x i fun r=>r=v:=by
 unfold kH at *
 (repeat' split at k)<;>first|exact k.elim|exact⟨_,k,rfl⟩|exact⟨_,k.2,k.1,rfl⟩|exact⟨_,k.2.2,k.1,k.2.1,rfl⟩|(refine⟨_,k,?_⟩;simp_all;done)|(refine⟨_,k.2,?_⟩;simp_all;done)|(refine⟨_,k.2.2,?_⟩;simp_all;done)
theorem FC {K:AV→Prop}(n:Nat) (x i:AV) (k:dn n x i K):∃ v,K v∧dn n x i fun r=>r=v:=by
 unfold dn at *
 (repeat' split at k)<;>first|exact k.elim|exact⟨_,k,rfl⟩|exact⟨_,k.2,k.1,rfl⟩|exact⟨_,k.2.2,k.1,k.2.1,rfl⟩|(refine⟨_,k,?_⟩;simp_all;done)|(refine⟨_,k.2,?_⟩;simp_all;done)|(refine⟨_,k.2.2,?_⟩;simp_all;done)
theorem DX {K:AV→Prop}(m n:Nat) (x i:AV) (k:cQ m n x i K):∃ v,K v∧cQ m n x i fun r=>r=v:=by
 unfold cQ at *
 (repeat' split at k)<;>first|exact k.elim|exact⟨_,k,rfl⟩|exact⟨_,k.2,k.1,rfl⟩|exact⟨_,k.2.2,k.1,k.2.1,rfl⟩|(refine⟨_,k,?_⟩;simp_all;done)|(refine⟨_,k.2,?_⟩;simp_all;done)|(refine⟨_,k.2.2,?_⟩;simp_all;done)
theorem Om {K:AV→Prop}(x:AV) (a b:Option AV) (k:iq x a b K):∃ v,K v∧iq x a b fun r=>r=v:=by
 unfold iq at *
 (repeat' split at k)<;>first|exact k.elim|exact⟨_,k,rfl⟩|exact⟨_,k.2,k.1,rfl⟩|exact⟨_,k.2.2,k.1,k.2.1,rfl⟩|(refine⟨_,k,?_⟩;simp_all;done)|(refine⟨_,k.2,?_⟩;simp_all;done)|(refine⟨_,k.2.2,?_⟩;simp_all;done)
theorem N6 {K:AV→Prop}(n:Nat) (x:AV) (a b:Option AV) (k:ik n x a b K):∃ v,K v∧ik n x a b fun r=>r=v:=by
 unfold ik at *
 (repeat' split at k)<;>first|exact k.elim|exact⟨_,k,rfl⟩|exact⟨_,k.2,k.1,rfl⟩|exact⟨_,k.2.2,k.1,k.2.1,rfl⟩|(refine⟨_,k,?_⟩;simp_all;done)|(refine⟨_,k.2,?_⟩;simp_all;done)|(refine⟨_,k.2.2,?_⟩;simp_all;done)
theorem Og {K:AV→Prop}(x:AV) (k:lK x K):∃ v,K v∧lK x fun r=>r=v:=by
 unfold lK at *
 (repeat' split at k)<;>first|exact k.elim|exact⟨_,k,rfl⟩|exact⟨_,k.2,k.1,rfl⟩|exact⟨_,k.2.2,k.1,k.2.1,rfl⟩|(refine⟨_,k,?_⟩;simp_all;done)|(refine⟨_,k.2,?_⟩;simp_all;done)|(refine⟨_,k.2.2,?_⟩;simp_all;done)
theorem UE {K:AV→Prop}(x:AV) (k:yg x K):∃ v,K v∧yg x fun r=>r=v:=by
 unfold yg at *
 (repeat' split at k)<;>first|exact k.elim|exact⟨_,k,rfl⟩|exact⟨_,k.2,k.1,rfl⟩|exact⟨_,k.2.2,k.1,k.2.1,rfl⟩|(refine⟨_,k,?_⟩;simp_all;done)|(refine⟨_,k.2,?_⟩;simp_all;done)|(refine⟨_,k.2.2,?_⟩;simp_all;done)
theorem Tc {K:AV→Prop}(x:AV) (k:yK x K):∃ v,K v∧yK x fun r=>r=v:=by
 unfold yK at *
 (repeat' split at k)<;>first|exact k.elim|exact⟨_,k,rfl⟩|exact⟨_,k.2,k.1,rfl⟩|exact⟨_,k.2.2,k.1,k.2.1,rfl⟩|(refine⟨_,k,?_⟩;simp_all;done)|(refine⟨_,k.2,?_⟩;simp_all;done)|(refine⟨_,k.2.2,?_⟩;simp_all;done)
theorem Uo {K:AV→Prop}(x:AV) (h:ae) (k:yQ x h K):∃ v,K v∧yQ x h fun r=>r=v:=by
 unfold yQ at *
 (repeat' split at k)<;>first|exact k.elim|exact⟨_,k,rfl⟩|exact⟨_,k.2,k.1,rfl⟩|exact⟨_,k.2.2,k.1,k.2.1,rfl⟩|(refine⟨_,k,?_⟩;simp_all;done)|(refine⟨_,k.2,?_⟩;simp_all;done)|(refine⟨_,k.2.2,?_⟩;simp_all;done)
theorem J3 {K:AV→Prop}(i:Nat) (x:AV) (k:ie i x K):∃ v,K v∧ie i x fun r=>r=v:=by
 unfold ie at *
 (repeat' split at k)<;>first|exact k.elim|exact⟨_,k,rfl⟩|exact⟨_,k.2,k.1,rfl⟩|exact⟨_,k.2.2,k.1,k.2.1,rfl⟩|(refine⟨_,k,?_⟩;simp_all;done)|(refine⟨_,k.2,?_⟩;simp_all;done)|(refine⟨_,k.2.2,?_⟩;simp_all;done)
theorem V1 {K:AV→Prop}(x y:AV) (k:DY x y K):∃ v,K v∧DY x y fun r=>r=v:=by
 unfold DY at *
 split at k
 ·exact⟨_,k,rfl⟩
 ·exact k.elim
theorem W9 {K:AV→Prop}(x y:AV) (k:DF x y K):∃ v,K v∧DF x y fun r=>r=v:=by
 unfold DF at *
 split at k
 ·exact⟨_,k,rfl⟩
 ·exact k.elim
theorem PT {K:AV→Prop}(z:List AV) (ps:List (Nat×Nat×AV)) (k:oh z ps K):∃ v,K v∧oh z ps fun r=>r=v:=by
 unfold oh at *
 (repeat' split at k)<;>first|exact k.elim|exact⟨_,k,rfl⟩|exact⟨_,k.2,k.1,rfl⟩|exact⟨_,k.2.2,k.1,k.2.1,rfl⟩|(refine⟨_,k,?_⟩;simp_all;done)|(refine⟨_,k.2,?_⟩;simp_all;done)|(refine⟨_,k.2.2,?_⟩;simp_all;done)
theorem Pq {K:AV→Prop}(t:TypeId) (x:AV) (k:Cs t x K):∃ v,K v∧Cs t x fun r=>r=v:=⟨_,k,rfl⟩
theorem DT {K:AV→Prop}(n m:Nat) (vs:List AV) (k:gH n m vs K):∃ v,K v∧gH n m vs fun r=>r=v:=⟨_,k.2,k.1,rfl⟩
theorem Xd {K:AV→Prop}(op:BinOp) (x y:AV) (k:ai op x y K):∃ v,K v∧ai op x y fun r=>r=v:=let ⟨v,h1,h2⟩:=Xt op x y k.out;⟨v,h1,⟨h2⟩⟩
theorem SU {K:AV→Prop}(op:BinOp) (x y:AV) (k:Je op x y K):∃ v,K v∧Je op x y fun r=>r=v:=let ⟨v,h1,h2⟩:=SK op x y k.out;⟨v,h1,⟨h2⟩⟩
theorem SZ {K:AV→Prop}(op:BinOp) (x y:AV) (k:IR op x y K):∃ v,K v∧IR op x y fun r=>r=v:=let ⟨v,h1,h2⟩:=TN op x y k.out;⟨v,h1,⟨h2⟩⟩
theorem Zd {K:AV→Prop}(op:UnOp) (x:AV) (k:qUn op x K):∃ v,K v∧qUn op x fun r=>r=v:=let ⟨v,h1,h2⟩:=Zk op x k.out;⟨v,h1,⟨h2⟩⟩
theorem Np {K:AV→Prop}(d:IntKind) (x:AV) (k:ci d x K):∃ v,K v∧ci d x fun r=>r=v:=let ⟨v,h1,h2⟩:=ND d x k.out;⟨v,h1,⟨h2⟩⟩
theorem MW {K:AV→Prop}(d:FloatKind) (x:AV) (k:qy d x K):∃ v,K v∧qy d x fun r=>r=v:=let ⟨v,h1,h2⟩:=OL d x k.out;⟨v,h1,⟨h2⟩⟩
theorem Ni {K:AV→Prop}(x:AV) (k:xw x K):∃ v,K v∧xw x fun r=>r=v:=let ⟨v,h1,h2⟩:=Nm x k.out;⟨v,h1,⟨h2⟩⟩
theorem Wb {K:AV→Prop}(x:AV) (k:aF x K):∃ v,K v∧aF x fun r=>r=v:=let ⟨v,h1,h2⟩:=Wr x k.out;⟨v,h1,⟨h2⟩⟩
theorem FG {K:AV→Prop}(n:Nat) (x:AV) (k:ab n x K):∃ v,K v∧ab n x fun r=>r=v:=let ⟨v,h1,h2⟩:=GW n x k.out;⟨v,h1,⟨h2⟩⟩
theorem EJ {K:AV→Prop}(n:Nat) (x:AV) (h:ae) (k:aq n x h K):∃ v,K v∧aq n x h fun r=>r=v:=let ⟨v,h1,h2⟩:=Qp n x h k.out;⟨v,h1,⟨h2⟩⟩
theorem G5 {K:AV→Prop}(x:AV) (h:ae) (k:ag x h K):∃ v,K v∧ag x h fun r=>r=v:=let ⟨v,h1,h2⟩:=QM x h k.out;⟨v,h1,⟨h2⟩⟩
theorem O6 {K:AV→Prop}(o n:Nat) (x:AV) (k:Cd o n x K):∃ v,K v∧Cd o n x fun r=>r=v:=let ⟨v,h1,h2⟩:=Qc o n x k.out;⟨v,h1,⟨h2⟩⟩
theorem QR {K:AV→Prop}(o:Nat) (x:AV) (k:B1 o x K):∃ v,K v∧B1 o x fun r=>r=v:=let ⟨v,h1,h2⟩:=Pc o x k.out;⟨v,h1,⟨h2⟩⟩
theorem Ng {K:AV→Prop}(x i:AV) (k:bk x i K):∃ v,K v∧bk x i fun r=>r=v:=let ⟨v,h1,h2⟩:=OT x i k.out;⟨v,h1,⟨h2⟩⟩
theorem wi {K:AV→Prop}(n:Nat) (x i:AV) (k:ak n x i K):∃ v,K v∧ak n x i fun r=>r=v:=let ⟨v,h1,h2⟩:=FC n x i k.out;⟨v,h1,⟨h2⟩⟩
theorem vi {K:AV→Prop}(m n:Nat) (x i:AV) (k:ce m n x i K):∃ v,K v∧ce m n x i fun r=>r=v:=let ⟨v,h1,h2⟩:=DX m n x i k.out;⟨v,h1,⟨h2⟩⟩
theorem Oi {K:AV→Prop}(x:AV) (a b:Option AV) (k:bo x a b K):∃ v,K v∧bo x a b fun r=>r=v:=let ⟨v,h1,h2⟩:=Om x a b k.out;⟨v,h1,⟨h2⟩⟩
theorem Oo {K:AV→Prop}(n:Nat) (x:AV) (a b:Option AV) (k:nk n x a b K):∃ v,K v∧nk n x a b fun r=>r=v:=let ⟨v,h1,h2⟩:=N6 n x a b k.out;⟨v,h1,⟨h2⟩⟩
theorem Na {K:AV→Prop}(x:AV) (k:AK x K):∃ v,K v∧AK x fun r=>r=v:=let ⟨v,h1,h2⟩:=Og x k.out;⟨v,h1,⟨h2⟩⟩
theorem Uj {K:AV→Prop}(x:AV) (k:bK x K):∃ v,K v∧bK x fun r=>r=v:=let ⟨v,h1,h2⟩:=UE x k.out;⟨v,h1,⟨h2⟩⟩
theorem Ul {K:AV→Prop}(x:AV) (k:aW x K):∃ v,K v∧aW x fun r=>r=v:=let ⟨v,h1,h2⟩:=Tc x k.out;⟨v,h1,⟨h2⟩⟩
theorem TK {K:AV→Prop}(x:AV) (h:ae) (k:H5 x h K):∃ v,K v∧H5 x h fun r=>r=v:=let ⟨v,h1,h2⟩:=Uo x h k.out;⟨v,h1,⟨h2⟩⟩
theorem K5 {K:AV→Prop}(i:Nat) (x:AV) (k:ao i x K):∃ v,K v∧ao i x fun r=>r=v:=let ⟨v,h1,h2⟩:=J3 i x k.out;⟨v,h1,⟨h2⟩⟩
theorem VM {K:AV→Prop}(x y:AV) (k:B0 x y K):∃ v,K v∧B0 x y fun r=>r=v:=let ⟨v,h1,h2⟩:=V1 x y k.out;⟨v,h1,⟨h2⟩⟩
theorem WN {K:AV→Prop}(x y:AV) (k:Ey x y K):∃ v,K v∧Ey x y fun r=>r=v:=let ⟨v,h1,h2⟩:=W9 x y k.out;⟨v,h1,⟨h2⟩⟩
theorem QI {K:AV→Prop}(z:List AV) (ps:List (Nat×Nat×AV)) (k:ax z ps K):∃ v,K v∧ax z ps fun r=>r=v:=let ⟨v,h1,h2⟩:=PT z ps k.out;⟨v,h1,⟨h2⟩⟩
theorem QS {K:AV→Prop}(t:TypeId) (x:AV) (k:vN t x K):∃ v,K v∧vN t x fun r=>r=v:=let ⟨v,h1,h2⟩:=Pq t x k.out;⟨v,h1,⟨h2⟩⟩
theorem DJ {K:AV→Prop}(n m:Nat) (vs:List AV) (k:am n m vs K):∃ v,K v∧am n m vs fun r=>r=v:=let ⟨v,h1,h2⟩:=DT n m vs k.out;⟨v,h1,⟨h2⟩⟩
end
end
end Go.Proofs.YtbhphjpgjgigpaaGreatDoor.AL
