import Derived.Test.YtgkmmcdhhkllnaaGreatDoorAL20toAL25
import Derived.Defers
set_option linter.all false
set_option autoImplicit true
set_option relaxedAutoImplicit true
set_option maxRecDepth 100000
namespace Go.Proofs.YtgkmmcdhhkllnaaGreatDoor.AL
noncomputable section
structure X2 where
 c0:Code
 id:Nat
 o1:Oper
 oD:Oper
 g:FuncId
 args:List Operand
 rest:Code
def FO (o:Oper):Option (FuncId×List Operand):=match o.op with
 | .defer c=>(match c.callee with|.value (.func g)=>some (g,c.args.toList)|_=>none)
 | _=>none
def MO:Code→Option X2
 | .seq c0 (.seq (.region id ops false) rest)=>match ops.toList with
   | [o1,oD]=>(match o1.guard,oD.guard,FO oD with
     | none,none,some (g,args)=>some ⟨c0,id,o1,oD,g,args,rest⟩
     | _,_,_=>none)
   | _=>none
 | _=>none
def adp (P : Program) (g : FuncId) : Bool := match P.funcs[g]? with | some fn => (fn.body.isSome && !(fn.name == "runtime.NumGoroutine")) | none => false
def Q4 (P:Program) (tb:rk) (fn:Func):ClF:=match fn.body with
 | none=>noF
 | some c => match fn.name == "runtime.NumGoroutine" with
   | true=>noF
   | false=>match MO c with
     | none=>noF
     | some d=>match P.funcs[d.g]?,fG fn.ntmps d.oD.dst with
       | some gn, true => match gn.name == "runtime.NumGoroutine" with
         | true=>noF
         | false=>⟨fun call args t n K=>bA (Nat.ble args.length fn.ntmps) ((T6 P tb fn.ntmps d.c0).f call (PU 0 args) t n fun ex e t n=>match ex with
           | .normal=>(Kz P tb fn.ntmps d.o1).f call e t n fun e t n=>(sO d.args).f e fun vs=>(T6 P tb fn.ntmps d.rest).f call (DF e d.oD.dst (.tup [])) t n fun ex e t n=>match ex with
             | .normal=>(Bh P tb gn).f call vs t n fun _ t n=>(v6 P fn.results.toList).f e t fun rs=>K (zP rs) t n
             | .ret=>(Bh P tb gn).f call vs t n fun _ t n=>(v6 P fn.results.toList).f e t fun rs=>K (zP rs) t n
             | _=>false
           | _=>false)⟩
       | _,_=>noF
def Qd (P:Program) (tb:rk) (fn:Func):ClF:=match fn.body with
 | none=>noF
 | some c=>match MO c with
   | none=>Bh P tb fn
   | some _=>Q4 P tb fn
def adq (P:Program) (tb:rk) (sp:Ig):Nat→mY
 | 0=>fun _ _ _ _ _=>false
 | k+1=>fun f args t n K=>match sp f args t n K with
   | some b=>b
   | none=>match P.funcs[f]? with
     | some fn=>(Qd P tb fn).f (adq P tb sp k) args t n K
     | none=>false
def L8 (P:Program) (tb:rk) (sp:Ig) (k:Nat):mY:=
 @Nat.rec (fun _=>mY) (fun _ _ _ _ _=>false) (fun _ ih f args t n K=>match sp f args t n K with
  | some b=>b
  | none=>match P.funcs[f]? with
    | some fn=>(Qd P tb fn).f ih args t n K
    | none=>false) k
variable [Tabs]
section
variable {P:Program}{nt:Nat}{call:mY}{tb:rk}
def acp (P:Program) (f:FuncId) (args:List AV) (h:ae) (K:QT):Prop:=
 ∀ (G:Gh) (w:World) (vs:List Value) (u:FrameMode),Sim G h w→RepL G args vs→
   CallsD P f vs.toArray u w fun e u' w'=>u'=u∧∃ r v h' G',e=.returned v∧Rep G' r v∧K r h'∧Sim G' h' w'∧Evo G h w G' h' w'
theorem VM (ht:pv tb) (hc:kN P call) {f:FuncId}{fn:Func}(hf:P.funcs[f]?=some fn) {args:List AV}{t:HT}{n:Nat}{h:ae}{K:AV→HT→Nat→Bool}(hr:HR t n h) (k:(Bh P tb fn).f call args t n K=true):acp P f args h (KH K):=by
 unfold Bh at k
 split at k
 ·cases k
 ·rename_i c hb
  split at k
  ·cases k
  ·rename_i hname
   simp only[cJ]at k
   obtain⟨hn,k⟩:=k
   have hn:=Nat.le_of_ble_eq_true hn
   intro G w vs u s r
   refine callsD_of_wp hf hb ?_
   have hl:=r.length
   have hre:EnvRep G (fj 0 args) (vs.toArray++Array.replicate (fn.ntmps-vs.toArray.size) undef):=fun k a e=>by
    obtain⟨_,h1⟩:=tQ args 0 k a e
    obtain⟨v,h2,h3⟩:=r.at _ _ h1
    have hk:k<vs.length:=(List.getElem?_eq_some_iff.1 h2).1
    exact⟨v,by rw[Array.getElem?_append_left (by simpa using hk)];simpa using h2,h3⟩
   have W:=Bg ht hc c (B6 0 args) hr k G w { tmps:=vs.toArray++Array.replicate (fn.ntmps-vs.toArray.size) undef,defers:=[] } s (by simp;omega) hre
   have fin:∀ {e:ET} {env':Env} {t':HT} {n':Nat} {h':ae},ER e env'→HR t' n' h'→(v6 P fn.results.toList).f e t' (fun vs=>K (zP vs) t' n')=true→IZ P fn.results.toList env' h' (KH K):=fun er hr k=>
    qw (fun vs k=>kh hr k) (uj er hr k)
   refine wp_mono W fun e a w' ⟨env',h',G',⟨e',t',n',er',hr',hk⟩,s',ev,r',hn',hd'⟩=>?_
   cases e with
   | normal=>
     obtain⟨v,x,q1,q2,q3⟩:=qp s' r' (fin er' hr' hk)
     exact⟨hd',x,q1,v,x,h',G',rfl,q2,q3,s',ev⟩
   | ret=>
     obtain⟨v,x,q1,q2,q3⟩:=qp s' r' (fin er' hr' hk)
     exact⟨hd',x,q1,v,x,h',G',rfl,q2,q3,s',ev⟩
   | exit id=>cases hk
   | goto l=>cases hk
   | panic ch=>cases hk
   | outgrown=>cases hk
theorem Vy {c:Code}{d:X2}(h:MO c=some d):c=.seq d.c0 (.seq (.region d.id #[d.o1,d.oD] false) d.rest)∧d.o1.guard=none∧d.oD.guard=none∧FO d.oD=some (d.g,d.args):=by
 unfold MO at h
 split at h
 ·rename_i c0 id ops rest
  split at h
  ·rename_i o1 oD hops
   split at h
   ·rename_i g args h1 h2 h3
    cases h
    have:ops=#[o1,oD]:=by apply Array.toList_inj.1;simpa using hops
    subst this
    exact⟨rfl,h1,h2,h3⟩
   ·cases h
  ·cases h
 ·cases h
theorem Rg {o:Oper}{g:FuncId}{args:List Operand}(h:FO o=some (g,args)):∃ c,o.op=.defer c∧c.callee=.value (.func g)∧c.args.toList=args:=by
 unfold FO at h
 split at h
 ·rename_i c hc
  split at h
  ·rename_i g' hg
   cases h
   exact⟨c,hc,hg,rfl⟩
  ·cases h
 ·cases h
theorem VS (ht:pv tb) (hc:kN P call) {f:FuncId}{fn:Func}(hf:P.funcs[f]?=some fn) {args:List AV}{t:HT}{n:Nat}{h:ae}{K:AV→HT→Nat→Bool}(hr:HR t n h) (k:(Q4 P tb fn).f call args t n K=true):ACall P f args h (KH K):=by
 unfold Q4 at k
 split at k
 ·cases k
 ·rename_i c hb
  split at k
  ·cases k
  ·rename_i hname
   split at k
   ·cases k
   ·rename_i d hd
    split at k
    ·rename_i gn hg hdst
     split at k
     ·cases k
     ·rename_i hgn
      obtain⟨rfl,hg1,hg2,hdef⟩:=Vy hd
      obtain⟨dc,hop,hcal,hargs⟩:=Rg hdef
      simp only[cJ]at k
      obtain⟨hn,k⟩:=k
      have hn:=Nat.le_of_ble_eq_true hn
      refine⟨⟨fn,hf,hname,by simp[hb]⟩,fun G w vs s r=>?_⟩
      refine calls_of_wp_defers hf hb ?_
      have hl:=r.length
      have hre:EnvRep G (fj 0 args) (vs.toArray++Array.replicate (fn.ntmps-vs.toArray.size) undef):=fun k a e=>by
       obtain⟨_,h1⟩:=tQ args 0 k a e
       obtain⟨v,h2,h3⟩:=r.at _ _ h1
       have hk:k<vs.length:=(List.getElem?_eq_some_iff.1 h2).1
       exact⟨v,by rw[Array.getElem?_append_left (by simpa using hk)];simpa using h2,h3⟩
      have W:=Bg ht hc d.c0 (B6 0 args) hr k G w { tmps:=vs.toArray++Array.replicate (fn.ntmps-vs.toArray.size) undef,defers:=[] } s (by simp;omega) hre
      refine wp_seq (Go.wp_mono W fun ex a1 w1 p=>?_)
      obtain⟨env1,h1,G1,⟨e1,t1,n1,er1,hr1,k1⟩,s1,ev1,r1,hn1,hd1⟩:=p
      cases ex with
      | normal=>
        simp only at k1
        refine wp_seq (wp_region ?_)
        have st:=Ch ht hc er1 hr1 k1
        have k1:=()
        unfold wpOps
        simp only[List.size_toArray,List.length_cons,List.length_nil,List.getElem?_toArray,List.range,List.range.loop,List.getElem?_cons_zero]
        rw[if_pos (by simp[Region.wanted,hg1])]
        refine .inl (NA s1 hn1 r1 st fun a2 w2 ⟨env2,h2,G2,⟨e2,t2,n2,er2,hr2,k2⟩,s2,ev2,r2,hn2,hd2⟩=>?_)
        unfold wpOps
        simp only[List.getElem?_toArray,List.getElem?_cons_succ,List.getElem?_cons_zero]
        rw[if_pos (by simp[Region.wanted,hg2])]
        refine .inl ?_
        obtain⟨ds,q1,k2⟩:=lR er2 k2
        have hds:=jA r2 q1
        unfold Oper.wp
        have hrun:(execOp a2.eval d.oD).run P w2=.ok (.defer ⟨.fn (.func d.g) #[],(d.args.map a2.eval).toArray⟩) w2:=by
         unfold execOp
         rw[hop]
         simp only[resolve,hcal,Act.eval,Deferred.ofValue,Sem.run_bind,Sem.run_pure,Result.andThen_ok]
         congr 3
         apply Array.toList_inj.1
         simp[← hargs]
        rw[hrun,Oper.upon_defer]
        unfold wpOps
        have hnA:({ a2 with defers:=⟨.fn (.func d.g) #[],(d.args.map a2.eval).toArray⟩::a2.defers }:Act).tmps.size=fn.ntmps:=hn2
        have hnB:(({ a2 with defers:=⟨.fn (.func d.g) #[],(d.args.map a2.eval).toArray⟩::a2.defers }:Act).put d.oD.dst undef).tmps.size=fn.ntmps:=by rw[put_size];exact hn2
        have rA:EnvRep G2 env2 ({ a2 with defers:=⟨.fn (.func d.g) #[],(d.args.map a2.eval).toArray⟩::a2.defers }:Act).tmps:=r2
        have rB:=rA.putD (d:=d.oD.dst) (by rw[hnA];exact hdst) (v:=.tup []) (x:=undef) (by simp[Rep,RepL,undef])
        have W2:=Bg ht hc d.rest (er2.putD d.oD.dst (.tup [])) hr2 k2 G2 w2 _ s2 hnB rB
        refine wp_mono W2 fun ex a3 w3 ⟨env3,h3,G3,⟨e3,t3,n3,er3,hr3,k3⟩,s3,ev3,r3,hn3,hd3⟩=>?_
        rw[put_defers]at hd3
        have hd3:a3.defers=[⟨.fn (.func d.g) #[],(d.args.map a2.eval).toArray⟩]:=by rw[hd3,hd2,hd1]
        have fin:(Bh P tb gn).f call ds t3 n3 (fun _ t n=>(v6 P fn.results.toList).f e3 t fun rs=>K (zP rs) t n)=true→Leaves P fn a3.tmps (fun e w'=>∃ r v h' G',e=.returned v∧Rep G' r v∧KH K r h'∧Sim G' h' w'∧Evo G h w G' h' w') a3.defers .returning w3:=fun k3=>by
         rw[hd3]
         have hbody:gn.body.isNone=false:=by
          cases hbb:gn.body with
          | none=>unfold Bh at k3;rw[hbb]at k3;cases k3
          | some _=>rfl
         refine leaves_cons (f:=d.g) (args:=(d.args.map a2.eval).toArray) (by simp) ?_ ?_
         ·simp only[invoke,callFunc,Sem.run_bind,run_program,Result.andThen_ok,hg,hgn,hbody,Bool.false_eq_true,if_false,Sem.run_pure,Array.append_empty]
         ·have dd:=VM ht hc hg hr3 k3 G3 w3 (d.args.map a2.eval) .returning s3 (RepL.mono ev3.le _ _ hds)
          refine dd.mono fun e u' w' ⟨hu,rr,v,h',G',he,hv,⟨t4,n4,hr4,k4⟩,s4,ev4⟩=>?_
          subst he;subst hu
          simp only[settle,Leaves]
          have fk:IZ P fn.results.toList env3 h' (KH K):=qw (fun vs k=>kh hr4 k) (uj er3 hr4 k4)
          obtain⟨v',x,z1,z2,z3⟩:=qp s4 (r3.mono ev4.le) fk
          exact⟨x,z1,v',x,h',G',rfl,z2,z3,s4,((ev1.trans ev2).trans ev3).trans ev4⟩
        cases ex with
        | normal=>exact fin k3
        | ret=>exact fin k3
        | exit id=>cases k3
        | goto l=>cases k3
        | panic ch=>cases k3
        | outgrown=>cases k3
      | ret=>cases k1
      | exit id=>cases k1
      | goto l=>cases k1
      | panic ch=>cases k1
      | outgrown=>cases k1
    ·cases k
theorem Zi (ht:pv tb) (hc:kN P call) {f:FuncId}{fn:Func}(hf:P.funcs[f]?=some fn) {args:List AV}{t:HT}{n:Nat}{h:ae}{K:AV→HT→Nat→Bool}(hr:HR t n h) (k:(Qd P tb fn).f call args t n K=true):ACall P f args h (KH K):=by
 unfold Qd at k
 split at k
 ·cases k
 ·split at k
  ·exact YT ht hc hf hr k
  ·exact VS ht hc hf hr k
theorem Tt {sp:Ig}(ht:pv tb) (hs:Mu P sp):∀ d,kN P (L8 P tb sp d)
 | 0=>fun f args t n h K hr k=>by cases k
 | d+1=>fun f args t n h K hr k=>by
   have k:(match sp f args t n K with
    | some b=>b
    | none=>match P.funcs[f]? with
      | some fn=>(Qd P tb fn).f (L8 P tb sp d) args t n K
      | none=>false)=true:=k
   split at k
   ·rename_i b hb;subst k;exact hs f args t n h K hr hb
   ·split at k
    ·rename_i fn hf;exact Zi ht (Tt ht hs d) hf hr k
    ·cases k
