import Derived.Test.YtgkmmcdhhkllnaaGreatDoorAM4toAM6
import Derived.Test.YtgkmmcdhhkllnaaGreatDoorAA11toW8
import Derived.Test.YtgkmmcdhhkllnaaGreatDoorGN3toGN9
import Derived.Test.YtgkmmcdhhkllnaaGreatDoorAR1toGN2
import Derived.KernelRfl
import Derived.Test.YtgkmmcdhhkllnaaGreatDoorAL32toAL34
import Derived.Deep.Slices
import Derived.Deep.Fields
import Derived.Lib.SmallJoins
import Derived.Test.YtgkmmcdhhkllnaaGreatDoorKN8toAI2
set_option linter.all false
set_option autoImplicit true
set_option relaxedAutoImplicit true
set_option maxRecDepth 100000
namespace Go.Proofs.YtgkmmcdhhkllnaaGreatDoor.AL
section
noncomputable section
variable [Tabs]
section
variable {P:Program}{G:Gh}{h:ae}{w:World}
def fzM (i:Nat) (cs:List AV):dY→dY
 | []=>[]
 | (k,n,a)::es=>(k,n,fz i cs a)::fzM i cs es
def fzO (i:Nat) (cs:List AV):AObj→AObj
 | .cells ds=>.cells (fzL i cs ds)
 | .amap es n=>.amap (fzM i cs es) n
 | o=>o
theorem Te {i:Nat}{cs:List AV}:∀ (ds:List AV) (j:Nat),(fzL i cs ds)[j]?=(ds[j]?).map (fz i cs)
 | [],j=>by simp[fzL]
 | a::az,0=>by simp[fzL]
 | a::az,j+1=>by simp[fzL,Te az j]
theorem So {i:Nat}{cs:List AV}:∀ (ds:List AV),(fzL i cs ds).length=ds.length
 | []=>by simp[fzL]
 | a::az=>by simp[fzL,So az]
theorem Frz.repE {G G':Gh}{i:Nat}{cs:List AV}(z:Frz G G' i cs):∀ (es:dY) (l:List MapEntry),RepE G es l→RepE G' (fzM i cs es) l
 | [],l,h=>h
 | (k,n,a)::es,l,h=>by
   simp only[RepE,fzM]at h ⊢
   obtain⟨e,r,h1,h2,h3,h4,h5⟩:=h
   exact⟨e,r,h1,h2,h3,z.rep a _ h4,z.repE es r h5⟩
theorem WK {i:Nat}{cs:List AV}(o:AObj):(fzO i cs o).live=o.live:=by cases o<;>rfl
theorem Frz.objAt {G G':Gh}{i:Nat}{cs:List AV}(z:Frz G G' i cs) {q:Nat}{o:AObj}(x:ObjAt G w q o):ObjAt G' w q (fzO i cs o):=by
 cases o with
 | cells ds=>
   obtain⟨b,o,arr,el,lo,hi,e1,e2,e3,e4,e5,e6⟩:=x
   refine⟨b,o,arr,el,lo,hi,z.le.loc _ _ e1,e2,e3,by rw[z.le.cap _ _ e1,So];exact e4,by rw[z.le.cap _ _ e1];exact e5,fun j a ha=>?_⟩
   rw[Te]at ha
   cases hj:ds[j]? with
   | none=>rw[hj]at ha;cases ha
   | some d=>
     rw[hj]at ha;cases ha
     obtain⟨v,h1,h2⟩:=e6 j d hj
     exact⟨v,h1,z.rep d v h2⟩
 | amap es n=>
   obtain⟨b,arr,e1,e2,e3⟩:=x
   exact⟨b,arr,z.le.loc _ _ e1,e2,z.repE es _ e3⟩
 | _=>exact x.keep z.le fun p _ _=>rfl
theorem T8 (s:Sim G h w) {i:Nat}{cs:List AV}(hi:h[i]?=some (.cells cs)) {q:Nat}{oq:AObj}(hq:h[q]?=some oq) (hne:q≠i):
  ∃ G',Sim G' ((h.set i .dead).set q (fzO i cs oq)) w∧Evo G h w G' ((h.set i .dead).set q (fzO i cs oq)) w∧Frz G G' i cs:=by
 obtain⟨G',s',ev,z⟩:=Lj s hi
 have hq':(h.set i .dead)[q]?=some oq:=by rw[List.getElem?_set_ne (Ne.symm hne)];exact hq
 have hql:=(List.getElem?_eq_some_iff.1 hq').1
 have key:∀ (k:Nat) (ok:AObj),((h.set i .dead).set q (fzO i cs oq))[k]?=some ok→∃ ok',(h.set i .dead)[k]?=some ok'∧ok'.live=ok.live∧(k=q∧ok=fzO i cs oq∨k≠q∧ok=ok'):=fun k ok hk=>by
  by_cases e:k=q
  ·subst e
   rw[List.getElem?_set_self hql]at hk
   cases hk
   exact⟨oq,hq',(WK oq).symm,.inl ⟨rfl,rfl⟩⟩
  ·rw[List.getElem?_set_ne (Ne.symm e)]at hk
   exact⟨ok,hk,rfl,.inr ⟨e,rfl⟩⟩
 refine⟨G',⟨fun k ok hk=>?_,fun k p hp=>by simpa using s'.dom k p hp,fun a b oa ob p r ha hb la lb hp hr e=>?_,s'.frz,fun k ok p hk hl hp off=>?_,s'.tab⟩,⟨ev.le,ev.size,ev.os,ev.tape,ev.output,ev.frame,fun b ⟨k,ok,p,hk,hl,hp,e⟩=>?_,ev.fz⟩,z⟩
 ·obtain⟨ok',h1,h2,h3⟩:=key k ok hk
  rcases h3 with ⟨rfl,rfl⟩|⟨_,rfl⟩
  ·exact z.objAt (s.obj _ _ hq)
  ·exact s'.obj _ _ h1
 ·obtain⟨oa',a1,a2,_⟩:=key a oa ha
  obtain⟨ob',b1,b2,_⟩:=key b ob hb
  exact s'.apart a b oa' ob' p r a1 b1 (a2.trans la) (b2.trans lb) hp hr e
 ·obtain⟨ok',h1,h2,_⟩:=key k ok hk
  exact s'.sep k ok' p h1 (h2.trans hl) hp off
 ·obtain⟨ok',h1,h2,_⟩:=key k ok hk
  exact ev.own b ⟨k,ok',p,h1,h2.trans hl,hp,e⟩
inductive ConvI:AV→ae→QT where
 | refl (r:AV) (h:ae):ConvI r h r h
 | conv {r:AV} {h:ae} {r1:AV} {h1:ae} {r2:AV} {h2:ae} (c:Conv r h r1 h1) (k:ConvI r1 h1 r2 h2):ConvI r h r2 h2
 | frzIn {r:AV} {h:ae} {r2:AV} {h2:ae} (i:Nat) (cs:List AV) (hi:h[i]?=some (.cells cs)) (q:Nat) (oq:AObj) (hq:h[q]?=some oq) (hne:q≠i) (k:ConvI (fz i cs r) ((h.set i .dead).set q (fzO i cs oq)) r2 h2):ConvI r h r2 h2
theorem ConvI.ok {r:AV}{h:ae}{r2:AV}{h2:ae}(c:ConvI r h r2 h2):∀ {G:Gh}{w:World}{v:Value},Sim G h w→Rep G r v→∃ G',Sim G' h2 w∧Evo G h w G' h2 w∧Rep G' r2 v:=by
 induction c with
 | refl r h=>exact fun s hr=>⟨_,s,Evo.refl _ _ _,hr⟩
 | conv c k ih=>
   intro G w v s hr
   obtain⟨G',s',ev,hr'⟩:=c.ok s hr
   obtain⟨G2,s2,ev2,hr2⟩:=ih s' hr'
   exact⟨G2,s2,ev.trans ev2,hr2⟩
 | frzIn i cs hi q oq hq hne k ih=>
   intro G w v s hr
   obtain⟨G',s',ev,z⟩:=T8 s hi hq hne
   obtain⟨G2,s2,ev2,hr2⟩:=ih s' (z.rep _ _ hr)
   exact⟨G2,s2,ev.trans ev2,hr2⟩
theorem St.frzIn {h0:ae}{M:List Nat}{L L' L2:Own}{i q:Nat}{cs:List AV}{oq:AObj}(s:St h0 M h L) (d:Del L (i,true,.cells cs) L') (u:Sub L' (q,true,oq) L2 (q,true,fzO i cs oq)):q≠i∧St h0 M ((h.set i .dead).set q (fzO i cs oq)) L2:=
 ⟨d.ne s.nd _ u.mem,(s.kill d).turn u⟩
end
end
end
section
noncomputable section
section
variable [Tabs]
variable {κ α:Type}[Ky κ] {enc:α→AV}{es:List (κ×Nat×α)}{n:Nat}{l:KM κ α}
variable {h0 h:ae}{M:List Nat}{L L':Own}{K:AV→Prop}{KH:QT}{KS':ae→Prop}
theorem MapR.nb (m:MapR enc es n l):(es.map (·.2.1)).Nodup:=m.up.imp fun h=>Nat.ne_of_lt h
def Zx {β:Type}(f:α→β) (l:KM κ α):KM κ β:=l.map fun x=>(x.1,f x.2)
theorem ZX {β:Type}{f:α→β}{l:KM κ α}:SoK l→SoK (Zx f l):=fun s=>by
 unfold SoK Zx;rw[List.pairwise_map];exact s
theorem Wf (i:Nat) (cs:List AV):∀ es:List (κ×Nat×AV),fzM i cs (mE id es)=mE id (es.map fun x=>(x.1,x.2.1,fz i cs x.2.2))
 | []=>rfl
 | x::es=>by
   show (Ky.val x.1,x.2.1,fz i cs x.2.2)::fzM i cs (mE id es)=_
   rw[Wf i cs es];rfl
theorem MapS.fz {l:KM κ AV}{o:AObj}(m:MapS id l o) (i:Nat) (cs:List AV):MapS id (Zx (AL.fz i cs) l) (fzO i cs o):=by
 obtain⟨es,n,rfl,r⟩:=m
 refine⟨es.map fun x=>(x.1,x.2.1,AL.fz i cs x.2.2),n,by rw[← Wf];rfl,⟨by rw[List.map_map];exact r.up,fun e he=>?_,by rw[List.map_map];exact r.nd,fun x=>?_,ZX r.so⟩⟩
 ·obtain⟨y,hy,rfl⟩:=List.mem_map.1 he;exact r.lt y hy
 ·simp only[List.map_map,List.mem_map,Function.comp,Zx]
  constructor
  ·rintro ⟨e,he,rfl⟩;exact⟨(e.1,e.2.2),(r.eq _).1 (List.mem_map.2 ⟨e,he,rfl⟩),rfl⟩
  ·rintro ⟨y,hy,rfl⟩
   obtain⟨e,he,rfl⟩:=List.mem_map.1 ((r.eq y).2 hy)
   exact⟨e,he,rfl⟩
theorem MapS.so {l:KM κ α}{o:AObj}(m:MapS enc l o):SoK l:=by obtain⟨_,_,_,r⟩:=m;exact r.so
end
end
end
section
noncomputable section
structure WkM where
 f:KL Str
 s:KL Int
section
variable [Tabs]
variable {h0 h:ae}{M:List Nat}{L R:Own}{K:AV→Prop}{Q:QT}
def WkS (h0:ae) (M:List Nat) (h:ae) (i:Nat) (w:WkM) (R:Own):Prop:=∃ jf js xf xs,MapS T w.f xf∧MapS I w.s xs∧St h0 M h ((i,true,.cells [.map jf,.map js])::(jf,true,xf)::(js,true,xs)::R)
theorem St.after (s:St h0 M h L) {h':ae}(f:Fr [] h h'):St h0 M h' L:=
 ⟨s.fr.trans f (by simp),fun e he=>f.get (s.at_ e he) (by simp),s.own,s.nd⟩
structure WkOk (w:WkM):Prop where
 txt:∀ x∈w.f,x.2.length≤600
 fn:w.f.length≤8
 sn:w.s.length≤8
 fw:∀ x∈w.f,jv x.1=true
 sw:∀ x∈w.s,jv x.1=true
 sv:∀ x∈w.s,-1099511627776≤x.2∧x.2≤1099511627776
end
end
end
section
noncomputable section
section
variable [Tabs]
variable {h0 h:ae}{M:List Nat}{L R:Own}{K:AV→Prop}{Q:QT}
abbrev nmE:Str→List AV:=fun x=>[T x]
structure acA:Prop where
 k1:∃ tm,GP Pg gW cZ tm
 s1:∃ ks,wX Pg lI cZ ks
 k2:∃ tm,GP Pg jL dZ tm
 s2:∃ ks,wX Pg lI dZ ks
theorem AccE.row {α:Type}{enc:α→List AV}{sz:Nat}{v:AV}{l:List α}{E:Own}(a:AccE sz v l.length (l.flatMap enc) E) (s:St h0 M h (E++L)):Row enc sz h v l:=a.rd s
end
end
end
section
noncomputable section
structure BuM where
 held:KL Str
 order:List Str
 parsed:Int
theorem Sub.same {L L':Own}{e:Nat×Bool×AObj}(s:Sub L e L' e):L=L':=by
 generalize he:e=e2 at s
 have hs:∀ {L L':Own} {a b:Nat×Bool×AObj},Sub L a L' b→a=b→L=L':=fun s=>by
  induction s with
  | head=>intro h;rw[h]
  | tail s ih=>intro h;rw[ih h]
 subst he;exact hs s rfl
section
variable [Tabs]
abbrev acb (t:Str):List AV:=[T t,.snap (nL t).length ((nL t).flatMap smF)]
abbrev HM (t:Str):AV:=.agg (acb t)
def kJ (held:KL Str) (f:Fg):Int:=if ng f.1 held=some f.2 then 0 else 1
def gJ (held:KL Str) (st:KL Str×Int) (f:Fg):KL Str×Int:=(yG f.1 f.2 st.1,st.2+kJ held f)
def cF (b:BuM) (frags:List Fg):BuM:=⟨(frags.foldl (gJ b.held) ([],b.parsed)).1,frags.map (·.1),(frags.foldl (gJ b.held) ([],b.parsed)).2⟩
variable {h0 h:ae}{M:List Nat}{L L' R R':Own}{K:AV→Prop}{KH:QT}{KS':ae→Prop}{Q:QT}{i:Nat}{b:BuM}
def BuS (h0:ae) (M:List Nat) (h:ae) (i:Nat) (b:BuM) (R:Own):Prop:=∃ j o ov E,MapS HM b.held o∧AccE 1 ov b.order.length (b.order.flatMap nmE) E∧St h0 M h ((i,true,.cells [.map j,ov,I b.parsed])::(j,true,o)::(E++R))
theorem XJ (s:St h0 M h R) (q:∀ i h',BuS h0 M h' i ⟨[],[],0⟩ R→Q (.ptr i 0) h'):C wE [] h Q:=by
 refine Ny _ _ ?_
 unfold On
 refine qB s fun j h1 s1=>?_
 refine aD rfl ?_
 refine bR s1 rfl fun i h2 s2=>?_
 exact q i h2 ⟨j,_,.full 0 [],[],.nil _,.none 1,s2⟩
theorem Qe (hF:cy) (hI:gq) (hA:je) {j:Nat}{o:AObj}{bb:Bool}{ov:AV}{p:Int}{held:KL Str}{f:Fg}(hf:f.2.length<1000000000) (hp:0≤p∧p<1000000000000) (m:MapS HM held o) (s:St h0 M h L) (e:(j,bb,o)∈L)
  (u:Sub L (i,true,.cells [.map j,ov,I p]) L' (i,true,.cells [.map j,ov,I (p+kJ held f)])) (hov:AV.one ov=true) (q:∀ h',St h0 M h' L'→Q (HM f.2) h'):C iJ [.ptr i 0,.agg (frE f)] h Q:=by
 refine wb _ _ _ _ ?_
 unfold qz
 refine bR s rfl fun t3 h1 s1=>?_
 refine aQ s1 fun t4 h2 s2=>?_
 have u2:Sub ((t4,true,AObj.cells [S ⟨#[]⟩,.full 0 []])::(t3,true,.cells (AV.cells (.agg (frE f))))::L) (i,true,.cells [.map j,ov,I p]) ((t4,true,AObj.cells [S ⟨#[]⟩,.full 0 []])::(t3,true,.cells (AV.cells (.agg (frE f))))::L') (i,true,.cells [.map j,ov,I (p+kJ held f)]):=.tail (.tail u)
 refine au (aj (af s2 u2.mem rfl ?_))
 refine aj (af s2 (.tail _ (.head _)) rfl ?_)
 refine NS (k:=f.1) (s2.get (.tail _ (.tail _ e))) m ?_
 refine aF rfl (aF rfl ?_)
 refine aQ s2 fun t5 h3 s3=>?_
 refine⟨NS (k:=f.1) (s3.get (.tail _ (.tail _ (.tail _ e)))) m rfl,?_⟩
 refine⟨af s3 (.tail _ (.tail _ (.head _))) rfl rfl,?_⟩
 refine⟨af s3 (.tail _ u2.mem) rfl rfl,?_⟩
 have fresh:∀ (h:ae) (x:List AV),kJ held f=1→St h0 M h ((t5,true,.cells x)::(t4,true,AObj.cells [S ⟨#[]⟩,.full 0 []])::(t3,true,.cells (AV.cells (.agg (frE f))))::L)→
   (aE (.ptr i 0) fun t29=>ab 2 t29 fun t30=>ag t30 h fun t31=>ai .add t31 (I 1) fun t32=>aE (.ptr i 0) fun t33=>ab 2 t33 fun t34=>ak 1 t34 t32 h fun h6=>ab 1 (.ptr t3 0) fun t36=>ag t36 h6 fun t37=>
    C iH [t37] h6 fun t38 h7=>an 0 t38 fun t39=>an 1 t38 fun t40=>ab 1 (.ptr t3 0) fun t41=>ag t41 h7 fun t42=>ax [(S ⟨#[]⟩),(.full 0 [])] [(0,1,t42),(1,1,t39)] fun t44=>ak 2 (.ptr t4 0) t44 h7 fun h8=>aw 2 (.ptr t4 0) h8 fun r9=>Q r9 h8):=fun h x hc s=>by
  have e1:p+kJ held f=p+1:=by rw[hc]
  rw[e1]at u u2
  refine au (aj (af s (.tail _ u2.mem) rfl ?_))
  refine aH (by omega) (au (aj ?_))
  refine ay (o:=0+2) s (.tail u2) rfl rfl rfl (nle rfl) fun h6 s6=>?_
  refine aj (af s6 (.tail _ (.tail _ (.head _))) rfl ?_)
  refine A6 hF hI hA f.2 hf fun h7 f7=>?_
  have s7:=s6.call f7
  refine aF rfl (aF rfl (aj (af s7 (.tail _ (.tail _ (.head _))) rfl ?_)))
  refine aD rfl ?_
  refine ay (o:=0) s7 (.tail .head) rfl rfl rfl (nle rfl) fun h8 s8=>?_
  refine aK s8 (.tail _ (.head _)) (nle rfl) ?_
  exact q h8 s8.drop1.drop1.drop1
 cases hl:ng f.1 held with
 | none=>
   have hc:kJ held f=1:=by unfold kJ;rw[hl,if_neg (by simp)]
   refine ay (o:=0) s3 .head rfl rfl rfl (nle rfl) fun h4 s4=>?_
   refine ah (fun h=>by cases h) (fun _=>?_)
   exact fresh h4 _ hc s4
 | some t=>
   refine ay (o:=0) s3 .head rfl rfl rfl (nle rfl) fun h4 s4=>?_
   refine ah (fun _=>?_) (fun h=>by cases h)
   refine aj (af s4 (.head _) (a:=T t) rfl ?_)
   refine aj (af s4 (.tail _ (.tail _ (.head _))) (a:=T f.2) rfl ?_)
   refine aU ?_
   refine ah (fun hb=>?_) (fun hb=>?_)<;>simp only[za,zb,zc,zd,ze,zf,zg,zh,zi,u8i,zj,zk,zl]at hb
   ·subst hb
    have hc:kJ held f=0:=by unfold kJ;rw[hl,if_pos rfl]
    have e1:p+kJ held f=p:=by omega
    rw[e1]at u u2
    refine aK s4 (.head _) (nle rfl) ?_
    refine ay (o:=0) s4 (.tail .head) rfl rfl rfl (nle rfl) fun h5 s5=>?_
    refine aK s5 (.tail _ (.head _)) (nle rfl) ?_
    refine q h5 ?_
    have s6:=s5.drop1.drop1.drop1
    rw[← u.same];exact s6
   ·have hc:kJ held f=1:=by unfold kJ;rw[hl,if_neg (by simp[hb])]
    exact fresh h4 _ hc s4
theorem JT (held:KL Str):∀ (l:List Fg) (st:KL Str×Int),st.2≤(l.foldl (gJ held) st).2∧(l.foldl (gJ held) st).2≤st.2+l.length
 | [],st=>by simp
 | f::l,st=>by
   have:=JT held l (gJ held st f)
   have hc:0≤kJ held f∧kJ held f≤1:=by unfold kJ;split<;>omega
   rw[List.foldl_cons,List.length_cons]
   have e:(gJ held st f).2=st.2+kJ held f:=rfl
   omega
theorem Pu (hF:cy) (hI:gq) (hA:je) (hL:dN) {frags:List Fg}{syms:List Sy}{fv sv:AV}(rf:∀ h' L1,St h0 M h' (L1++R)→Row frE 2 h' fv frags) (rs:∀ h' L1,St h0 M h' (L1++R)→Row syE 2 h' sv syms) (hw:Few frags syms) (hp:0≤b.parsed∧b.parsed<1000000000) (s:BuS h0 M h i b R)
  (kb:oH frags syms≠[]→∀ h',BuS h0 M h' i (cF b frags) R→Q (.tup [.full 0 [],.snap (oH frags syms).length ((oH frags syms).flatMap dE)]) h')
  (kg:oH frags syms=[]→∀ h',BuS h0 M h' i (cF b frags) R→Q (.tup [.snap (LB frags syms).length ((LB frags syms).flatMap bE),.full 0 []]) h'):C cq [.ptr i 0,fv,sv] h Q:=by
 obtain⟨j,o,ov,E,m,a,s⟩:=s
 refine vZ _ _ _ _ _ ?_
 unfold qQ
 refine qB s fun jm h1 s1=>?_
 refine (rf h1 ((jm,true,.amap [] 0)::(i,true,.cells [.map j,ov,I b.parsed])::(j,true,o)::E) s1).len ?_
 have hnf:=hw.nf
 refine aP (fun n vs h'=>∃ (q:Nat) (rv:AV) (E2:Own) (om:AObj),vs=[rv,I (q:Nat)]∧n+q=frags.length∧MapS HM ((frags.take q).foldl (gJ b.held) ([],b.parsed)).1 om∧AccE 1 rv ((frags.take q).map (·.1)).length (((frags.take q).map (·.1)).flatMap nmE) E2∧
  St h0 M h' (E2++((jm,true,om)::(i,true,.cells [.map j,ov,I ((frags.take q).foldl (gJ b.held) ([],b.parsed)).2])::(j,true,o)::(E++R)))) frags.length ⟨0,.full 0 [],[],_,rfl,by omega,.nil _,.none 1,s1⟩ ?_
 rintro n vs h2 ⟨q,rv,E2,om,rfl,hn,m2,a2,s2⟩
 unfold mH
 (repeat refine aJ ?_)
 have rfq:∀ h' L1 x,St h0 M h' (L1++((jm,true,om)::(i,true,.cells x)::(j,true,o)::(E++R)))→Row frE 2 h' fv frags:=fun h' L1 x s=>rf h' (L1++((jm,true,om)::(i,true,.cells x)::(j,true,o)::E)) (by rw[List.append_assoc];exact s)
 refine ah (fun hq=>?_) (fun hq=>?_)<;>simp only[za,zb,zc,zd,ze,zf,zg,zh,zi,u8i,zj,zk,zl]at hq
 ·have hq:q<frags.length:=hq
  have hle:=JT b.held (frags.take q) ([],b.parsed)
  have hlt:((frags.take q)).length≤1000000:=by rw[List.length_take];omega
  have ht:=hw.texts _ (List.getElem_mem hq)
  refine (rfq h2 E2 _ s2).idx (fun _=>rfl) hq fun p t=>?_
  refine bk t rfl ?_
  have hst:(frags.take (q+1)).foldl (gJ b.held) ([],b.parsed)=gJ b.held ((frags.take q).foldl (gJ b.held) ([],b.parsed)) frags[q]:=by
   rw[List.take_succ_eq_append_getElem hq,List.foldl_append];rfl
  have hnm:(frags.take (q+1)).map (·.1)=(frags.take q).map (·.1)++[frags[q].1]:=by
   rw[List.take_succ_eq_append_getElem hq,List.map_append];rfl
  have hlm:((frags.take q).map (·.1)).length=q:=by simp;omega
  generalize frags[q]=f at ht hst hnm ⊢
  generalize hfo:(frags.take q).foldl (gJ b.held) ([],b.parsed)=st at m2 s2 hst hle
  refine aQ s2 fun t12 h3 s3=>?_
  refine ay (o:=0) s3 .head rfl rfl rfl (nle rfl) fun h4 s4=>?_
  refine aj (af s4 (.head _) (a:=T f.1) rfl ?_)
  refine aK s4 (.head _) (nle rfl) ?_
  have uu:∀ (A:Own) {x y:Nat×Bool×AObj} {B:Own},Sub (A++(x::B)) x (A++(y::B)) y:=fun A=>by
   intro x y B
   induction A with
   | nil=>exact .head
   | cons c A ih=>exact .tail ih
  have u4:∀ y:AObj,Sub ((t12,true,AObj.cells (frE f))::(E2++((jm,true,om)::(i,true,.cells [.map j,ov,I st.2])::(j,true,o)::(E++R)))) (i,true,.cells [.map j,ov,I st.2]) ((t12,true,AObj.cells (frE f))::(E2++((jm,true,om)::(i,true,y)::(j,true,o)::(E++R)))) (i,true,y):=fun y=>.tail (by
   have:=uu (E2++[(jm,true,om)]) (x:=(i,true,.cells [.map j,ov,I st.2])) (y:=(i,true,y)) (B:=(j,true,o)::(E++R))
   simpa using this)
  refine Qe hF hI hA (by omega) (by omega) m s4 (List.mem_cons_of_mem _ (List.mem_append_right _ (.tail _ (.tail _ (.head _))))) (u4 _) a.v1.one fun h5 s5=>?_
  refine⟨af s5 (.head _) (a:=T f.1) rfl rfl,?_⟩
  have mj:∀ {A B:Own} {c x:Nat×Bool×AObj},x∈(c::(A++(x::B))):=fun {A B c x}=>List.mem_cons_of_mem _ (List.mem_append_right _ (.head _))
  refine ZN (k:=f.1) (v:=f.2) (enc:=HM) s5 mj m2 fun om3 m3 s6=>?_
  have s6:=s6 (L':=(t12,true,AObj.cells (frE f))::(E2++((jm,true,om3)::(i,true,.cells [.map j,ov,I (st.2+kJ b.held f)])::(j,true,o)::(E++R)))) (.tail (uu E2))
  refine aj (af s6 (.head _) (a:=T f.1) rfl (aB rfl rfl ?_))
  have s7:=s6.perm (L':=E2++((t12,true,AObj.cells (frE f))::(jm,true,om3)::(i,true,.cells [.map j,ov,I (st.2+kJ b.held f)])::(j,true,o)::(E++R))) List.perm_middle.symm
  refine a2.app s7 (xs:=nmE f.1) (m:=1) (Rd.full rfl) rfl (by omega) fun rv' E' h8 a8 s8=>?_
  refine aH (by omega) ?_
  refine⟨n-1,by omega,q+1,rv',E',om3,rfl,by omega,?_,?_,?_⟩
  ·rw[hst];exact m3
  ·rw[hnm,List.length_append,List.flatMap_append];simpa using a8
  ·rw[hst]
   exact s8.sub ((List.sublist_cons_self _ _).append_left E')
 ·have hq:q=frags.length:=by omega
  subst hq
  rw[List.take_length]at m2 a2 s2
  have s2:=s2.perm (L':=(i,true,.cells [.map j,ov,I (frags.foldl (gJ b.held) ([],b.parsed)).2])::(jm,true,om)::(j,true,o)::(E2++(E++R))) (by
   refine (List.perm_append_comm_assoc E2 [(jm,true,om),(i,true,AObj.cells [.map j,ov,I (frags.foldl (gJ b.held) ([],b.parsed)).2]),(j,true,o)] (E++R)).trans ?_
   exact List.Perm.swap _ _ _)
  refine au (aj ?_)
  refine ay (o:=0) s2 .head rfl rfl rfl (nle rfl) fun h3 s3=>?_
  refine au (aj ?_)
  refine yu (o:=0+1) a2.v1 s3 .head (nle rfl) fun h4 s4=>?_
  have s4:St h0 M h4 ((i,true,.cells [.map jm,rv,I (frags.foldl (gJ b.held) ([],b.parsed)).2])::(jm,true,om)::(E2++R)):=s4.sub (by
   refine ((List.Sublist.refl _).cons_cons _).cons_cons _ |>.trans ?_
   refine List.Sublist.cons_cons _ (List.Sublist.cons_cons _ ?_)
   refine List.Sublist.cons _ ?_
   exact (List.sublist_append_right E R).append_left E2)
  have hb:BuS h0 M h4 i (cF b frags) R:=⟨jm,om,rv,E2,m2,a2,s4⟩
  refine Og hF hI hA hL (rf h4 ((i,true,.cells [.map jm,rv,I (frags.foldl (gJ b.held) ([],b.parsed)).2])::(jm,true,om)::E2) s4) (rs h4 ((i,true,.cells [.map jm,rv,I (frags.foldl (gJ b.held) ([],b.parsed)).2])::(jm,true,om)::E2) s4) hw (fun hne h5 f5=>?_) (fun hz h5 f5=>?_)
  ·refine aF rfl (aF rfl ?_)
   exact kb hne h5 ⟨jm,om,rv,E2,m2,a2,s4.call f5⟩
  ·refine aF rfl (aF rfl ?_)
   exact kg hz h5 ⟨jm,om,rv,E2,m2,a2,s4.call f5⟩
end
end
end
section
noncomputable section
structure Shp where
 a:List RW
 b:List RW
 c:List RW
 ns:List Int
 ys:List Int
section
variable [Tabs]
variable {h h0:ae}{M:List Nat}{R:Own}{Q:QT}{K:AV→Prop}{i:Nat}
abbrev rwV (l:List RW):AV:=.snap l.length (l.flatMap rwE)
abbrev inV (l:List Int):AV:=.snap l.length (l.flatMap fun n=>[I n])
def shE (s:Shp):List AV:=[rwV s.a,rwV s.b,rwV s.c,inV s.ns,inV s.ys]
def abr (s:Shp):Prop:=((∀ r∈s.a,okW r)∧(∀ r∈s.b,okW r)∧(∀ r∈s.c,okW r)∧(∀ n∈s.ns,inI n)∧(∀ n∈s.ys,inI n))∧(s.a.length≤9223372036854775807∧s.b.length≤9223372036854775807∧s.c.length≤9223372036854775807∧s.ns.length≤9223372036854775807∧s.ys.length≤9223372036854775807)
def aaG (s:Shp):Prop:=(∀ r∈s.a,Ig r)∧(∀ r∈s.b,Ig r)∧(∀ r∈s.c,Ig r)
theorem Zb {s:Shp}(ho:abr s) (k1:aaG s→∀ h',Fr [] h h'→Q (B true) h') (k0:∀ h',Fr [] h h'→Q (B false) h'):C lS [.agg (shE s)] h Q:=by
 obtain⟨⟨o1,o2,o3,o4,o5⟩,l1,l2,l3,l4,l5⟩:=ho
 refine Bx _ _ _ ?_
 unfold xO
 refine bR (St.start h) rfl fun j h1 s1=>?_
 have s1:St h [] h1 [(j,true,.cells (shE s))]:=s1
 have RA:∀ (l:List RW),Row rwE 6 h1 (rwV l) l:=fun l=>Row.snap uB l
 refine aj (af s1 (.head _) (a:=rwV s.a) rfl ?_)
 refine (RA _).len ?_
 refine aj (af s1 (.head _) (a:=rwV s.b) rfl ?_)
 refine (RA _).len (Fq ?_)
 refine aj (af s1 (.head _) (a:=rwV s.c) rfl ?_)
 refine (RA _).len (Fq ?_)
 refine eT (ah (fun hb=>?_) (fun _=>k0 _ s1.fr))
 refine aj (af s1 (.head _) (a:=rwV s.a) rfl ?_)
 refine Mu (by omega) o1 (RA _) (fun f1=>?_) (ah (fun h=>by cases h) (fun _=>k0 _ s1.fr))
 refine ah (fun _=>?_) (fun h=>by cases h)
 refine aj (af s1 (.head _) (a:=rwV s.b) rfl ?_)
 refine Mu (by omega) o2 (RA _) (fun f2=>?_) (ah (fun h=>by cases h) (fun _=>k0 _ s1.fr))
 refine ah (fun _=>?_) (fun h=>by cases h)
 refine aj (af s1 (.head _) (a:=rwV s.c) rfl ?_)
 refine Mu (by omega) o3 (RA _) (fun f3=>?_) (ah (fun h=>by cases h) (fun _=>k0 _ s1.fr))
 refine ah (fun _=>?_) (fun h=>by cases h)
 refine aj (af s1 (.head _) (a:=inV s.ns) rfl ?_)
 have RI:Row (fun n:Int=>[I n]) 1 h1 (inV s.ns) s.ns:=Row.snap (enc:=fun n:Int=>[I n]) (sz:=1) (fun _=>rfl) _
 refine RI.len (eT ?_)
 generalize decide ((s.ns.length:Int)≤60)=d
 cases d
 ·exact k0 _ s1.fr
 ·exact k1 ⟨f1,f2,f3⟩ _ s1.fr
theorem Wd {l:List Int}{v:AV}(hi:∀ n∈l,inI n) (r:∀ h,Row (fun n:Int=>[I n]) 1 h v l) (q:∀ (ys:List Sy) h',ys.length≤4→Fr [] h h'→Q (.snap ys.length (ys.flatMap syE)) h'):C uL [v] h Q:=by
 refine ACall.conv ?_
 refine LG _ _ _ ?_
 unfold Jk
 refine aP (fun n vs h'=>∃ (j:Nat) (w:AV) (ys:List Sy) (E:Own),vs=[w,I (j:Nat)]∧n+j=4∧ys.length≤j∧AccE 2 w ys.length (ys.flatMap syE) E∧St h [] h' (E++[])) 4 ⟨0,_,[],[],rfl,rfl,by simp,.none 2,St.start h⟩ ?_
 rintro n vs h1 ⟨j,w,ys,E,rfl,hn,hy,a,s1⟩
 unfold BH
 have fin:∃ r2 h2,Conv w h1 r2 h2∧Q r2 h2:=a.conv s1 fun h' s'=>q ys h' (by omega) s'.fr
 refine (r h1).len (aJ (ah (fun hb=>?_) (fun _=>fin)))
 have hj:j<l.length:=by have:=of_decide_eq_true hb;omega
 refine aJ (ah (fun hc=>?_) (fun _=>fin))
 have hj4:j<4:=by have:=of_decide_eq_true hc;omega
 refine (r h1).idx (fun _=>rfl) hj fun p t=>aI t ?_
 refine gM (by decide) (by decide) (hi _ (List.getElem_mem hj)) ?_
 have next:∀ (w2:AV) (ys2:List Sy) (E2:Own) (h2:ae),ys2.length≤j+1→AccE 2 w2 ys2.length (ys2.flatMap syE) E2→St h [] h2 (E2++[])→pM w2 (I (j:Nat)) h2 (fun vs' h'=>∃ m,m<n∧∃ (j:Nat) (w:AV) (ys:List Sy) (E:Own),vs'=[w,I (j:Nat)]∧m+j=4∧ys.length≤j∧AccE 2 w ys.length (ys.flatMap syE) E∧St h [] h' (E++[])):=fun w2 ys2 E2 h2 hl a2 s2=>by
  unfold pM Bc
  refine aH (by omega) ?_
  exact⟨n-1,by omega,j+1,w2,ys2,E2,rfl,by omega,hl,a2,s2⟩
 refine bU (ah (fun _=>?_) (fun _=>next w ys E h1 (by omega) a s1))
 refine aB rfl rfl ?_
 refine (r h1).idx (fun _=>rfl) hj fun p t=>aI t ?_
 have hx:=hi _ (List.getElem_mem hj)
 generalize l[j]=x at hx t ⊢
 have hq:inI (x.tdiv 5):=by
  have:(x.tdiv 5).natAbs=x.natAbs / 5:=by rw[Int.natAbs_tdiv];rfl
  unfold inI at hx ⊢;omega
 refine vA (by decide) hq ?_
 refine yU _ _ ?_
 unfold AI
 refine aB rfl rfl ?_
 refine⟨aI t rfl,?_⟩
 have RM:Row sE 1 h1 (.full 4 [T [98,97,115,101],T [120],T [101,110,100,95,49],T [114]]) [[98,97,115,101],[120],[101,110,100,95,49],[114]]:=Row.full (enc:=sE) (sz:=1) (h:=h1) (fun _=>rfl) [[98,97,115,101],[120],[101,110,100,95,49],[114]]
 refine RM.idx (fun _=>rfl) (j:=j) (by simpa using hj4) fun p2 t2=>?_
 generalize ([[98,97,115,101],[120],[101,110,100,95,49],[114]]:List Str)[j]'(by simpa using hj4)=nm at t2
 have t2:Pt h1 p2 [T nm]:=t2
 refine aI t2 ?_
 refine gM (by decide) (by decide) hq ⟨aI t2 rfl,?_⟩
 obtain⟨m,hm⟩:=Int.eq_ofNat_of_zero_le (Int.emod_nonneg (x.tdiv 5) (show (8:Int)≠0 by decide))
 have hm2:m<8:=by have:=Int.emod_lt_of_pos (x.tdiv 5) (show (0:Int)<8 by decide);omega
 rw[hm]
 have RK:Row (fun n:Int=>[I n]) 1 h1 (.full 8 [I 0,I 1,I (-1),I 1099511627776,I (-1099511627776),I 100,I 3,I 1048576]) [0,1,-1,1099511627776,-1099511627776,100,3,1048576]:=Row.full (enc:=fun n:Int=>[I n]) (sz:=1) (h:=h1) (fun _=>rfl) [0,1,-1,1099511627776,-1099511627776,100,3,1048576]
 refine RK.idx (fun _=>rfl) (j:=m) (by simpa using hm2) fun p3 t3=>?_
 generalize ([0,1,-1,1099511627776,-1099511627776,100,3,1048576]:List Int)[m]'(by simpa using hm2)=vl at t3
 have t3:Pt h1 p3 [I vl]:=t3
 refine aI t3 ?_
 refine aD rfl (aB rfl rfl ?_)
 refine a.app s1 (xs:=[T nm,I vl]) (m:=1) (Rd.full rfl) rfl (by omega) fun w2 E2 h2 a2 s2=>?_
 exact next w2 (ys++[(nm,vl)]) E2 h2 (by simp;omega) (by simpa [syE] using a2) s2
def LH (ta tb tc:Str):List Fg:=[([109,97,105,110],ta),([109,111,114,101],tb),([122],tc)]
theorem Wm (hW:tB) (hR:yl) {s:Shp}(ho:abr s) (hf:aaG s) (q:∀ ta tb tc (ys:List Sy) h',ta.length≤600→tb.length≤600→tc.length≤600→ys.length≤4→Fr [] h h'→Q (.tup [.full 3 ((LH ta tb tc).flatMap frE),.snap ys.length (ys.flatMap syE)]) h'):C lw [.agg (shE s)] h Q:=by
 obtain⟨⟨o1,o2,o3,o4,o5⟩,l1,l2,l3,l4,l5⟩:=ho
 obtain⟨f1,f2,f3⟩:=hf
 refine Ax _ _ _ ?_
 unfold vP
 refine bR (St.start h) rfl fun j h1 s1=>?_
 have s1:St h [] h1 [(j,true,.cells (shE s))]:=s1
 have RA:∀ (l:List RW) h,Row rwE 6 h (rwV l) l:=fun l h=>Row.snap uB l
 have RI:∀ (l:List Int) h,Row (fun n:Int=>[I n]) 1 h (inV l) l:=fun l h=>Row.snap (enc:=fun n:Int=>[I n]) (sz:=1) (fun _=>rfl) _
 refine aj (af s1 (.head _) (a:=rwV s.a) rfl ?_)
 refine aj (af s1 (.head _) (a:=inV s.ns) rfl ?_)
 refine aj (af s1 (.head _) (a:=rwV s.b) rfl ?_)
 refine aj (af s1 (.head _) (a:=inV s.ns) rfl ?_)
 refine aj (af s1 (.head _) (a:=rwV s.c) rfl ?_)
 refine H3 hW hR (most:=600) (l:=s.a) (ns:=s.ns) (fun r hr=>⟨o1 r hr,f1 r hr⟩) o4 (by omega) (by decide) (RA _) (RI _) fun ta h2 la g2=>?_
 have s2:=s1.call g2
 refine⟨af s2 (.head _) rfl rfl,af s2 (.head _) rfl rfl,af s2 (.head _) rfl rfl,?_⟩
 refine aD rfl ?_
 refine H3 hW hR (most:=600) (l:=s.b) (ns:=s.ns) (fun r hr=>⟨o2 r hr,f2 r hr⟩) o4 (by omega) (by decide) (RA _) (RI _) fun tb h3 lb g3=>?_
 have s3:=s2.call g3
 refine⟨af s3 (.head _) rfl rfl,?_⟩
 refine aD rfl ?_
 refine H3 hW hR (most:=600) (l:=s.c) (ns:=[]) (fun r hr=>⟨o3 r hr,f3 r hr⟩) (fun n hn=>by cases hn) (by omega) (by decide) (RA _) (fun h=>Row.nil) fun tc h4 lc g4=>?_
 have s4:=s3.call g4
 refine aD rfl (aB rfl rfl ?_)
 refine aj (af s4 (.head _) (a:=inV s.ys) rfl ?_)
 refine Wd o5 (RI _) fun ys h5 ly g5=>?_
 exact q ta tb tc ys h5 la lb lc ly (s4.call g5).fr
end
end
end
section
noncomputable section
variable [Tabs]
def Gd (f:PF):Prop:=∀ l x l',f l=some (x,l')→okE x∧bn x+l'.length≤l.length
theorem JV:∀ (ks:List Nat) (l:Str),(dA ks l).1=0∨(dA ks l).1∈ks
 | [],l=>.inl rfl
 | k::ks,l=>by
   unfold dA
   split
   ·exact .inr (.head _)
   ·rcases JV ks (blk l) with h|h
    ·exact .inl h
    ·exact .inr (.tail _ h)
theorem NP {sub:PF}(hs:Gd sub) (ks:List Nat) (hk:∀ k∈ks,(sg k)≠[]) (hb:∀ k∈ks,5≤k∧k≤11):∀ n x l y l',eO sub ks n x l=some (y,l')→okE x→okE y∧bn y+l'.length≤bn x+l.length
 | 0,x,l,y,l',e,hx=>by
   have:=(qh ks hk l).1
   unfold eO at e
   split at e
   ·cases e;exact⟨hx,by omega⟩
   ·cases e
 | n+1,x,l,y,l',e,hx=>by
   have h0:=qh ks hk l
   unfold eO at e
   split at e
   ·cases e;exact⟨hx,by omega⟩
   ·rename_i hne
    split at e
    ·cases e
    ·rename_i z l2 h2
     obtain⟨h3,h4⟩:=hs _ _ _ h2
     have hm:=(JV ks l).resolve_left hne
     have:=NP hs ks hk hb n _ _ _ _ e ⟨hb _ hm,hx,h3⟩
     have h5:=h0.2 hne
     simp only[bn]at this
     exact⟨this.1,by omega⟩
theorem WX:∀ ks∈levelsL,∀ k∈ks,5≤k∧k≤11:=by decide
theorem KJ {one:PF}(ho:Gd one):∀ r,r≤5→Gd (gD one r)
 | 0,_=>ho
 | r+1,hr=>fun l x l' e=>by
   unfold gD at e
   have ih:=KJ ho r (by omega)
   cases h:gD one r l with
   | none=>rw[h]at e;cases e
   | some p=>
     obtain⟨y,l1⟩:=p
     rw[h]at e
     obtain⟨h1,h2⟩:=ih _ _ _ h
     have hl:=JI (r:=4-r) (by omega)
     have:=NP ih _ (yA _ hl).1 (WX _ hl) _ _ _ _ _ e h1
     exact⟨this.1,by omega⟩
theorem Uq {two:PF}(h2:Gd two):Gd (gS two):=fun l x l' e=>by
 unfold gS at e
 cases h:two l with
 | none=>rw[h]at e;cases e
 | some p=>
   obtain⟨y,l1⟩:=p
   rw[h]at e
   obtain⟨h1,h3⟩:=h2 _ _ _ h
   have hb:(blk l1).length≤l1.length:=nF 32 l1
   simp only at e
   split at e
   ·cases e;exact⟨h1,by simp;omega⟩
   ·cases e
theorem Eb (base:Nat) (l ds:Str) (hd:ds≠[]) (hl:ds.length≤l.length) {x:Ex}{l':Str}(e:eV base l ds=some (x,l')):okE x∧bn x+l'.length≤l.length:=by
 have:0<ds.length:=List.length_pos_iff.2 hd
 unfold eV at e
 split at e
 ·cases e
 ·split at e
  ·cases e;exact⟨trivial,by simp[bn];omega⟩
  ·cases e
theorem Da {p:UInt8→Bool}:∀ l:Str,(l.takeWhile p).length≤l.length:=fun l=>(List.takeWhile_prefix p).length_le
theorem Sp:Gd GN:=fun l x l' e=>by
 unfold GN at e
 split at e
 ·rename_i h
  exact Eb _ _ _ h (Da _) e
 ·split at e
  ·rename_i h
   cases e
   have hn:gc l≠[]:=fun h0=>by rw[h0]at h;cases h
   have h1:=List.length_pos_iff.2 hn
   have h2:(gc l).length≤l.length:=Da _
   exact⟨trivial,by simp[bn];omega⟩
  ·cases e
theorem W3:Gd Bu:=fun l x l' e=>by
 unfold Bu at e
 split at e
 ·split at e
  ·rename_i h
   have:=Eb _ _ _ h (Da _) e
   simp at this;exact⟨this.1,by omega⟩
  ·exact Sp _ _ _ e
 ·exact Sp _ _ _ e
theorem Tk {c:UInt8}{l:Str}(h:([c]:Str).isPrefixOf l=true):0<l.length:=by
 cases l<;>simp_all [List.isPrefixOf]
theorem Ni {group minus:PF}(hg:Gd group) (hm:∀ l x l',minus l=some (x,l')→okE x∧bn x+l'.length≤l.length+1):Gd (ra group minus):=fun l x l' e=>by
 have hb:(blk l).length≤l.length:=nF 32 l
 unfold ra at e
 split at e
 ·have:=hg _ _ _ e;simp at this;exact⟨this.1,by omega⟩
 ·split at e
  ·rename_i h
   have h1:=Tk h
   have:=hm _ _ _ e;simp at this;exact⟨this.1,by omega⟩
  ·split at e
   ·rename_i h
    have h1:=Tk h
    cases e;exact⟨trivial,by simp[bn];omega⟩
   ·have:=W3 _ _ _ e;exact⟨this.1,by omega⟩
theorem Uy {one:PF}(h2:Gd one):∀ l x l',eJ one l=some (x,l')→okE x∧bn x+l'.length≤l.length+1:=fun l x l' e=>by
 unfold eJ at e
 cases h:one l with
 | none=>rw[h]at e;cases e
 | some p=>
   obtain⟨y,l1⟩:=p
   rw[h]at e
   cases e
   obtain⟨h3,h4⟩:=h2 _ _ _ h
   exact⟨h3,by simp[bn];omega⟩
theorem Mn:∀ d,Gd (Br d)
 | 0=>Ni (fun l x l' e=>by cases e) (fun l x l' e=>by cases e)
 | d+1=>Ni (Uq (KJ (Mn d) 5 (Nat.le_refl _))) (Uy (Mn d))
theorem TY {s:Str}{x:Ex}(h:gI s=some x):okE x∧bn x≤s.length:=by
 unfold gI at h
 split at h
 ·cases h
 ·rename_i y l' e
  split at h
  ·cases h
   have:=KJ (Mn 12) 5 (Nat.le_refl _) _ _ _ e
   exact⟨this.1,by omega⟩
  ·cases h
theorem Z6 {s:Str}(h:(yI s).2=true):(yI s).1<32:=by
 unfold yI at h ⊢
 split at h
 ·split at h
  ·rename_i hc
   rw[if_pos hc]
   exact of_decide_eq_true h
  ·cases h
 ·cases h
abbrev okB (N:Nat) (a:Ar):Prop:=okE a.e∧bn a.e≤N+1∧a.reg<1000
def Bj:Way→Bool
 | .word=>true
 | _=>false
theorem XI (N:Nat):∀ (ws:List Way) (l:List Str) (rs rs':RS),goW ws l rs=(rs',true)→l.length=ws.length→(∀ s∈l,s.length≤N)→(∀ a∈rs.args,okB N a)→rs.text.length≤N→
  rs'.kind=rs.kind∧rs'.op=rs.op∧rs'.args.length=rs.args.length+(ws.filter fun w=>!Bj w).length∧(∀ a∈rs'.args,okB N a)∧rs'.text.length≤N
 | [],l,rs,rs',h,hl,hs,ha,ht=>by
   simp only[goW,Prod.mk.injEq,and_true]at h
   subst h;exact⟨rfl,rfl,by simp,ha,ht⟩
 | w::ws,[],rs,rs',h,hl,hs,ha,ht=>by simp at hl
 | w::ws,s::ss,rs,rs',h,hl,hs,ha,ht=>by
   unfold goW at h
   split at h
   ·rename_i hw
    have hsl:=hs s (.head _)
    have step:(ki w s rs).1.kind=rs.kind∧(ki w s rs).1.op=rs.op∧(ki w s rs).1.args.length=rs.args.length+(if Bj w then 0 else 1)∧(∀ a∈(ki w s rs).1.args,okB N a)∧(ki w s rs).1.text.length≤N:=by
     cases w with
     | value=>
       simp only[ki]at hw ⊢
       cases hp:gI s with
       | none=>rw[hp]at hw;cases hw
       | some x=>
         have:=TY hp
         refine⟨rfl,rfl,by simp[Bj],fun a h=>?_,ht⟩
         rcases List.mem_append.1 h with h|h
         ·exact ha a h
         ·simp at h;subst h;exact⟨this.1,by show bn x≤_;omega,by show (-1:Int)<1000;omega⟩
     | reg=>
       simp only[ki]at hw ⊢
       have:=Z6 hw
       refine⟨by trivial,by trivial,by simp[Bj],fun a h=>?_,ht⟩
       rcases List.mem_append.1 h with h|h
       ·exact ha a h
       ·simp at h;subst h;exact⟨trivial,by simp[bn],by show (((yI s).1:Nat):Int)<1000;omega⟩
     | word=>
       simp only[ki]at hw ⊢
       exact⟨by trivial,by trivial,by simp[Bj],ha,hsl⟩
    obtain⟨h1,h2,h3,h4,h5⟩:=step
    obtain⟨g1,g2,g3,g4,g5⟩:=XI N ws ss _ rs' h (by simpa using hl) (fun x hx=>hs x (.tail _ hx)) h4 h5
    refine⟨g1.trans h1,g2.trans h2,?_,g4,g5⟩
    rw[g3,h3]
    cases w<;>simp[Bj]<;>omega
   ·cases h
theorem Zi {N:Nat}{ws:List Way}{l:List Str}{rs:RS}(h:(oL l ws rs).2=true) (hs:∀ s∈l,s.length≤N) (ha:rs.args=[]) (ht:rs.text.length≤N):
  (oL l ws rs).1.kind=rs.kind∧(oL l ws rs).1.op=rs.op∧(oL l ws rs).1.args.length=(ws.filter fun w=>!Bj w).length∧(∀ a∈(oL l ws rs).1.args,okB N a)∧(oL l ws rs).1.text.length≤N:=by
 unfold oL at h ⊢
 split at h
 ·rename_i hl
  rw[if_pos hl]
  have:=XI N ws l rs (goW ws l rs).1 (by rw[← h]) hl hs (by rw[ha];simp) ht
  rw[ha]at this
  simpa using this
 ·cases h
theorem O1 (s:Str):∀ x∈bZ s,x.length≤s.length:=fun x hx=>by
 unfold bZ at hx
 split at hx
 ·cases hx
 ·rw[List.mem_map]at hx
  obtain⟨y,hy,rfl⟩:=hx
  have h3:=ji 44 s y hy
  have h4:=qI y
  omega
theorem TK (l:List Str):((l.map lA).filter fun w=>!Bj w).length=l.length:=by
 rw[List.filter_eq_self.2]
 ·simp
 ·intro w hw
  obtain⟨k,_,rfl⟩:=List.mem_map.1 hw
  unfold lA;split<;>rfl
theorem SB (n:Nat):((List.replicate n Way.value).filter fun w=>!Bj w).length=n:=by
 rw[List.filter_eq_self.2]
 ·simp
 ·intro w hw
  rw[(List.mem_replicate.1 hw).2];rfl
theorem U9:∀ n,n<3→(cT (bp (jK n))).length≤1+n / 2*2∧(cT (bp (rb n))).length≤1+n / 2*2:=by decide
theorem VZ {N:Nat}(hN:N≤100000) {name rest:Str}{lab:Str}(hr:rest.length≤N) (h:(xa name rest (rs0 lab)).2=true):WfS (xa name rest (rs0 lab)).1:=by
 have hop:∀ s∈bZ rest,s.length≤N:=fun s hs=>Nat.le_trans (O1 rest s hs) hr
 have fin:∀ {ws:List Way} {rs:RS},(oL (bZ rest) ws rs).2=true→rs.args=[]→rs.text=[]→ws.length≤1000→
   (rs.kind=1→rs.op<tbl.length∧(cT (bp rs.op)).length≤(ws.filter fun w=>!Bj w).length)→
   (rs.kind=2→rs.op<3∧(cT (bp (jK rs.op))).length≤(ws.filter fun w=>!Bj w).length∧(cT (bp (rb rs.op))).length≤(ws.filter fun w=>!Bj w).length)→
   (3≤rs.kind→rs.kind≠6→0<(ws.filter fun w=>!Bj w).length)→rs.kind≤9→WfS (oL (bZ rest) ws rs).1:=fun {ws rs} h ha ht hw h1 h2 h3 h9=>by
  obtain⟨g1,g2,g3,g4,g5⟩:=Zi h hop ha (by rw[ht];simp)
  have hf:(ws.filter fun w=>!Bj w).length≤ws.length:=List.length_filter_le _ _
  refine⟨fun k=>?_,fun k=>?_,fun k k6=>?_,by rw[g1];exact h9,by omega,by omega,fun a hx=>?_⟩
  ·rw[g2,g3];exact h1 (g1 ▸ k)
  ·rw[g2,g3];exact h2 (g1 ▸ k)
  ·have:=h3 (by omega) (by omega)
   intro h0
   rw[h0]at g3;simp at g3;omega
  ·obtain⟨b1,b2,b3⟩:=g4 a hx
   exact⟨b1,by omega,b3⟩
 unfold xa at h ⊢
 split
 ·rename_i op hf
  rw[hf]at h
  have hl:=CL hf
  have hk:(cT (bp op)).length≤10:=by
   have:∀ r∈tbl,(cT r.kinds).length≤10:=by decide
   have h2:=this _ (List.getElem_mem hl)
   rw[show bp op=tbl[op].kinds by simp[bp,hl]];exact h2
  exact fin h rfl rfl (by simp;omega) (fun _=>⟨hl,by rw[TK];exact Nat.le_refl _⟩) (fun k=>by cases k) (fun k _=>absurd k (by show ¬ 3≤1;decide)) (by show 1≤9;decide)
 ·rename_i hf
  rw[hf]at h
  simp only at h
  split
  ·rename_i hg
   rw[if_pos hg]at h
   have h3:(kT name growsL).toNat<3:=(uI name growsL).2.2 hg
   refine fin h rfl rfl (by simp;omega) (fun k=>by cases k) (fun _=>⟨h3,?_⟩) (fun k _=>absurd k (by show ¬ 3≤2;decide)) (by show 2≤9;decide)
   rw[SB];exact U9 _ h3
  ·rename_i hg
   rw[if_neg hg]at h
   split
   ·rename_i hd
    rw[if_pos hd]at h
    have h3:(kT name datasL).toNat<3:=(uI name datasL).2.2 hd
    split
    ·rename_i hc
     rw[if_pos hc]at h
     refine fin h rfl rfl (by simp;omega) (fun k=>by have k:3+(kT name datasL).toNat=1:=k;omega) (fun k=>by have k:3+(kT name datasL).toNat=2:=k;omega) (fun _ _=>by rw[SB];omega) (by show 3+(kT name datasL).toNat≤9;omega)
    ·rename_i hc
     rw[if_neg hc]at h;cases h
   ·rename_i hd
    rw[if_neg hd]at h
    split
    ·rename_i ha
     rw[if_pos ha]at h
     unfold AK at h ⊢
     split at h
     ·cases h
     ·rename_i hq
      rw[if_neg hq]
      exact⟨(fun k=>by cases k),(fun k=>by cases k),fun _ k=>absurd rfl k,(by show 6≤9;decide),(by show ([]:List Ar).length<_;decide),(by simp;omega),(fun a ha=>by cases ha)⟩
    ·rename_i ha
     rw[if_neg ha]at h
     split
     ·rename_i hp
      rw[if_pos hp]at h
      have h3:(kT name spacesL).toNat<2:=(uI name spacesL).2.2 hp
      exact fin h rfl rfl (by simp) (fun k=>by have k:7+(kT name spacesL).toNat=1:=k;omega) (fun k=>by have k:7+(kT name spacesL).toNat=2:=k;omega) (fun _ _=>by decide) (by show 7+(kT name spacesL).toNat≤9;omega)
     ·rename_i hp
      rw[if_neg hp]at h
      split
      ·rename_i hq
       rw[if_pos hq]at h
       exact fin h rfl rfl (by simp) (fun k=>by cases k) (fun k=>by cases k) (fun _ _=>by decide) (by show 9≤9;decide)
      ·rename_i hq
       rw[if_neg hq]at h;cases h
theorem ZW {s:Str}(hs:s.length≤100000) {rs:RS}(h:NK s=some (some rs)):WfS rs:=by
 unfold NK at h
 split at h
 ·cases h
 ·split at h
  ·cases h
  ·rename_i lab s' hl
   have hl':s'.length≤s.length:=by
    have hb:=Pp s
    unfold Vc at hl
    split at hl
    ·split at hl
     ·cases hl
      have:=qI ((y5 s).drop (c8 fx (y5 s)+1))
      simp at this;omega
     ·cases hl
    ·cases hl;exact hb
   split at h
   ·split at h
    ·cases h
    ·cases h
     exact⟨fun k=>(by cases k),fun k=>(by cases k),fun k=>absurd k (by show ¬ 3≤0;decide),(by show 0≤9;decide),(by show 0<1000000000;decide),(by show 0<1000000000;decide),(fun a ha=>by cases ha)⟩
   ·split at h
    ·rename_i ht
     cases h
     refine VZ (N:=100000) (by decide) ?_ ht
     have:=qI (s'.drop (c8 AJ s'))
     unfold FZ
     simp at this;omega
    ·cases h
theorem TZ {s:Str}(hs:s.length≤100000):∀ x∈nL s,WfS x.2:=fun x hx=>by
 unfold nL Dh at hx
 obtain⟨n,hn,h⟩:=List.mem_flatMap.1 hx
 have hn:n<(bG 10 s).length:=by simpa using hn
 have e:((bG 10 s)[n]?).getD []=(bG 10 s)[n]:=by simp[hn]
 rw[e]at h
 have hl:=ji 10 s _ (List.getElem_mem hn)
 unfold stm at h
 split at h
 ·rename_i rs ho
  simp at h;subst h
  exact ZW (by omega) ho
 ·cases h
theorem abD {frags:List Fg}{syms:List Sy}(hf:frags.length≤100) (hs:syms.length≤1000) (ht:∀ x∈frags,x.2.length≤900):Few frags syms:=by
 have hlen:∀ (g:Fg→Nat) (l:List Fg),(∀ x∈l,g x≤901)→(l.map g).sum≤l.length*901:=fun g l h=>by
  induction l with
  | nil=>simp
  | cons a l ih=>
    have:=h a (.head _)
    have:=ih fun x hx=>h x (.tail _ hx)
    simp[Nat.add_mul];omega
 have hp:∀ x∈frags,(bG 10 x.2).length≤901:=fun x hx=>by
  have h1:=jy 10 x.2
  have h2:=List.count_le_length (a:=(10:UInt8)) (l:=x.2)
  have:=ht x hx
  omega
 have hm:frags.length*901≤100*901:=Nat.mul_le_mul_right _ hf
 refine⟨by omega,by omega,?_,?_,fun x hx=>by have:=ht x hx;omega,fun e he=>?_⟩
 ·unfold km
  rw[List.length_flatMap]
  have:=hlen (fun x=>(wm x).length) frags fun x hx=>by
   unfold wm
   rw[List.length_map]
   exact Nat.le_trans (xz stm SJ _ _) (hp x hx)
  omega
 ·unfold BA
  rw[List.length_flatMap]
  have:=hlen (fun x=>(yV x).length) frags fun x hx=>by
   unfold yV
   rw[List.length_map]
   exact Nat.le_trans (xz HA Pd _ _) (hp x hx)
  omega
 ·obtain⟨x,hx,he⟩:=List.mem_flatMap.1 he
  obtain⟨y,hy,rfl⟩:=List.mem_map.1 he
  exact TZ (by have:=ht x hx;omega) y hy
end
end
section
noncomputable section
section
variable [Tabs]
variable {h:ae}{Q:QT}{K:AV→Prop}
end
end
end
section
noncomputable section
section
variable [Tabs]
end
end
end
section
noncomputable section
structure WkSo (w:WkM):Prop where
 f:SoK w.f
 s:SoK w.s
theorem WkSo.nil:WkSo ⟨[],[]⟩:=⟨List.Pairwise.nil,List.Pairwise.nil⟩
theorem WkOk.nil:WkOk ⟨[],[]⟩:=⟨by simp,by simp,by simp,by simp,by simp,by simp⟩
section
variable [Tabs]
variable {h0 h:ae}{M:List Nat}{L R R':Own}{K:AV→Prop}{KH:QT}{KS':ae→Prop}{Q:QT}{i:Nat}{w:WkM}
theorem WkS.so (s:WkS h0 M h i w R):WkSo w:=by
 obtain⟨jf,js,xf,xs,⟨_,_,_,mf⟩,⟨_,_,_,ms⟩,s⟩:=s
 exact⟨mf.so,ms.so⟩
theorem WkS.rest (s:WkS h0 M h i w R):St h0 M h R:=by
 obtain⟨jf,js,xf,xs,mf,ms,s⟩:=s
 exact s.drop1.drop1.drop1
theorem WkS.after (s:WkS h0 M h i w R) {h':ae}(f:Fr [] h h'):WkS h0 M h' i w R:=by
 obtain⟨jf,js,xf,xs,mf,ms,s⟩:=s
 exact⟨jf,js,xf,xs,mf,ms,s.after f⟩
theorem W5 {p o:Nat}(k:K (B false)):DH .eql (.ptr p o) (.lit (.pointer none)) K:=⟨k⟩
theorem TQ {a n:Int}(ha:-9223372036854775808≤a∧a≤9223372036854775807) (hn:0<n):(a.tmod n=a%n∧0≤a.tmod n)∨(a.tmod n=a%n-n∧a.tmod n<0):=by
 have h0:=Int.emod_nonneg a (show n≠0 by omega)
 have h4:=Int.emod_lt_of_pos a hn
 rw[Int.tmod_eq_emod]
 have hab:(n.natAbs:Int)=n:=by omega
 split
 ·exact .inl ⟨by omega,by omega⟩
 ·right;rw[hab];exact⟨rfl,by omega⟩
end
end
end
section
noncomputable section
section
variable [Tabs]
variable {h0 h:ae}{M:List Nat}{L R:Own}{K:AV→Prop}{Q:QT}
theorem wS {a n:Int}(hn:0<n) (hn2:n≤1000000000000000000) (ha:-9223372036854775808≤a∧a≤9223372036854775807) (k:Q (I (a%n)) h):C lZ [I a,I n] h Q:=by
 refine G6 _ _ _ _ ?_
 unfold DQ
 refine nJ (by omega) ?_
 have h0:=Int.emod_nonneg a (show n≠0 by omega)
 have h4:=Int.emod_lt_of_pos a hn
 have h3:=TQ ha hn
 refine aJ ?_
 unfold qu
 refine ah (fun hb=>?_) (fun hb=>?_)<;>simp only[za,zb,zc,zd,ze,zf,zg,zh,zi,u8i,zj,zk,zl]at hb
 ·refine aH (by omega) ?_
  rw[show a.tmod n+n=a%n by omega]
  exact k
 ·rw[← show a.tmod n=a%n by omega]at k
  exact k
def abn:Prop:=∀ (h:ae) (Q:QT),Q (B true) h→C nZ [] h Q
end
end
end
section
noncomputable section
section
variable [Tabs]
variable {h h0:ae}{M:List Nat}{L R:Own}{Q:QT}{K:AV→Prop}{i:Nat}{b:BuM}
theorem rc (s:BuS h0 M h i b R) (k:Q (I b.parsed) h):C cL [.ptr i 0] h Q:=by
 obtain⟨j,o,ov,E,m,a,s⟩:=s
 refine vj _ _ _ ?_
 unfold pt
 exact au (aj (af s (.head _) (a:=I b.parsed) rfl k))
theorem Db (s:BuS h0 M h i b R) (k:Q (I (b.order.length:Nat)) h):C d5 [.ptr i 0] h Q:=by
 obtain⟨j,o,ov,E,m,a,s⟩:=s
 refine xq _ _ _ ?_
 unfold rm
 refine au (aj (af s (.head _) (a:=ov) rfl ?_))
 have s2:=s.swap (A:=[(i,true,.cells [.map j,ov,I b.parsed]),(j,true,o)])
 exact rT (a.rd s2) k
theorem BuS.add {e:Nat×Bool×AObj}(s:St h0 M h (e::L)) (hL:∃ j o ov E,MapS HM b.held o∧AccE 1 ov b.order.length (b.order.flatMap nmE) E∧L=(i,true,.cells [.map j,ov,I b.parsed])::(j,true,o)::(E++R)):BuS h0 M h i b (e::R):=by
 obtain⟨j,o,ov,E,m,a,rfl⟩:=hL
 refine⟨j,o,ov,E,m,a,s.perm ?_⟩
 refine (List.Perm.swap _ _ _).trans (List.Perm.cons _ ?_)
 refine (List.Perm.swap _ _ _).trans (List.Perm.cons _ ?_)
 exact List.perm_middle.symm
theorem BuS.app {E2:Own}(s:St h0 M h (E2++L)) (hL:∃ j o ov E,MapS HM b.held o∧AccE 1 ov b.order.length (b.order.flatMap nmE) E∧L=(i,true,.cells [.map j,ov,I b.parsed])::(j,true,o)::(E++R)):BuS h0 M h i b (E2++R):=by
 obtain⟨j,o,ov,E,m,a,rfl⟩:=hL
 refine⟨j,o,ov,E,m,a,s.perm ?_⟩
 refine (List.perm_append_comm_assoc E2 [(i,true,AObj.cells [.map j,ov,I b.parsed]),(j,true,o)] (E++R)).trans ?_
 refine List.Perm.cons _ (List.Perm.cons _ ?_)
 exact List.perm_append_comm_assoc E2 E R
theorem Yb {sz i n:Nat}{b:Int}(h0:0≤b) (h1:b≤n) (k:K (.sl i (b.toNat*sz) (n-b.toNat) sz)):ir sz (.sl i 0 n sz) (some (I b)) none K:=⟨by
 simp only[ij,kU,asI]
 refine⟨⟨h0,by omega,by omega,trivial⟩,?_⟩
 simpa using k⟩
abbrev bu0:BuM:=⟨[],[],0⟩
structure ach (F G D:List Fg) (k:Nat) (t:Str):Prop where
 lt:k<3
 lenF:F.length=3
 lenG:G.length=3
 lenD:D.length=2
 at_:(F.flatMap frE)[k*2+1]?=some (T t)
 put:splice (F.flatMap frE) (k*2+1) [T (t++[35])]=G.flatMap frE
 cut:((G.flatMap frE).take (k*2))++((G.flatMap frE).drop ((k+1)*2))=D.flatMap frE
 p1:(cF bu0 F).parsed=3
 o1:(cF bu0 F).order.length=3
 b1:cF (cF bu0 F) F=cF bu0 F
 p2:(cF (cF bu0 F) G).parsed=4
 p3:(cF (cF (cF bu0 F) G) D).parsed=4
 o3:(cF (cF (cF bu0 F) G) D).order.length=2
 p4:(cF (cF (cF (cF bu0 F) G) D) G).parsed=5
 o4:(cF (cF (cF (cF bu0 F) G) D) G).order.length=3
 fF:∀ x∈F,x.2.length≤600
 fG:∀ x∈G,x.2.length≤601
 fD:∀ x∈D,x.2.length≤601
 tl:t.length≤600
theorem P0 (t:Str):¬ t=t++[35]:=fun e=>by have:=congrArg List.length e;simp at this
theorem KG (t:Str):¬ t++[35]=t:=fun e=>by have:=congrArg List.length e;simp at this
def Wr (k:Nat) (ta tb tc:Str):List Fg:=if k=0 then LH (ta++[35]) tb tc else if k=1 then LH ta (tb++[35]) tc else LH ta tb (tc++[35])
def Yf (k:Nat) (ta tb tc:Str):List Fg:=if k=0 then [([109,111,114,101],tb),([122],tc)] else if k=1 then [([109,97,105,110],ta),([122],tc)] else [([109,97,105,110],ta),([109,111,114,101],tb)]
theorem kn1:¬ ([111,114,101]:Str)<[97,105,110]:=by decide
theorem kn2:¬ ([122]:Str)<[109,97,105,110]:=by decide
theorem kn3:¬ ([122]:Str)<[109,111,114,101]:=by decide
theorem Xm (k:Nat) (hk:k<3) (ta tb tc:Str) (la:ta.length≤600) (lb:tb.length≤600) (lc:tc.length≤600):∃ t,ach (LH ta tb tc) (Wr k ta tb tc) (Yf k ta tb tc) k t:=by
 have hk:k=0∨k=1∨k=2:=by omega
 rcases hk with rfl|rfl|rfl
 ·refine⟨ta,by decide,rfl,rfl,rfl,rfl,rfl,rfl,?_,rfl,?_,?_,?_,rfl,?_,rfl,?_,?_,?_,la⟩
  all_goals simp[LH,Wr,Yf,cF,gJ,kJ,yG,ng,P0,KG,Ky.lt,kn1,kn2,kn3,la,lb,lc]
  all_goals try omega
 ·refine⟨tb,by decide,rfl,rfl,rfl,rfl,rfl,rfl,?_,rfl,?_,?_,?_,rfl,?_,rfl,?_,?_,?_,lb⟩
  all_goals simp[LH,Wr,Yf,cF,gJ,kJ,yG,ng,P0,KG,Ky.lt,kn1,kn2,kn3,la,lb,lc]
  all_goals try omega
 ·refine⟨tc,by decide,rfl,rfl,rfl,rfl,rfl,rfl,?_,rfl,?_,?_,?_,rfl,?_,rfl,?_,?_,?_,lc⟩
  all_goals simp[LH,Wr,Yf,cF,gJ,kJ,yG,ng,P0,KG,Ky.lt,kn1,kn2,kn3,la,lb,lc]
  all_goals try omega
end
end
end
section
noncomputable section
section
variable [Tabs]
variable {h h0:ae}{M:List Nat}{L R:Own}{Q:QT}{K:AV→Prop}{i:Nat}{b:BuM}
theorem GA {α:Type}{enc:α→List AV}(h:∀ x,(enc x).all AV.one=true):∀ l:List α,(l.flatMap enc).all AV.one=true
 | []=>rfl
 | a::l=>by rw[List.flatMap_cons,List.all_append,h a,GA h l];rfl
theorem Dq (hF:cy) (hI:gq) (hA:je) (hL:dN) {frags:List Fg}{syms:List Sy}{fv sv:AV}(rf:∀ h' L1,St h0 M h' (L1++R)→Row frE 2 h' fv frags) (rs:∀ h',Row syE 2 h' sv syms) (hw:Few frags syms) (hp:0≤b.parsed∧b.parsed<1000000000) (s:BuS h0 M h i b R)
  (k:∀ v h',BuS h0 M h' i (cF b frags) R→Q v h'):C cq [.ptr i 0,fv,sv] h Q:=
 Pu hF hI hA hL rf (fun h' _ _=>rs h') hw hp s (fun _ h' s'=>k _ h' s') (fun _ h' s'=>k _ h' s')
theorem Zd {sz i n k:Nat}(h:k≤n) (q:K (.sl i 0 k sz)):ir sz (.sl i 0 n sz) none (some (I (k:Nat))) K:=Pm (by omega) (by omega) (by simpa using q)
theorem ZY {sz i n k:Nat}(h:k+1≤n) (q:K (.sl i ((k+1)*sz) (n-(k+1)) sz)):ir sz (.sl i 0 n sz) (some (I (((k:Nat):Int)+1))) none K:=Yb (by omega) (by omega) (by rw[show (((k:Nat):Int)+1).toNat=k+1 by omega];exact q)
theorem TV (hk:abn) (hF:cy) (hI:gq) (hA:je) (hL:dN) (hW:tB) (hR:yl) {s:Shp}(ho:abr s) {times at_:Int}(ht:inI times) (ha:inI at_) (k:∀ h',Q (B true) h'):C mi [.agg (shE s),I times,I at_] h Q:=by
 refine Cf _ _ _ _ _ ?_
 unfold x8
 refine bR (St.start h) rfl fun j1 h1 s1=>?_
 have s1:St h [] h1 [(j1,true,.cells (shE s))]:=s1
 refine hk _ _ (bP (ah (fun h=>by cases h) (fun _=>?_)))
 refine aK s1 (.head _) (nle rfl) ?_
 refine Zb ho (fun hf h2 f2=>?_) (fun h2 f2=>bP (ah (fun _=>k _) (fun h=>by cases h)))
 refine bP (ah (fun h=>by cases h) (fun _=>?_))
 have s2:=s1.call f2
 refine aK s2 (.head _) (nle rfl) ?_
 refine Wm hW hR ho hf fun ta tb tc ys h3 la lb lc ly f3=>?_
 have s3:=(s2.call f3).drop1
 refine aF rfl (aF rfl ?_)
 refine XJ s3 fun i h4 s4=>?_
 refine W5 (ah (fun h=>by cases h) (fun _=>?_))
 obtain⟨kk,hkk⟩:=Int.eq_ofNat_of_zero_le (Int.emod_nonneg at_ (show (3:Int)≠0 by decide))
 have hk3:kk<3:=by have:=Int.emod_lt_of_pos at_ (show (0:Int)<3 by decide);omega
 obtain⟨t,A⟩:=Xm kk hk3 ta tb tc la lb lc
 generalize hFr:LH ta tb tc=F at A ⊢
 generalize Wr kk ta tb tc=G at A
 generalize Yf kk ta tb tc=D at A
 have eF:(.full 3 (F.flatMap frE):AV)=.full F.length (F.flatMap frE):=by rw[A.lenF]
 have RF:∀ h',Row frE 2 h' (.full 3 (F.flatMap frE)) F:=fun h'=>by rw[eF];exact Row.full (enc:=frE) (sz:=2) (fun _=>rfl) F
 have RY:∀ h',Row syE 2 h' (.snap ys.length (ys.flatMap syE)) ys:=fun h'=>Row.snap (enc:=syE) (sz:=2) (fun _=>rfl) ys
 have W:∀ {X:List Fg} {Y:List Sy},X.length≤3→Y.length≤4→(∀ x∈X,x.2.length≤601)→Few X Y:=fun h1 h2 h3=>abD (by omega) (by omega) fun x hx=>Nat.le_trans (h3 x hx) (by decide)
 refine aP (fun n vs h'=>∃ (j:Nat) (b:BuM),vs=[I (j:Nat)]∧n+j=5∧(b=cF bu0 F∨(b=bu0∧j=0))∧BuS h [] h' i b []) 5 ⟨0,_,rfl,rfl,.inr ⟨rfl,rfl⟩,s4⟩ ?_
 rintro n vs h5 ⟨j,b,rfl,hn,hb,s5⟩
 unfold qM
 refine wS (by decide) (by decide) ht ?_
 have hm0:=Int.emod_nonneg times (show (4:Int)≠0 by decide)
 have hm4:=Int.emod_lt_of_pos times (show (0:Int)<4 by decide)
 refine eT (ah (fun hc=>?_) (fun hc=>?_))
 ·have hc:=of_decide_eq_true hc
  have hp:0≤b.parsed∧b.parsed<1000000000:=by
   rcases hb with rfl|⟨rfl,_⟩
   ·rw[A.p1];decide
   ·decide
  have hb2:cF b F=cF bu0 F:=by
   rcases hb with rfl|⟨rfl,_⟩
   ·exact A.b1
   ·rfl
  have go:∀ h',BuS h [] h' i (cF b F) []→ai .add (I (j:Nat)) (I 1) fun t31=>∃ m,m<n∧∃ (j:Nat) (b:BuM),[t31]=[I (j:Nat)]∧m+j=5∧(b=cF bu0 F∨(b=bu0∧j=0))∧BuS h [] h' i b []:=fun h' s'=>by
   refine aH (by omega) ?_
   exact⟨n-1,by omega,j+1,_,rfl,by omega,.inl hb2,s'⟩
  exact Pu hF hI hA hL (fun h' _ _=>RF h') (fun h' _ _=>RY h') (W (by rw[A.lenF];decide) ly fun x hx=>Nat.le_trans (A.fF x hx) (by decide)) hp s5 (fun _ h' s'=>go h' s') (fun _ h' s'=>go h' s')
 have hc:=of_decide_eq_false hc
 have hb:b=cF bu0 F:=hb.resolve_right fun h=>by omega
 subst hb
 refine rc s5 ?_
 rw[A.p1]
 refine bT (ah (fun h=>by simp at h) (fun _=>?_))
 refine Db s5 ?_
 rw[A.o1]
 refine bT (ah (fun h=>by simp at h) (fun _=>?_))
 refine wS (by decide) (by decide) ha ?_
 rw[hkk]
 refine aB rfl rfl ?_
 obtain⟨j6,o6,ov6,E6,m6,a6,s5⟩:=s5
 refine (AccE.none 2).app (E:=[]) s5 (xs:=F.flatMap frE) (m:=3) (show Rd h5 2 (.full 3 (F.flatMap frE)) 3 (F.flatMap frE) from by have:=RF h5;unfold Row at this;rwa [A.lenF]at this) (GA (fun _=>rfl) _) (by decide) fun v7 E7 h7 a7 s7=>?_
 obtain⟨hl7,g,rfl,rfl⟩:=a7.resolve_left fun h=>by have:=h.1;omega
 rw[List.nil_append]at s7 hl7
 refine yg (n:=3) (j:=kk) (by omega) (aj (af s7 (.head _) A.at_ ?_))
 have tl:=A.tl
 refine dU (by simp;omega) ?_
 refine yg (n:=3) (j:=kk) (by omega) (aj ?_)
 refine ay (o:=kk*2+1) (cs:=F.flatMap frE) s7 .head rfl rfl rfl ?_ fun h8 s8=>?_
 ·omega
 rw[show splice (List.flatMap frE F) (kk*2+1) (AV.cells (T (t++[35])))=List.flatMap frE G from A.put]at s8
 have S8:BuS h [] h8 i (cF bu0 F) [(g,true,.cells (G.flatMap frE))]:=BuS.add s8 ⟨j6,o6,ov6,E6,m6,a6,rfl⟩
 have RG:∀ {h':ae} {E' L1:Own},St h [] h' (L1++(E'++[(g,true,.cells (G.flatMap frE))]))→Row frE 2 h' (.sl g 0 3 2) G:=fun {h' E' L1} s=>by
  have:=Row.sl (enc:=frE) (sz:=2) (fun _=>rfl) (s.get (i:=g) (b:=true) (o:=.cells (G.flatMap frE)) (by simp))
  rwa [A.lenG]at this
 have WG:∀ {Y:List Sy},Y.length≤4→Few G Y:=fun h=>W (by rw[A.lenG];decide) h A.fG
 refine Dq hF hI hA hL (R:=[(g,true,.cells (G.flatMap frE))]) (frags:=G) (syms:=[]) (fun h' L1 s=>RG (E':=[]) s) (fun h'=>Row.nil) (WG (by simp)) (by rw[A.p1];decide) S8 fun _ h9 S9=>?_
 refine rc S9 ?_
 rw[A.p2]
 refine bT (ah (fun h=>by simp at h) (fun _=>?_))
 obtain⟨j9,o9,ov9,E9,m9,a9,s9⟩:=S9
 refine aB rfl rfl ?_
 refine Zd (by omega) ?_
 refine aH (by omega) ?_
 refine ZY (by omega) ?_
 have hg:h9[g]?=some (.cells (G.flatMap frE)):=s9.get (i:=g) (b:=true) (by simp)
 have hGl:(G.flatMap frE).length=6:=by rw[fM frE 2 (fun _=>rfl),A.lenG]
 have oneG:(G.flatMap frE).all AV.one=true:=GA (fun _=>rfl) _
 have r1:Rd h9 2 (.sl g 0 kk 2) kk ((G.flatMap frE).take (kk*2)):=by
  have:=Rd.sl (sz:=2) (n:=kk) (o:=0) hg (by omega)
  simpa using this
 refine (AccE.none 2).app (E:=[]) s9 r1 (List.all_eq_true.2 fun x hx=>List.all_eq_true.1 oneG x (List.mem_of_mem_take hx)) (by omega) fun v10 E10 h10 a10 s10=>?_
 have hg2:h10[g]?=some (.cells (G.flatMap frE)):=s10.get (i:=g) (b:=true) (by simp)
 have r2:Rd h10 2 (.sl g ((kk+1)*2) (3-(kk+1)) 2) (3-(kk+1)) ((G.flatMap frE).drop ((kk+1)*2)):=by
  have:=Rd.sl (sz:=2) (n:=3-(kk+1)) (o:=(kk+1)*2) hg2 (by omega)
  rwa [List.take_of_length_le (by rw[List.length_drop];omega)]at this
 refine a10.app s10 r2 (List.all_eq_true.2 fun x hx=>List.all_eq_true.1 oneG x (List.mem_of_mem_drop hx)) (by omega) fun v11 E11 h11 a11 s11=>?_
 rw[List.nil_append,A.cut,show 0+kk+(3-(kk+1))=2 by omega]at a11
 have S11:=BuS.app (R:=[(g,true,.cells (G.flatMap frE))]) s11 ⟨j9,o9,ov9,E9,m9,a9,rfl⟩
 refine Dq hF hI hA hL (frags:=D) (syms:=ys) (fun h' L1 s=>by
  have:=a11.rd s.swap
  unfold Row;rwa [A.lenD]) RY (W (by rw[A.lenD];decide) ly A.fD) (by rw[A.p2];decide) S11 fun _ h12 S12=>?_
 refine rc S12 ?_
 rw[A.p3]
 refine bT (ah (fun h=>by simp at h) (fun _=>?_))
 refine Db S12 ?_
 rw[A.o3]
 refine bT (ah (fun h=>by simp at h) (fun _=>?_))
 refine Dq hF hI hA hL (frags:=G) (syms:=ys) (fun h' L1 s=>RG (E':=E11) s) RY (WG ly) (by rw[A.p3];decide) S12 fun _ h13 S13=>?_
 refine rc S13 ?_
 rw[A.p4]
 refine aA (ah (fun _=>?_) (fun h=>by simp at h))
 refine Db S13 ?_
 rw[A.o4]
 exact aA (k _)
end
end
end
section
noncomputable section
theorem U2 [Tabs]:(tbl.all fun r=>Mf Pg tb5 XV 100 n5 [T r.kinds] .leaf 0 fun v t _=>KW (.snap (cT r.kinds).length ((cT r.kinds).flatMap sE)) v t)=true:=by kernel_rfl
theorem YQ [Tabs]:(tbl.all fun r=>(cT r.kinds).all fun k=>Mf Pg tb5 XV 100 jM [T k] .leaf 0 fun v t _=>KW (B (Kg (lA k))) v t)=true:=by kernel_rfl
theorem aaN:∀ l:List Str,clL (l.flatMap sE)=true
 | []=>rfl
 | a::l=>by show (cl (T a)&&clL (l.flatMap sE))=true;rw[aaN l];rfl
variable [Tabs5]
theorem Wa:tB:=fun r hr h Q q=>lH Tabs5.tb tJ (d:=100) (.snap (cT r.kinds).length ((cT r.kinds).flatMap sE)) rfl (aaN _) (List.all_eq_true.1 U2 r hr) q
theorem Z7:yl:=fun r hr k hk h Q q=>lH Tabs5.tb tJ (d:=100) (B (Kg (lA k))) rfl rfl (List.all_eq_true.1 (List.all_eq_true.1 YQ r hr) k hk) q
end
end
section
noncomputable section
open Go Go.ChangeShapes Go.WideShapes Go.RowKit Go.Deep
section
variable [Tabs]
variable {H:Type}{enc:TypeId×Value→H}{P:Program}{W:World}
theorem RepAt.app {G:Gh}{b:Nat}:∀ {az bs:List AV}{o:Nat},RepAt G az b o→RepAt G bs b (o+az.length)→RepAt G (az++bs) b o
 | [],bs,o,_,h=>by simpa using h
 | a::az,bs,o,h1,h2=>by
   simp only[RepAt]at h1
   simp only[List.cons_append,RepAt]
   exact⟨h1.1,h1.2.app (by rw[List.length_cons]at h2;rwa [show o+1+az.length=o+(az.length+1) by omega])⟩
theorem OD {G:Gh}{az:List AV}{vs:List Value}{b o:Nat}(h:RepL G az vs) (hc:∀ j v,vs[j]?=some v→G.F b (o+j)=some v):RepAt G az b o:=
 jq fun j a e=>by
  obtain⟨v,h1,h2⟩:=h.at j a e
  exact⟨v,hc j v h1,h2⟩
theorem FX {α:Type}{f:α→List AV}{sz:Nat}{G:Gh}{b:Nat}(hs:∀ x,(f x).length=sz):∀ (l:List α) (o:Nat),(∀ (i:Nat) (hi:i<l.length),∃ vs:List Value,RepL G (f l[i]) vs∧∀ j v,vs[j]?=some v→G.F b (o+i*sz+j)=some v)→RepAt G (l.flatMap f) b o
 | [],o,_=>by simp[RepAt]
 | x::l,o,h=>by
   rw[List.flatMap_cons]
   refine RepAt.app ?_ ?_
   ·obtain⟨vs,h1,h2⟩:=h 0 (by simp)
    exact OD h1 fun j v e=>by simpa using h2 j v e
   ·rw[hs]
    refine FX hs l _ fun i hi=>?_
    obtain⟨vs,h1,h2⟩:=h (i+1) (by simpa using hi)
    refine⟨vs,by simpa using h1,fun j v e=>?_⟩
    have:=h2 j v e
    rwa [show o+(i+1)*sz+j=o+sz+i*sz+j by rw[Nat.add_mul];omega]at this
theorem UM {a:Addr}{v:Value}(h:W.cell? a=some v):a.spot=none:=by
 unfold World.cell? at h
 split at h
 ·split at h
  ·cases h
  ·rename_i hs;simpa using hs
 ·cases h
theorem yh {α:Type}{f:α→List AV}{good:α→Prop}{t e:TypeId}{sz n:Nat}{cs:List Value}{x:DataW H×List MemPlace}(ht:P.underlying t=some (.slice e)) (hc:P.cellsOf e=sz) (hz:0<sz) (hs:∀ x,(f x).length=sz)
  (elem:∀ n',n'<n→∀ cs y,DataW.trod enc P W 0 (fun _=>true) true n' e cs=some y→∃ a:α,good a∧RepL (G0 W) (f a) cs) (h:DataW.trod enc P W 0 (fun _=>true) true n t cs=some x):
  ∃ l:List α,(∀ a∈l,good a)∧l.length≤maxLen∧∃ v,cs=[v]∧Rep (G0 W) (.snap l.length (l.flatMap f)) v:=by
 rcases DataW.trod_slice ht h with ⟨rfl,_⟩|⟨a,len,cap,elems,rest,n',hn,rfl,_,hb,hl,hm,hlen,hel,hsp,_⟩
 ·exact⟨[],by simp,Nat.zero_le _,_,rfl,by simp[Rep]⟩
 have hsp:=hsp rfl
 rw[hc]at hsp hel
 have one:∀ i,i<len→∃ y cs',W.cells? 0 (a.add (i*sz)) sz=some cs'∧DataW.trod enc P W 0 (fun _=>true) true n' e cs'=some y:=fun i hi=>by
  have:=hel i hi
  rw[List.getElem?_eq_getElem (by omega)]at this
  obtain⟨cs',h1,h2⟩:=Option.bind_eq_some_iff.1 this
  exact⟨_,cs',h1,h2⟩
 have hspot:0<cap→a.spot=none:=fun h0=>by
  have:∃ cs',W.cells? 0 (a.add 0) sz=some cs':=by
   by_cases h1:0<len
   ·obtain⟨y,cs',h2,_⟩:=one 0 h1
    rw[Nat.zero_mul]at h2
    exact⟨cs',h2⟩
   ·have hl0:len=0:=by omega
    subst hl0
    have:=hsp.2 0 (by omega)
    rw[List.getElem?_eq_getElem (by rw[hsp.1];omega)]at this
    obtain⟨cs',h1,h2⟩:=Option.bind_eq_some_iff.1 this
    simp at h1
    exact⟨cs',h1⟩
  obtain⟨cs',h1⟩:=this
  obtain⟨_,h2,h3⟩:=World.cells?_some h1
  have h4:=h3 0 hz
  rw[List.getElem?_eq_getElem (by omega)]at h4
  have:=UM h4
  simpa [Addr.add] using this
 by_cases h0:cap=0
 ·subst h0
  have:len=0:=by omega
  subst this
  exact⟨[],by simp,Nat.zero_le _,_,rfl,by simp[Rep]⟩
 have hs0:=hspot (by omega)
 obtain⟨b,o,sp⟩:=a
 simp only at hs0
 subst hs0
 have all:∀ k,k≤len→∃ l:List α,l.length=k∧(∀ a∈l,good a)∧∀ (i:Nat) (hi:i<l.length),∃ vs:List Value,RepL (G0 W) (f l[i]) vs∧∀ j v,vs[j]?=some v→(G0 W).F b (o+i*sz+j)=some v:=fun k=>by
  induction k with
  | zero=>exact fun _=>⟨[],rfl,by simp,fun i hi=>by simp at hi⟩
  | succ k ih=>
    intro hk
    obtain⟨l,h1,h2,h3⟩:=ih (by omega)
    obtain⟨y,cs',h4,h5⟩:=one k (by omega)
    obtain⟨x,hx,hr⟩:=elem n' (by omega) cs' y h5
    refine⟨l++[x],by simp[h1],fun a ha=>?_,fun i hi=>?_⟩
    ·rcases List.mem_append.1 ha with ha|ha
     ·exact h2 a ha
     ·simp at ha;subst ha;exact hx
    ·by_cases hik:i<l.length
     ·rw[List.getElem_append_left hik];exact h3 i hik
     ·have:i=k:=by simp at hi;omega
      subst this
      refine⟨cs',by rw[List.getElem_append_right (by omega)];simpa [h1] using hr,fun j v e=>?_⟩
      obtain⟨_,h6,h7⟩:=World.cells?_some h4
      have hj:j<sz:=by have:=(List.getElem?_eq_some_iff.1 e).1;omega
      have:=h7 j hj
      rw[e,dF,dF]at this
      exact this
 obtain⟨l,h1,h2,h3⟩:=all len (Nat.le_refl _)
 refine⟨l,h2,by omega,_,rfl,?_⟩
 simp only[Rep]
 rw[h1]
 exact .inr ⟨b,o,cap,hl,rfl,FX hs l o h3⟩
theorem ej {f:Field}{cs:List Value}{i:Nat}(h:f.offset=i∧P.cellsOf f.type=1) {v:Value}(hv:cs[i]?=some v):(cs.drop f.offset).take (P.cellsOf f.type)=[v]:=by
 rw[h.1,h.2]
 rw[List.drop_eq_getElem_cons (List.getElem?_eq_some_iff.1 hv).1]
 simp[(List.getElem?_eq_some_iff.1 hv).2]
theorem Yg {tS tE:TypeId}{f0 f1 f2:Field}(hS:P.underlying tS=some (.slice tE)) (hE:P.underlying tE=some (.struct #[f0,f1,f2])) (hone:oneCellFields P #[f0,f1,f2]=true) (hC:P.cellsOf tE=3)
  (h0:P.underlying f0.type=some (.int .i64)) (h1:P.underlying f1.type=some (.int .i64)) (h2:f2.type=tS):∀ (n:Nat) (cs:List Value) (x:DataW H×List MemPlace),DataW.trod enc P W 0 (fun _=>true) true n tS cs=some x→
  ∃ l:List RE,(∀ r∈l,okR r)∧l.length≤maxLen∧∃ v,cs=[v]∧Rep (G0 W) (.snap l.length (l.flatMap xrE)) v:=by
 intro n
 induction n using Nat.strongRecOn with
 | ind n ih=>
   intro cs x h
   refine yh hS hC (by decide) uR (fun n' hn cs y hy=>?_) h
   obtain⟨xs,m,hm,_,hl,hlen,hf⟩:=DataW.trod_struct hE hy
   have hon:=hone_of hone
   rw[hC]at hl
   match cs,hl with
   | [v0,v1,v2],_=>
     have e0:=hf 0 f0 rfl
     have e1:=hf 1 f1 rfl
     have e2:=hf 2 f2 rfl
     rw[ej (hon 0 f0 rfl) (v:=v0) rfl,List.getElem?_eq_getElem (by rw[hlen];simp)]at e0
     rw[ej (hon 1 f1 rfl) (v:=v1) rfl,List.getElem?_eq_getElem (by rw[hlen];simp)]at e1
     rw[ej (hon 2 f2 rfl) (v:=v2) rfl,List.getElem?_eq_getElem (by rw[hlen];simp),h2]at e2
     obtain⟨k,hk,_,wk⟩:=DataW.trod_int h0 e0
     obtain⟨q,hq,_,wq⟩:=DataW.trod_int h1 e1
     obtain⟨l,hl1,hl2,v,hv,hr⟩:=ih m (by omega) _ _ e2
     simp at hk hq hv
     subst hk hq hv
     simp only[Lit.wf,Bool.and_eq_true,decide_eq_true_eq]at wk wq
     refine⟨.mk k q l,?_,?_⟩
     ·simp only[okR]
      refine⟨wk,wq,Nat.le_trans hl2 (by decide),?_⟩
      clear hr hl2 e2 h
      induction l with
      | nil=>simp[EN]
      | cons a l ih2=>simp only[EN];exact⟨hl1 a (.head _),ih2 fun r hr=>hl1 r (.tail _ hr)⟩
     ·simp only[xrE,MM,RepL]
      exact⟨_,_,rfl,by simp[Rep,Value.oneCell'],_,_,rfl,by simp[Rep,Value.oneCell'],_,_,rfl,hr,rfl⟩
theorem Ay {tS tE:TypeId}{f0 f1 f2 f3 f4 f5:Field}{tI tX tY:TypeId}{g0 g1 g2:Field}{n:Nat}{cs:List Value}{x:DataW H×List MemPlace}(hS:P.underlying tS=some (.slice tE)) (hE:P.underlying tE=some (.struct #[f0,f1,f2,f3,f4,f5])) (hone:oneCellFields P #[f0,f1,f2,f3,f4,f5]=true) (hC:P.cellsOf tE=6)
  (h0:P.underlying f0.type=some (.int .i64)) (h1:P.underlying f1.type=some (.int .i64)) (h2:P.underlying f2.type=some (.int .i64)) (h3:P.underlying f3.type=some (.slice tI)) (hI:P.underlying tI=some (.int .i64)) (cI:P.cellsOf tI=1) (h4:f4.type=tX) (h5:P.underlying f5.type=some .bool)
  (hX:P.underlying tX=some (.slice tY)) (hY:P.underlying tY=some (.struct #[g0,g1,g2])) (hone2:oneCellFields P #[g0,g1,g2]=true) (hC2:P.cellsOf tY=3) (k0:P.underlying g0.type=some (.int .i64)) (k1:P.underlying g1.type=some (.int .i64)) (k2:g2.type=tX)
  (h:DataW.trod enc P W 0 (fun _=>true) true n tS cs=some x):
  ∃ l:List RW,(∀ r∈l,okW r)∧l.length≤maxLen∧∃ v,cs=[v]∧Rep (G0 W) (.snap l.length (l.flatMap rwE)) v:=by
 exact yh (good:=okW) hS hC (by decide) uB (fun n' hn cs y hy=>by
  obtain⟨xs,m,hm,_,hl,hlen,hf⟩:=DataW.trod_struct hE hy
  have hon:=hone_of hone
  rw[hC]at hl
  match cs,hl with
  | [v0,v1,v2,v3,v4,v5],_=>
    have e0:=hf 0 f0 rfl
    have e1:=hf 1 f1 rfl
    have e2:=hf 2 f2 rfl
    have e3:=hf 3 f3 rfl
    have e4:=hf 4 f4 rfl
    have e5:=hf 5 f5 rfl
    rw[ej (hon 0 f0 rfl) (v:=v0) rfl,List.getElem?_eq_getElem (by rw[hlen];simp)]at e0
    rw[ej (hon 1 f1 rfl) (v:=v1) rfl,List.getElem?_eq_getElem (by rw[hlen];simp)]at e1
    rw[ej (hon 2 f2 rfl) (v:=v2) rfl,List.getElem?_eq_getElem (by rw[hlen];simp)]at e2
    rw[ej (hon 3 f3 rfl) (v:=v3) rfl,List.getElem?_eq_getElem (by rw[hlen];simp)]at e3
    rw[ej (hon 4 f4 rfl) (v:=v4) rfl,List.getElem?_eq_getElem (by rw[hlen];simp),h4]at e4
    rw[ej (hon 5 f5 rfl) (v:=v5) rfl,List.getElem?_eq_getElem (by rw[hlen];simp)]at e5
    obtain⟨k,hk,_,wk⟩:=DataW.trod_int h0 e0
    obtain⟨q,hq,_,wq⟩:=DataW.trod_int h1 e1
    obtain⟨p,hp,_,wp⟩:=DataW.trod_int h2 e2
    obtain⟨ns,hn1,hn2,u,hu,hru⟩:=yh (f:=fun n:Int=>[I n]) (good:=inI) h3 cI (by decide) (fun _=>rfl) (fun n' _ cs y hy=>by
     obtain⟨z,rfl,_,wz⟩:=DataW.trod_int hI hy
     simp only[Lit.wf,Bool.and_eq_true,decide_eq_true_eq]at wz
     exact⟨z,wz,by simp[RepL,Rep,Value.oneCell']⟩) e3
    obtain⟨xl,hx1,hx2,w,hw,hrw⟩:=Yg hX hY hone2 hC2 k0 k1 k2 _ _ _ e4
    obtain⟨bb,hb,_⟩:=DataW.trod_bool h5 e5
    simp at hk hq hp hu hw hb
    subst hk hq hp hu hw hb
    simp only[Lit.wf,Bool.and_eq_true,decide_eq_true_eq]at wk wq wp
    refine⟨⟨k,q,p,ns,xl,bb⟩,⟨wk,wq,wp,hn1,Nat.le_trans hn2 (by decide),Nat.le_trans hx2 (by decide),?_⟩,?_⟩
    ·clear hrw hx2 e4
     induction xl with
     | nil=>simp[EN]
     | cons a l ih2=>simp only[EN];exact⟨hx1 a (.head _),ih2 fun r hr=>hx1 r (.tail _ hr)⟩
    ·simp only[rwE,MM,RepL]
     exact⟨_,_,rfl,by simp[Rep,Value.oneCell'],_,_,rfl,by simp[Rep,Value.oneCell'],_,_,rfl,by simp[Rep,Value.oneCell'],_,_,rfl,hru,_,_,rfl,hrw,_,_,rfl,by simp[Rep,Value.oneCell'],rfl⟩) h
end
end
end
section
noncomputable section
open Go Go.ChangeShapes Go.WideShapes Go.RowKit Go.Deep
section
variable [Tabs]
variable {H:Type}{enc:TypeId×Value→H}{P:Program}{W:World}
theorem Gx {tI tN:TypeId}{n:Nat}{cs:List Value}{x:DataW H×List MemPlace}(h3:P.underlying tN=some (.slice tI)) (hI:P.underlying tI=some (.int .i64)) (cI:P.cellsOf tI=1) (h:DataW.trod enc P W 0 (fun _=>true) true n tN cs=some x):
  ∃ l:List Int,(∀ r∈l,inI r)∧l.length≤maxLen∧∃ v,cs=[v]∧Rep (G0 W) (.snap l.length (l.flatMap fun n=>[I n])) v:=
 yh (f:=fun n:Int=>[I n]) (good:=inI) h3 cI (by decide) (fun _=>rfl) (fun n' _ cs y hy=>by
  obtain⟨z,rfl,_,wz⟩:=DataW.trod_int hI hy
  simp only[Lit.wf,Bool.and_eq_true,decide_eq_true_eq]at wz
  exact⟨z,wz,by simp[RepL,Rep,Value.oneCell']⟩) h
theorem Rc {tZ:TypeId}{z0 z1 z2 z3 z4:Field}{tN:TypeId}{tS tE:TypeId}{f0 f1 f2 f3 f4 f5:Field}{tI tX tY:TypeId}{g0 g1 g2:Field}{r:Reach}{b0:Nat}{v:Value}{d:DataW H}{ps:List MemPlace}(hZ:P.underlying tZ=some (.struct #[z0,z1,z2,z3,z4])) (honeZ:oneCellFields P #[z0,z1,z2,z3,z4]=true) (hCZ:P.cellsOf tZ=5)
  (y0:z0.type=tS) (y1:z1.type=tS) (y2:z2.type=tS) (y3:z3.type=tN) (y4:z4.type=tN) (hN:P.underlying tN=some (.slice tI))
  (hS:P.underlying tS=some (.slice tE)) (hE:P.underlying tE=some (.struct #[f0,f1,f2,f3,f4,f5])) (hone:oneCellFields P #[f0,f1,f2,f3,f4,f5]=true) (hC:P.cellsOf tE=6)
  (h0:P.underlying f0.type=some (.int .i64)) (h1:P.underlying f1.type=some (.int .i64)) (h2:P.underlying f2.type=some (.int .i64)) (h3:P.underlying f3.type=some (.slice tI)) (hI:P.underlying tI=some (.int .i64)) (cI:P.cellsOf tI=1) (h4:f4.type=tX) (h5:P.underlying f5.type=some .bool)
  (hX:P.underlying tX=some (.slice tY)) (hY:P.underlying tY=some (.struct #[g0,g1,g2])) (hone2:oneCellFields P #[g0,g1,g2]=true) (hC2:P.cellsOf tY=3) (k0:P.underlying g0.type=some (.int .i64)) (k1:P.underlying g1.type=some (.int .i64)) (k2:g2.type=tX)
  (hval:Value.okWide P W r b0 tZ v) (hd:DataW.Trod enc P W 0 (fun _=>true) true tZ v d ps):
  ∃ (A B C:List RW) (ns ys:List Int),((∀ r∈A,okW r)∧(∀ r∈B,okW r)∧(∀ r∈C,okW r)∧(∀ n∈ns,inI n)∧(∀ n∈ys,inI n))∧(A.length≤maxLen∧B.length≤maxLen∧C.length≤maxLen∧ns.length≤maxLen∧ys.length≤maxLen)∧
    Rep (G0 W) (.agg [.snap A.length (A.flatMap rwE),.snap B.length (B.flatMap rwE),.snap C.length (C.flatMap rwE),.snap ns.length (ns.flatMap fun n=>[I n]),.snap ys.length (ys.flatMap fun n=>[I n])]) v:=by
 obtain⟨cs,rfl,hsz⟩:=okWide_struct hZ hval
 obtain⟨n,h⟩:=hd
 obtain⟨xs,m,hm,_,hl,hlen,hf⟩:=DataW.trod_struct hZ h
 have hon:=hone_of honeZ
 have hl:cs.toList.length=5:=by simpa [hCZ] using hsz
 have hcs:cs=cs.toList.toArray:=by simp
 generalize cs.toList=l5 at hl hcs
 subst hcs
 match l5,hl with
 | [v0,v1,v2,v3,v4],_=>
   have e0:=hf 0 z0 rfl
   have e1:=hf 1 z1 rfl
   have e2:=hf 2 z2 rfl
   have e3:=hf 3 z3 rfl
   have e4:=hf 4 z4 rfl
   simp only[Value.cells]at e0 e1 e2 e3 e4
   rw[ej (hon 0 z0 rfl) (v:=v0) rfl,List.getElem?_eq_getElem (by rw[hlen];simp),y0]at e0
   rw[ej (hon 1 z1 rfl) (v:=v1) rfl,List.getElem?_eq_getElem (by rw[hlen];simp),y1]at e1
   rw[ej (hon 2 z2 rfl) (v:=v2) rfl,List.getElem?_eq_getElem (by rw[hlen];simp),y2]at e2
   rw[ej (hon 3 z3 rfl) (v:=v3) rfl,List.getElem?_eq_getElem (by rw[hlen];simp),y3]at e3
   rw[ej (hon 4 z4 rfl) (v:=v4) rfl,List.getElem?_eq_getElem (by rw[hlen];simp),y4]at e4
   obtain⟨A,a1,a2,u0,p0,q0⟩:=Ay hS hE hone hC h0 h1 h2 h3 hI cI h4 h5 hX hY hone2 hC2 k0 k1 k2 e0
   obtain⟨B,b1,b2,u1,p1,q1⟩:=Ay hS hE hone hC h0 h1 h2 h3 hI cI h4 h5 hX hY hone2 hC2 k0 k1 k2 e1
   obtain⟨C,c1,c2,u2,p2,q2⟩:=Ay hS hE hone hC h0 h1 h2 h3 hI cI h4 h5 hX hY hone2 hC2 k0 k1 k2 e2
   obtain⟨ns,n1,n2,u3,p3,q3⟩:=Gx hN hI cI e3
   obtain⟨ys,m1,m2,u4,p4,q4⟩:=Gx hN hI cI e4
   simp at p0 p1 p2 p3 p4
   subst p0 p1 p2 p3 p4
   refine⟨A,B,C,ns,ys,⟨a1,b1,c1,n1,m1⟩,⟨a2,b2,c2,n2,m2⟩,?_⟩
   simp only[Rep,RepL]
   exact⟨_,rfl,_,_,rfl,by simpa [Rep] using q0,_,_,rfl,by simpa [Rep] using q1,_,_,rfl,by simpa [Rep] using q2,_,_,rfl,by simpa [Rep] using q3,_,_,rfl,by simpa [Rep] using q4,rfl⟩
end
end
end
section
noncomputable section
variable [Tabs5]
theorem Hy {l1 l2 l3:List RW}{ns ys:List Int}(w:(∀ r∈l1,okW r)∧(∀ r∈l2,okW r)∧(∀ r∈l3,okW r)∧(∀ n∈ns,inI n)∧(∀ n∈ys,inI n)) (z:l1.length≤maxLen∧l2.length≤maxLen∧l3.length≤maxLen∧ns.length≤maxLen∧ys.length≤maxLen) {t a:Int}(ht:inI t) (ha:inI a) {h:ae}{Q:QT}(k:∀ h',Q (B true) h'):
  C mi [.agg [.snap l1.length (l1.flatMap rwE),.snap l2.length (l2.flatMap rwE),.snap l3.length (l3.flatMap rwE),.snap ns.length (ns.flatMap fun n=>[I n]),.snap ys.length (ys.flatMap fun n=>[I n])],I t,I a] h Q:=by
 obtain⟨z1,z2,z3,z4,z5⟩:=z
 have m:maxLen≤9223372036854775807:=by decide
 exact TV (s:=⟨l1,l2,l3,ns,ys⟩) (fun h Q q=>aby h Q q) V8 Y4 abF Z4 Wa Z7 ⟨w,Nat.le_trans z1 m,Nat.le_trans z2 m,Nat.le_trans z3 m,Nat.le_trans z4 m,Nat.le_trans z5 m⟩ ht ha k
end
end
end Go.Proofs.YtgkmmcdhhkllnaaGreatDoor.AL
