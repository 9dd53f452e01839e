import Derived.Calls
import Derived.Orders
import Derived.Laws.Sem
import Derived.Laws.World
import Derived.Laws.Cells
import Derived.Laws.CopyRow
import Derived.Laws.Entries
import Derived.MapKept
set_option linter.all false
set_option autoImplicit true
set_option relaxedAutoImplicit true
set_option maxRecDepth 100000
namespace Go.Proofs.YtgkmmcdhhkllnaaGreatDoor.AL
section
inductive AV where
 | lit (v:Value)
 | ptr (i off:Nat)
 | cptr (cs:List AV)
 | sl (i off len sz:Nat)
 | snap (n:Nat) (cs:List AV)
 | full (n:Nat) (cs:List AV)
 | map (i:Nat)
 | fn (f:Fn) (first captured:List AV)
 | iface (t:TypeId) (v:AV)
 | agg (cs:List AV)
 | tup (vs:List AV)
 | sym (j:Nat)
 deriving Inhabited
def AV.cells:AV→List AV
 | .agg cs=>cs
 | v=>[v]
inductive AObj where
 | cells (cs:List AV)
 | amap (es:List (Value×Nat×AV)) (clock:Nat)
 | siter (s:ByteArray) (pos:Nat)
 | miter (m:Option Nat) (since:Nat) (seen:List Nat) (last:Nat)
 | keys (m:Nat)
 | dead
 deriving Inhabited
def AObj.live:AObj→Bool
 | .dead=>false
 | _=>true
abbrev ae:=List AObj
abbrev QT:=AV→ae→Prop
abbrev NT:=List AV→ae→Prop
structure Gh where
 loc:Nat→Option (Nat×Nat)
 cap:Nat→Nat
 F:Nat→Nat→Option Value
class Syms where
 sy:Nat→Value
 one:∀ j,(sy j).oneCell'=true
section
variable [Syms]
mutual
def Rep (G:Gh):AV→Value→Prop
 | .lit v,x=>x=v∧v.oneCell'=true
 | .ptr i off,x=>∃ b o,G.loc i=some (b,o)∧x=.pointer (some ⟨b,o+off,none⟩)
 | .cptr cs,x=>∃ b o,x=.pointer (some ⟨b,o,none⟩)∧RepAt G cs b o
 | .sl i off len sz,x=>∃ b o c ad,G.loc i=some (b,o)∧off+c*sz≤G.cap i∧len≤c∧(0<c→ad=o+off)∧x=.slice (some ⟨b,ad,none⟩) len c
 | .snap n cs,x=>(n=0∧cs=[]∧∃ a,x=.slice a 0 0)∨∃ b o c,n≤c∧x=.slice (some ⟨b,o,none⟩) n c∧RepAt G cs b o
 | .full n cs,x=>(n=0∧cs=[]∧∃ a,x=.slice a 0 0)∨∃ b o,x=.slice (some ⟨b,o,none⟩) n n∧RepAt G cs b o
 | .map i,x=>∃ b,G.loc i=some (b,0)∧x=.map (some b)
 | .fn f fi ca,x=>∃ vs ws,x=.func f (List.toArray vs) (List.toArray ws)∧RepL G fi vs∧RepL G ca ws
 | .iface t v,x=>∃ y,x=.iface t y∧Rep G v y
 | .agg cs,x=>∃ vs,x=.agg (List.toArray vs)∧RepL G cs vs
 | .tup ts,x=>∃ vs,x=.tuple (List.toArray vs)∧RepL G ts vs
 | .sym j,x=>x=Syms.sy j
def RepL (G:Gh):List AV→List Value→Prop
 | [],vs=>vs=[]
 | a::az,vs=>∃ v ws,vs=v::ws∧Rep G a v∧RepL G az ws
def RepAt (G:Gh):List AV→Nat→Nat→Prop
 | [],_,_=>True
 | a::az,b,o=>(∃ v,G.F b o=some v∧Rep G a v)∧RepAt G az b (o+1)
end
structure Gh.le (G G':Gh):Prop where
 loc:∀ i p,G.loc i=some p→G'.loc i=some p
 cap:∀ i p,G.loc i=some p→G'.cap i=G.cap i
 F:∀ b o v,G.F b o=some v→G'.F b o=some v
theorem Gh.le.refl (G:Gh):G.le G:=⟨fun _ _ h=>h,fun _ _ _=>rfl,fun _ _ _ h=>h⟩
theorem Gh.le.trans {A B C:Gh}(h:A.le B) (k:B.le C):A.le C:=
 ⟨fun i p e=>k.loc i p (h.loc i p e),fun i p e=>(k.cap i p (h.loc i p e)).trans (h.cap i p e),fun b o v e=>k.F b o v (h.F b o v e)⟩
mutual
theorem Rep.mono {G G':Gh}(le:G.le G'):∀ (a:AV) (x:Value),Rep G a x→Rep G' a x
 | .lit v,x,h=>by simpa [Rep] using h
 | .ptr i off,x,h=>by
   simp only[Rep]at h ⊢
   obtain⟨b,o,h1,h2⟩:=h
   exact⟨b,o,le.loc _ _ h1,h2⟩
 | .cptr cs,x,h=>by
   simp only[Rep]at h ⊢
   obtain⟨b,o,h1,h2⟩:=h
   exact⟨b,o,h1,RepAt.mono le cs b o h2⟩
 | .sl i off len sz,x,h=>by
   simp only[Rep]at h ⊢
   obtain⟨b,o,c,ad,h1,h2,h3,h4⟩:=h
   exact⟨b,o,c,ad,le.loc _ _ h1,by rw[le.cap _ _ h1];exact h2,h3,h4⟩
 | .snap n cs,x,h=>by
   simp only[Rep]at h ⊢
   rcases h with h|⟨b,o,c,h1,h2,h3⟩
   ·exact .inl h
   ·exact .inr ⟨b,o,c,h1,h2,RepAt.mono le cs b o h3⟩
 | .full n cs,x,h=>by
   simp only[Rep]at h ⊢
   rcases h with h|⟨b,o,h2,h3⟩
   ·exact .inl h
   ·exact .inr ⟨b,o,h2,RepAt.mono le cs b o h3⟩
 | .map i,x,h=>by
   simp only[Rep]at h ⊢
   obtain⟨b,h1,h2⟩:=h
   exact⟨b,le.loc _ _ h1,h2⟩
 | .fn f fi ca,x,h=>by
   simp only[Rep]at h ⊢
   obtain⟨vs,ws,h1,h2,h3⟩:=h
   exact⟨vs,ws,h1,RepL.mono le fi vs h2,RepL.mono le ca ws h3⟩
 | .iface t v,x,h=>by
   simp only[Rep]at h ⊢
   obtain⟨y,h1,h2⟩:=h
   exact⟨y,h1,Rep.mono le v y h2⟩
 | .agg cs,x,h=>by
   simp only[Rep]at h ⊢
   obtain⟨vs,h1,h2⟩:=h
   exact⟨vs,h1,RepL.mono le cs vs h2⟩
 | .tup cs,x,h=>by
   simp only[Rep]at h ⊢
   obtain⟨vs,h1,h2⟩:=h
   exact⟨vs,h1,RepL.mono le cs vs h2⟩
 | .sym j,x,h=>by simpa [Rep] using h
theorem RepL.mono {G G':Gh}(le:G.le G'):∀ (az:List AV) (vs:List Value),RepL G az vs→RepL G' az vs
 | [],vs,h=>by simpa [RepL] using h
 | a::az,vs,h=>by
   simp only[RepL]at h ⊢
   obtain⟨v,ws,h1,h2,h3⟩:=h
   exact⟨v,ws,h1,Rep.mono le a v h2,RepL.mono le az ws h3⟩
theorem RepAt.mono {G G':Gh}(le:G.le G'):∀ (az:List AV) (b o:Nat),RepAt G az b o→RepAt G' az b o
 | [],b,o,_=>by simp[RepAt]
 | a::az,b,o,h=>by
   simp only[RepAt]at h ⊢
   obtain⟨⟨v,h1,h2⟩,h3⟩:=h
   exact⟨⟨v,le.F _ _ _ h1,Rep.mono le a v h2⟩,RepAt.mono le az b (o+1) h3⟩
end
def RepE (G:Gh):List (Value×Nat×AV)→List MapEntry→Prop
 | [],l=>l=[]
 | (k,n,a)::es,l=>∃ e r,l=e::r∧e.key=k∧e.born=n∧Rep G a e.val∧RepE G es r
theorem RepE.mono {G G':Gh}(le:G.le G'):∀ (es:List (Value×Nat×AV)) (l:List MapEntry),RepE G es l→RepE G' es l
 | [],l,h=>h
 | (k,n,a)::es,l,h=>by
   simp only[RepE]at h ⊢
   obtain⟨e,r,h1,h2,h3,h4,h5⟩:=h
   exact⟨e,r,h1,h2,h3,Rep.mono le a _ h4,RepE.mono le es r h5⟩
theorem RepE.length {G:Gh}:∀ {es:List (Value×Nat×AV)}{l:List MapEntry},RepE G es l→l.length=es.length
 | [],l,h=>by simp only[RepE]at h;simp[h]
 | (k,n,a)::es,l,h=>by
   simp only[RepE]at h
   obtain⟨e,r,rfl,_,_,_,h5⟩:=h
   simp[RepE.length h5]
def ObjAt (G:Gh) (w:World) (i:Nat):AObj→Prop
 | .cells cs=>∃ b o arr el lo hi,G.loc i=some (b,o)∧w.heap[b]?=some (.cells arr el (lo,hi))∧(∀ k,k<arr.size→¬(lo≤k∧k<hi))∧
   cs.length≤G.cap i∧o+G.cap i≤arr.size∧∀ j a,cs[j]?=some a→∃ v,arr[o+j]?=some v∧Rep G a v
 | .amap es clock=>∃ b arr,G.loc i=some (b,0)∧w.heap[b]?=some (.map arr clock)∧RepE G es arr.toList
 | .siter s pos=>∃ b,G.loc i=some (b,0)∧w.heap[b]?=some (.stringIter s pos)
 | .miter m since seen last=>∃ b mb,G.loc i=some (b,0)∧w.heap[b]?=some (.mapIter mb since seen.toArray last)∧(match m with|none=>mb=none|some j=>∃ q,G.loc j=some (q,0)∧mb=some q)
 | .keys m=>∃ b el q,G.loc i=some (b,0)∧w.heap[b]?=some (.cells #[.map (some q)] el (0,0))∧G.loc m=some (q,0)
 | .dead=>True
end
class Tabs extends Syms where
 ok:(Nat→Nat→Option Value)→Prop
 mono:∀ {F F':Nat→Nat→Option Value},(∀ b o v,F b o=some v→F' b o=some v)→ok F→ok F'
 tab:Nat→Option (List AV)
 tab_ok:∀ (G:Gh) (g:Nat) (cs:List AV),ok G.F→tab g=some cs→RepAt G cs g 0
variable [Tabs]
structure Sim (G:Gh) (h:ae) (w:World):Prop where
 obj:∀ i o,h[i]?=some o→ObjAt G w i o
 dom:∀ i p,G.loc i=some p→i<h.length
 apart:∀ i j oi oj p q,h[i]?=some oi→h[j]?=some oj→oi.live=true→oj.live=true→G.loc i=some p→G.loc j=some q→p.1=q.1→i=j
 frz:∀ b o v,G.F b o=some v→w.cell? ⟨b,o,none⟩=some v
 sep:∀ i o p,h[i]?=some o→o.live=true→G.loc i=some p→∀ off,G.F p.1 off=none
 tab:Tabs.ok G.F
def Lf (G:Gh) (h:ae) (b:Nat):Prop:=∃ i o p,h[i]?=some o∧o.live=true∧G.loc i=some p∧p.1=b
structure Evo (G:Gh) (h:ae) (w:World) (G':Gh) (h':ae) (w':World):Prop where
 le:G.le G'
 size:w.heap.size≤w'.heap.size
 os:w'.os=w.os
 tape:w'.tape=w.tape
 output:w'.output=w.output
 frame:∀ b,b<w.heap.size→¬ Lf G h b→w'.heap[b]?=w.heap[b]?
 own:∀ b,Lf G' h' b→Lf G h b∨w.heap.size≤b
 fz:∀ b o v,G'.F b o=some v→G.F b o=some v∨Lf G h b∨w.heap.size≤b
theorem Evo.refl (G:Gh) (h:ae) (w:World):Evo G h w G h w:=
 ⟨Gh.le.refl G,Nat.le_refl _,rfl,rfl,rfl,fun _ _ _=>rfl,fun _ h=>.inl h,fun _ _ _ h=>.inl h⟩
theorem Evo.trans {G G1 G2:Gh}{h h1 h2:ae}{w w1 w2:World}(a:Evo G h w G1 h1 w1) (b:Evo G1 h1 w1 G2 h2 w2):Evo G h w G2 h2 w2 where
 le:=a.le.trans b.le
 size:=Nat.le_trans a.size b.size
 os:=b.os.trans a.os
 tape:=b.tape.trans a.tape
 output:=b.output.trans a.output
 frame:=fun k hk hn=>by
  rw[b.frame k (Nat.lt_of_lt_of_le hk a.size) (fun ho=>?_),a.frame k hk hn]
  rcases a.own k ho with h|h
  ·exact hn h
  ·omega
 own:=fun k ho=>by
  rcases b.own k ho with h|h
  ·exact a.own k h
  ·exact .inr (Nat.le_trans a.size h)
 fz:=fun k o v e=>by
  rcases b.fz k o v e with h|h|h
  ·exact a.fz k o v h
  ·exact .inr (a.own k h)
  ·exact .inr (.inr (Nat.le_trans a.size h))
theorem Sim.owned_lt {G:Gh}{h:ae}{w:World}(s:Sim G h w) {b:Nat}(ho:Lf G h b):b<w.heap.size:=by
 obtain⟨i,o,p,h1,h2,h3,rfl⟩:=ho
 have:=s.obj i o h1
 cases o with
 | cells cs=>
   obtain⟨b,o,arr,el,lo,hi,e1,e2,_⟩:=this
   rw[h3]at e1;cases e1
   exact (Array.getElem?_eq_some_iff.1 e2).1
 | amap es clock=>
   obtain⟨b,arr,e1,e2,_⟩:=this
   rw[h3]at e1;cases e1
   exact (Array.getElem?_eq_some_iff.1 e2).1
 | miter m since seen last=>
   obtain⟨b,mb,e1,e2,_⟩:=this
   rw[h3]at e1;cases e1
   exact (Array.getElem?_eq_some_iff.1 e2).1
 | siter s pos=>
   obtain⟨b,e1,e2⟩:=this
   rw[h3]at e1;cases e1
   exact (Array.getElem?_eq_some_iff.1 e2).1
 | keys m=>
   obtain⟨b,el,q,e1,e2,e3⟩:=this
   rw[h3]at e1;cases e1
   exact (Array.getElem?_eq_some_iff.1 e2).1
 | dead=>simp[AObj.live]at h2
def ACalls (P:Program) (f:FuncId) (args:List AV) (h:ae) (Q:QT):Prop:=
 ∀ (G:Gh) (w:World) (vs:List Value),Sim G h w→RepL G args vs→
   Calls P f vs.toArray w fun e w'=>∃ r v h' G',e=.returned v∧Rep G' r v∧Q r h'∧Sim G' h' w'∧Evo G h w G' h' w'
theorem ACalls.mono {P:Program}{f:FuncId}{args:List AV}{h:ae}{Q Q':QT}(c:ACalls P f args h Q) (hq:∀ r h',Q r h'→Q' r h'):ACalls P f args h Q':=
 fun G w vs s r=>(c G w vs s r).mono fun _ _ ⟨r,v,h',G',a,b,c,d,e⟩=>⟨r,v,h',G',a,b,hq _ _ c,d,e⟩
abbrev Env:=List (Nat×AV)
def get:Env→Nat→Option AV
 | [],_=>none
 | (k,v)::e,n=>if k=n then some v else get e n
def EnvRep (G:Gh) (env:Env) (tmps:Array Value):Prop:=∀ k a,get env k=some a→∃ v,tmps[k]?=some v∧Rep G a v
theorem EnvRep.mono {G G':Gh}(le:G.le G') {env:Env}{tmps:Array Value}(h:EnvRep G env tmps):EnvRep G' env tmps:=
 fun k a e=>let ⟨v,h1,h2⟩:=h k a e;⟨v,h1,Rep.mono le a v h2⟩
theorem EnvRep.put {G:Gh}{env:Env}{tmps:Array Value}(h:EnvRep G env tmps) {d:Nat}(hd:d<tmps.size) {a:AV}{v:Value}(r:Rep G a v):EnvRep G ((d,a)::env) (tmps.setIfInBounds d v):=by
 intro k b e
 simp only[get]at e
 split at e
 ·rename_i hk
  subst hk
  cases e
  exact⟨v,by simp[hd],r⟩
 ·rename_i hk
  obtain⟨u,h1,h2⟩:=h k b e
  exact⟨u,by rw[Array.getElem?_setIfInBounds_ne hk];exact h1,h2⟩
def Post (G:Gh) (h:ae) (w:World) (n:Nat) (D:List Deferred) (K:Exit→Env→ae→Prop):Exit→Act→World→Prop:=
 fun e a w'=>∃ env' h' G',K e env' h'∧Sim G' h' w'∧Evo G h w G' h' w'∧EnvRep G' env' a.tmps∧a.tmps.size=n∧a.defers=D
theorem Post.step {G G1:Gh}{h h1:ae}{w w1:World}{n:Nat}{D:List Deferred}{K:Exit→Env→ae→Prop}(ev:Evo G h w G1 h1 w1) {e:Exit}{a:Act}{w':World}
  (p:Post G1 h1 w1 n D K e a w'):Post G h w n D K e a w':=
 let ⟨env',h',G',a,b,c,d⟩:=p;⟨env',h',G',a,b,ev.trans c,d⟩
theorem Post.mono {G:Gh}{h:ae}{w:World}{n:Nat}{D:List Deferred}{K K':Exit→Env→ae→Prop}(hk:∀ e env h,K e env h→K' e env h) {e:Exit}{a:Act}{w':World}
  (p:Post G h w n D K e a w'):Post G h w n D K' e a w':=
 let ⟨env',h',G',a,b⟩:=p;⟨env',h',G',hk _ _ _ a,b⟩
def AWp (P:Program) (n:Nat) (c:Code) (env:Env) (h:ae) (K:Exit→Env→ae→Prop):Prop:=
 ∀ (G:Gh) (w:World) (a:Act),Sim G h w→a.tmps.size=n→EnvRep G env a.tmps→c.wp P (Post G h w n a.defers K) a w
section
variable {P:Program}{n:Nat}{env:Env}{h:ae}{K:Exit→Env→ae→Prop}
theorem AWp.mono {c:Code}{K':Exit→Env→ae→Prop}(x:AWp P n c env h K) (hk:∀ e env h,K e env h→K' e env h):AWp P n c env h K':=
 fun G w a s hn r=>Go.wp_mono (x G w a s hn r) fun _ _ _ p=>p.mono hk
theorem PN (k:K .normal env h):AWp P n .skip env h K:=fun G _ _ s hn r=>wp_skip ⟨env,h,G,k,s,Evo.refl _ _ _,r,hn,rfl⟩
theorem Tk (k:K .ret env h):AWp P n .ret env h K:=fun G _ _ s hn r=>wp_ret ⟨env,h,G,k,s,Evo.refl _ _ _,r,hn,rfl⟩
theorem PE {id:Nat}(k:K (.exit id) env h):AWp P n (.exit id) env h K:=fun G _ _ s hn r=>wp_exit ⟨env,h,G,k,s,Evo.refl _ _ _,r,hn,rfl⟩
theorem NS {l:Nat}(k:K (.goto l) env h):AWp P n (.goto l) env h K:=fun G _ _ s hn r=>wp_goto ⟨env,h,G,k,s,Evo.refl _ _ _,r,hn,rfl⟩
theorem Kh {l:Nat}(k:K .normal env h):AWp P n (.label l) env h K:=fun G _ _ s hn r=>wp_label ⟨env,h,G,k,s,Evo.refl _ _ _,r,hn,rfl⟩
theorem LW {x y:Code}(k:AWp P n x env h fun e env' h'=>match e with|.normal=>AWp P n y env' h' K|e=>K e env' h'):AWp P n (.seq x y) env h K:=by
 intro G w a s hn r
 refine wp_seq (Go.wp_mono (k G w a s hn r) fun e a' w' p=>?_)
 obtain⟨env',h',G',hk,s',ev,r',hn',hd'⟩:=p
 cases e with
 | normal=>exact Go.wp_mono (hk G' w' a' s' hn' r') fun e a2 w2 p2=>by rw[hd']at p2;exact p2.step ev
 | _=>exact⟨env',h',G',hk,s',ev,r',hn',hd'⟩
theorem JW {id:Nat}{c:Code}(k:AWp P n c env h fun e env' h'=>match e with|.exit i=>if i=id then K .normal env' h' else K (.exit i) env' h'|e=>K e env' h'):AWp P n (.block id c) env h K:=by
 intro G w a s hn r
 refine wp_block (Go.wp_mono (k G w a s hn r) fun e a' w' p=>?_)
 obtain⟨env',h',G',hk,s',ev,r',hn',hd'⟩:=p
 cases e with
 | exit i=>
   simp only[Exit.inBlock]
   by_cases hi:i=id
   ·simp only[hi,if_true]at hk ⊢;exact⟨env',h',G',hk,s',ev,r',hn',hd'⟩
   ·simp only[hi,if_false]at hk ⊢;exact⟨env',h',G',hk,s',ev,r',hn',hd'⟩
 | _=>exact⟨env',h',G',hk,s',ev,r',hn',hd'⟩
noncomputable def DZ (p:Nat→Prop):Nat:=Classical.epsilon fun k=>p k∧∀ m,p m→k≤m
theorem KC {p:Nat→Prop}(h:∃ k,p k):∃ k,p k∧∀ m,p m→k≤m:=by
 obtain⟨k,hk⟩:=h
 induction k using Nat.strongRecOn with
 | _ k ih=>
   by_cases hm:∃ m,m<k∧p m
   ·obtain⟨m,hlt,hpm⟩:=hm
    exact ih m hlt hpm
   ·exact⟨k,hk,fun m hpm=>Nat.le_of_not_lt fun hlt=>hm ⟨m,hlt,hpm⟩⟩
theorem wN {p:Nat→Prop}(h:∃ k,p k):p (DZ p):=(Classical.epsilon_spec (KC h)).1
theorem C0 {p:Nat→Prop}{m:Nat}(h:p m):DZ p≤m:=(Classical.epsilon_spec (KC ⟨m,h⟩)).2 m h
theorem X6 {c:Code}(J:Nat→Env→ae→Prop) (k0:∃ k,J k env h)
  (round:∀ k env h,J k env h→AWp P n c env h fun e env' h'=>match e with|.normal=>∃ m env2,m<k∧J m env2 h'∧(∀ s a,get env2 s=some a→get env' s=some a)|e=>K e env' h'):AWp P n (.loop c) env h K:=by
 intro G w a s hn r
 have R0:∃ k,∃ env' h' G',J k env' h'∧Sim G' h' w∧Evo G h w G' h' w∧EnvRep G' env' a.tmps∧a.tmps.size=n∧a.defers=a.defers:=
  k0.imp fun k hk=>⟨env,h,G,hk,s,Evo.refl _ _ _,r,hn,rfl⟩
 let R:Nat→Act→World→Prop:=fun k a' w'=>∃ env' h' G',J k env' h'∧Sim G' h' w'∧Evo G h w G' h' w'∧EnvRep G' env' a'.tmps∧a'.tmps.size=n∧a'.defers=a.defers
 refine wp_loop (fun a' w'=>∃ k,R k a' w') (fun a' w'=>DZ (fun k=>R k a' w')) R0 ?_
 intro a1 w1 hI
 obtain⟨env1,h1,G1,hJ,s1,ev1,r1,hn1,hd1⟩:=wN hI
 refine Go.wp_mono (round _ _ _ hJ G1 w1 a1 s1 hn1 r1) fun e a2 w2 p=>?_
 obtain⟨env2,h2,G2,hk,s2,ev2,r2,hn2,hd2⟩:=p
 cases e with
 | normal=>
   obtain⟨m,env3,hm,hJ3,hsub⟩:=hk
   have hR:R m a2 w2:=⟨env3,h2,G2,hJ3,s2,ev1.trans ev2,fun s a e=>r2 s a (hsub s a e),hn2,hd2.trans hd1⟩
   exact⟨⟨m,hR⟩,Nat.lt_of_le_of_lt (C0 hR) hm⟩
 | _=>exact⟨env2,h2,G2,hk,s2,ev1.trans ev2,r2,hn2,hd2.trans hd1⟩
end
end
section
variable [Tabs]
abbrev I (n:Int):AV:=.lit (.int .i64 n)
abbrev B (b:Bool):AV:=.lit (.bool b)
abbrev S (s:ByteArray):AV:=.lit (.string s)
def AV.one:AV→Bool
 | .lit v=>v.oneCell'
 | .agg _=>false
 | .tup _=>false
 | _=>true
def Ih:Value→AV
 | .slice none 0 0=>.full 0 []
 | v=>.lit v
def ofV:Value→AV
 | .agg cs=>.agg (cs.toList.map Ih)
 | v=>Ih v
def okV:Value→Bool
 | .agg cs=>cs.toList.all (·.oneCell')
 | v=>v.oneCell'
theorem Hq (G:Gh) (v:Value) (h:v.oneCell'=true):Rep G (Ih v) v:=by
 unfold Ih
 split<;>simp[Rep,h]
theorem zz (G:Gh):∀ l:List Value,l.all (·.oneCell')=true→RepL G (l.map Ih) l
 | [],_=>by simp[RepL]
 | v::l,h=>by
   simp only[List.all_cons,Bool.and_eq_true]at h
   simp only[List.map_cons,RepL];exact⟨v,l,rfl,Hq G v h.1,zz G l h.2⟩
theorem rX (G:Gh) (v:Value) (h:okV v=true):Rep G (ofV v) v:=by
 unfold ofV
 split
 ·rename_i cs
  simp only[Rep]
  exact⟨cs.toList,by simp,zz G _ h⟩
 ·rename_i hna
  refine Hq G _ ?_
  unfold okV at h
  split at h
  ·exact absurd rfl (hna _)
  ·exact h
def opv (env:Env):Operand→Option AV
 | .tmp t=>get env t
 | .const v=>if okV v then some (ofV v) else none
 | .global _=>none
 | .func f=>some (.fn (.func f) [] [])
def lq (env:Env):List Operand→Option (List AV)
 | []=>some []
 | x::xs=>match opv env x with
   | none=>none
   | some v=>match lq env xs with
     | none=>none
     | some vs=>some (v::vs)
theorem aP {G:Gh}{env:Env}{a:Act}(r:EnvRep G env a.tmps) {x:Operand}{v:AV}(h:opv env x=some v):Rep G v (a.eval x):=by
 cases x with
 | tmp t=>
   obtain⟨u,h1,h2⟩:=r t v h
   simpa [Act.eval,Array.getD_eq_getD_getElem?,h1] using h2
 | const c=>
   simp only[opv]at h
   split at h
   ·cases h;exact rX G _ ‹_›
   ·cases h
 | global g=>simp[opv]at h
 | func f=>simp only[opv,Option.some.injEq]at h;subst h;simp[Rep,RepL,Act.eval]
theorem jA {G:Gh}{env:Env}{a:Act}(r:EnvRep G env a.tmps):∀ {xs:List Operand}{vs:List AV},lq env xs=some vs→RepL G vs (xs.map a.eval)
 | [],vs,h=>by simp only[lq,Option.some.injEq]at h;subst h;simp[RepL]
 | x::xs,vs,h=>by
   simp only[lq]at h
   split at h
   ·cases h
   ·rename_i v hv
    split at h
    ·cases h
    ·rename_i us hu
     cases h
     simp only[RepL,List.map_cons]
     exact⟨_,_,rfl,aP r hv,jA r hu⟩
theorem RepL.length {G:Gh}:∀ {az:List AV}{vs:List Value},RepL G az vs→vs.length=az.length
 | [],vs,h=>by simp only[RepL]at h;simp[h]
 | a::az,vs,h=>by
   simp only[RepL]at h
   obtain⟨v,ws,rfl,_,h⟩:=h
   simp[RepL.length h]
theorem RepL.at {G:Gh}:∀ {az:List AV}{vs:List Value},RepL G az vs→∀ (j:Nat) (a:AV),az[j]?=some a→∃ v,vs[j]?=some v∧Rep G a v
 | [],vs,h,j,a,e=>by simp at e
 | b::az,vs,h,j,a,e=>by
   simp only[RepL]at h
   obtain⟨v,ws,rfl,h1,h2⟩:=h
   cases j with
   | zero=>simp at e;subst e;exact⟨v,by simp,h1⟩
   | succ j=>simpa using RepL.at h2 j a (by simpa using e)
theorem jO {G:Gh}:∀ {az:List AV}{vs:List Value},vs.length=az.length→(∀ (j:Nat) (a:AV),az[j]?=some a→∃ v,vs[j]?=some v∧Rep G a v)→RepL G az vs
 | [],vs,hl,_=>by simp[RepL];simpa using hl
 | a::az,[],hl,_=>by simp at hl
 | a::az,v::vs,hl,h=>by
   simp only[RepL]
   obtain⟨u,h1,h2⟩:=h 0 a (by simp)
   simp at h1
   subst h1
   exact⟨v,vs,rfl,h2,jO (by simpa using hl) fun j b e=>by simpa using h (j+1) b (by simpa using e)⟩
theorem RepL.append {G:Gh}:∀ {az bs:List AV}{vs ws:List Value},RepL G az vs→RepL G bs ws→RepL G (az++bs) (vs++ws)
 | [],bs,vs,ws,h,k=>by simp only[RepL]at h;subst h;simpa using k
 | a::az,bs,vs,ws,h,k=>by
   simp only[RepL]at h
   obtain⟨v,us,rfl,h1,h2⟩:=h
   simp only[List.cons_append,RepL]
   exact⟨v,us++ws,rfl,h1,RepL.append h2 k⟩
theorem RepL.drop {G:Gh}{az:List AV}{vs:List Value}(h:RepL G az vs) (n:Nat):RepL G (az.drop n) (vs.drop n):=
 jO (by simp[h.length]) fun j a e=>by
  rw[List.getElem?_drop]at e ⊢
  exact h.at _ a e
theorem RepL.take {G:Gh}{az:List AV}{vs:List Value}(h:RepL G az vs) (n:Nat):RepL G (az.take n) (vs.take n):=
 jO (by simp[h.length]) fun j a e=>by
  rw[List.getElem?_take]at e ⊢
  split at e
  ·rename_i hj;rw[if_pos hj];exact h.at _ a e
  ·cases e
theorem RepAt.at {G:Gh}:∀ {az:List AV}{b o:Nat},RepAt G az b o→∀ (j:Nat) (a:AV),az[j]?=some a→∃ v,G.F b (o+j)=some v∧Rep G a v
 | [],b,o,h,j,a,e=>by simp at e
 | c::az,b,o,h,j,a,e=>by
   simp only[RepAt]at h
   cases j with
   | zero=>simp at e;subst e;exact h.1
   | succ j=>
     have:=RepAt.at h.2 j a (by simpa using e)
     rwa [show o+1+j=o+(j+1) by omega]at this
theorem jK {G:Gh}:∀ {az:List AV}{b o:Nat},(∀ (j:Nat) (a:AV),az[j]?=some a→∃ v,G.F b (o+j)=some v∧Rep G a v)→RepAt G az b o
 | [],b,o,h=>by simp[RepAt]
 | c::az,b,o,h=>by
   simp only[RepAt]
   refine⟨by simpa using h 0 c (by simp),jK fun j a e=>?_⟩
   have:=h (j+1) a (by simpa using e)
   rwa [show o+(j+1)=o+1+j by omega]at this
theorem RepAt.drop {G:Gh}{az:List AV}{b o:Nat}(h:RepAt G az b o) (n:Nat):RepAt G (az.drop n) b (o+n):=
 jK fun j a e=>by
  rw[List.getElem?_drop]at e
  have:=h.at _ a e
  rwa [← Nat.add_assoc]at this
theorem RepAt.take {G:Gh}{az:List AV}{b o:Nat}(h:RepAt G az b o) (n:Nat):RepAt G (az.take n) b o:=
 jK fun j a e=>by
  rw[List.getElem?_take]at e
  split at e
  ·exact h.at _ a e
  ·cases e
theorem dK (b o n:Nat):(⟨b,o,none⟩:Addr).add n=⟨b,o+n,none⟩:=by unfold Addr.add;split<;>simp_all
def AV.isTup:AV→Bool
 | .tup _=>true
 | _=>false
theorem Rep.one {G:Gh}{v:AV}{x:Value}(h:Rep G v x) (ho:v.one=true):x.oneCell'=true:=by
 cases v with
 | lit v=>simp only[Rep]at h;obtain⟨rfl,h⟩:=h;exact h
 | ptr i off=>simp only[Rep]at h;obtain⟨b,o,_,rfl⟩:=h;rfl
 | cptr cs=>simp only[Rep]at h;obtain⟨b,o,rfl,_⟩:=h;rfl
 | sl i off len sz=>simp only[Rep]at h;obtain⟨b,o,c,ad,_,_,_,_,rfl⟩:=h;rfl
 | snap n cs=>simp only[Rep]at h;rcases h with ⟨_,_,_,rfl⟩|⟨b,o,c,_,rfl,_⟩<;>rfl
 | full n cs=>simp only[Rep]at h;rcases h with ⟨_,_,_,rfl⟩|⟨b,o,rfl,_⟩<;>rfl
 | map i=>simp only[Rep]at h;obtain⟨b,_,rfl⟩:=h;rfl
 | fn f fi ca=>simp only[Rep]at h;obtain⟨vs,ws,rfl,_,_⟩:=h;rfl
 | iface t v=>simp only[Rep]at h;obtain⟨y,rfl,_⟩:=h;rfl
 | agg cs=>simp[AV.one]at ho
 | tup cs=>simp[AV.one]at ho
 | sym j=>simp only[Rep]at h;subst h;exact Syms.one j
theorem vi {x:Value}(h:x.oneCell'=true):x.cells=#[x]:=by cases x<;>simp_all [Value.oneCell',Value.cells]
theorem abR (v:AV) (h:v.isTup=false):v.one=true∨(∃ cs,v=.agg cs)∨(∃ u,v=.lit u):=by
 cases v<;>simp_all [AV.one,AV.isTup]
theorem Rep.cells {G:Gh}{v:AV}{x:Value}(h:Rep G v x) (ht:v.isTup=false):RepL G v.cells x.cells.toList:=by
 rcases abR v ht with h1|⟨cs,rfl⟩|⟨u,rfl⟩
 ·have hx:=h.one h1
  rw[vi hx]
  have:v.cells=[v]:=by cases v<;>simp_all [AV.one,AV.cells]
  rw[this]
  simp only[RepL]
  exact⟨x,[],rfl,h,rfl⟩
 ·simp only[Rep]at h
  obtain⟨vs,rfl,h⟩:=h
  simpa [AV.cells,Value.cells] using h
 ·have hx:x.oneCell'=true:=by simp only[Rep]at h;obtain⟨rfl,h⟩:=h;exact h
  rw[vi hx]
  simp only[AV.cells,RepL]
  exact⟨x,[],rfl,h,rfl⟩
def Yl (P:Program) (G:Gh) (w:World) (m:Sem Value) (K:AV→Prop):Prop:=∃ r v,m.run P w=.ok v w∧Rep G r v∧K r
def Ye (P:Program) (G:Gh) (h:ae) (w:World) (m:Sem Value) (K:QT):Prop:=
 ∃ r v h' G' w',m.run P w=.ok v w'∧Rep G' r v∧K r h'∧Sim G' h' w'∧Evo G h w G' h' w'
end
section
variable [Tabs]
def Gh.add (G:Gh) (i:Nat) (p:Nat×Nat) (c:Nat):Gh:=
 { G with loc:=fun j=>if j=i then some p else G.loc j,cap:=fun j=>if j=i then c else G.cap j }
theorem Sim.fresh {G:Gh}{h:ae}{w:World}(s:Sim G h w):G.loc h.length=none:=by
 cases e:G.loc h.length with
 | none=>rfl
 | some p=>have:=s.dom _ _ e;omega
theorem Gh.le_add {G:Gh}{i:Nat}(hn:G.loc i=none) (p:Nat×Nat) (c:Nat):G.le (G.add i p c) where
 loc j q e:=by
  simp only[Gh.add]
  split
  ·rename_i hj;subst hj;rw[hn]at e;cases e
  ·exact e
 cap j q e:=by
  simp only[Gh.add]
  split
  ·rename_i hj;subst hj;rw[hn]at e;cases e
  ·rfl
 F _ _ _ e:=e
theorem ObjAt.keep {G G':Gh}{w w':World}{i:Nat}{o:AObj}(le:G.le G') (x:ObjAt G w i o) (hb:∀ p,G.loc i=some p→o.live=true→w'.heap[p.1]?=w.heap[p.1]?):ObjAt G' w' i o:=by
 cases o with
 | cells cs=>
   obtain⟨b,o,arr,el,lo,hi,e1,e2,e3,e4,e5,e6⟩:=x
   refine⟨b,o,arr,el,lo,hi,le.loc _ _ e1,by rw[hb _ e1 rfl];exact e2,e3,by rw[le.cap _ _ e1];exact e4,by rw[le.cap _ _ e1];exact e5,fun j a ha=>?_⟩
   obtain⟨v,h1,h2⟩:=e6 j a ha
   exact⟨v,h1,Rep.mono le a v h2⟩
 | amap es clock=>
   obtain⟨b,arr,e1,e2,e6⟩:=x
   exact⟨b,arr,le.loc _ _ e1,by rw[hb _ e1 rfl];exact e2,RepE.mono le _ _ e6⟩
 | miter m since seen last=>
   obtain⟨b,mb,e1,e2,e3⟩:=x
   refine⟨b,mb,le.loc _ _ e1,by rw[hb _ e1 rfl];exact e2,?_⟩
   cases m with
   | none=>exact e3
   | some j=>obtain⟨q,h1,h2⟩:=e3;exact⟨q,le.loc _ _ h1,h2⟩
 | siter s pos=>
   obtain⟨b,e1,e2⟩:=x
   exact⟨b,le.loc _ _ e1,by rw[hb _ e1 rfl];exact e2⟩
 | keys m=>
   obtain⟨b,el,q,e1,e2,e3⟩:=x
   exact⟨b,el,q,le.loc _ _ e1,by rw[hb _ e1 rfl];exact e2,le.loc _ _ e3⟩
 | dead=>trivial
theorem Sim.loc_lt {G:Gh}{h:ae}{w:World}(s:Sim G h w) {i:Nat}{o:AObj}{p:Nat×Nat}(h1:h[i]?=some o) (h2:o.live=true) (h3:G.loc i=some p):p.1<w.heap.size:=
 s.owned_lt ⟨i,o,p,h1,h2,h3,rfl⟩
theorem nI {G:Gh}{h:ae}{w:World}(s:Sim G h w) {b o:Nat}{v:Value}(e:G.F b o=some v):b<w.heap.size:=by
 have:=World.block_lt_of_cell? w _ (s.frz b o v e)
 simpa using this
theorem ln {G:Gh}{h:ae}{w:World}(s:Sim G h w) (ob:Obj) (o:AObj) (c:Nat) (x:ObjAt (G.add h.length (w.heap.size,0) c) (w.alloc ob) h.length o):
  Sim (G.add h.length (w.heap.size,0) c) (h++[o]) (w.alloc ob)∧Evo G h w (G.add h.length (w.heap.size,0) c) (h++[o]) (w.alloc ob):=by
 have le:=Gh.le_add s.fresh (w.heap.size,0) c
 have hold:∀ b,b<w.heap.size→(w.alloc ob).heap[b]?=w.heap[b]?:=fun b hb=>by
  show (w.heap.push ob)[b]?=_
  rw[Array.getElem?_push,if_neg (by omega)]
 refine⟨⟨?_,?_,?_,?_,?_,s.tab⟩,⟨le,by simp,rfl,rfl,rfl,fun b hb _=>hold b hb,?_,fun _ _ _ h=>.inl h⟩⟩
 ·intro i oi hi
  rcases Nat.lt_or_ge i h.length with hlt|hge
  ·rw[List.getElem?_append_left hlt]at hi
   exact (s.obj i oi hi).keep le fun p hp hl=>hold _ (s.loc_lt hi hl hp)
  ·rw[List.getElem?_append_right hge]at hi
   have:i=h.length:=by
    rcases Nat.eq_or_lt_of_le hge with h1|h1
    ·exact h1.symm
    ·rw[List.getElem?_eq_none (by simp;omega)]at hi;cases hi
   subst this
   simp at hi
   subst hi
   exact x
 ·intro i p hp
  simp only[Gh.add]at hp
  split at hp
  ·simp;omega
  ·have:=s.dom i p hp;simp;omega
 ·intro i j oi oj p q hi hj li lj hp hq hpq
  simp only[Gh.add]at hp hq
  rcases Nat.lt_or_ge i h.length with hli|hgi<;>rcases Nat.lt_or_ge j h.length with hlj|hgj
  ·rw[if_neg (by omega)]at hp hq
   rw[List.getElem?_append_left hli]at hi
   rw[List.getElem?_append_left hlj]at hj
   exact s.apart i j oi oj p q hi hj li lj hp hq hpq
  ·rw[if_neg (by omega)]at hp
   rw[List.getElem?_append_left hli]at hi
   have h1:=s.loc_lt hi li hp
   have hjl:j<(h++[o]).length:=(List.getElem?_eq_some_iff.1 hj).1
   have:j=h.length:=by simp at hjl;omega
   rw[if_pos this]at hq
   cases hq
   simp at hpq
   omega
  ·rw[if_neg (by omega)]at hq
   rw[List.getElem?_append_left hlj]at hj
   have h1:=s.loc_lt hj lj hq
   have hil:i<(h++[o]).length:=(List.getElem?_eq_some_iff.1 hi).1
   have:i=h.length:=by simp at hil;omega
   rw[if_pos this]at hp
   cases hp
   simp at hpq
   omega
  ·have hil:i<(h++[o]).length:=(List.getElem?_eq_some_iff.1 hi).1
   have hjl:j<(h++[o]).length:=(List.getElem?_eq_some_iff.1 hj).1
   simp at hil hjl
   omega
 ·intro b off v e
  have e':G.F b off=some v:=e
  rw[World.cell?_alloc_lt w ob _ (nI s e')]
  exact s.frz b off v e'
 ·intro i oi p hi li hp off
  simp only[Gh.add]at hp ⊢
  rcases Nat.lt_or_ge i h.length with hlt|hge
  ·rw[if_neg (by omega)]at hp
   rw[List.getElem?_append_left hlt]at hi
   exact s.sep i oi p hi li hp off
  ·have hil:i<(h++[o]).length:=(List.getElem?_eq_some_iff.1 hi).1
   have:i=h.length:=by simp at hil;omega
   rw[if_pos this]at hp
   cases hp
   cases e:G.F w.heap.size off with
   | none=>rfl
   | some v=>have:=nI s e;omega
 ·intro b ⟨i,oi,p,hi,li,hp,hb⟩
  simp only[Gh.add]at hp
  rcases Nat.lt_or_ge i h.length with hlt|hge
  ·rw[if_neg (by omega)]at hp
   rw[List.getElem?_append_left hlt]at hi
   exact .inl ⟨i,oi,p,hi,li,hp,hb⟩
  ·have hil:i<(h++[o]).length:=(List.getElem?_eq_some_iff.1 hi).1
   have:i=h.length:=by simp at hil;omega
   rw[if_pos this]at hp
   cases hp
   exact .inr (by simp at hb;omega)
def dx (w:World) (b:Nat) (o:Obj):World:={ w with heap:=w.heap.setIfInBounds b o }
theorem uu (w:World) (b:Nat) (o:Obj) (k:Nat) (h:k≠b):(dx w b o).heap[k]?=w.heap[k]?:=by
 simp only[dx];rw[Array.getElem?_setIfInBounds_ne (Ne.symm h)]
theorem nG (w:World) (b:Nat) (o:Obj) (h:b<w.heap.size):(dx w b o).heap[b]?=some o:=by
 simp[dx,h]
theorem Eo (w:World) (b:Nat) (o:Obj) (a:Addr) (h:a.block≠b):(dx w b o).cell? a=w.cell? a:=by
 unfold World.cell?;rw[uu w b o _ h]
theorem wK {G:Gh}{h:ae}{w:World}(s:Sim G h w) {i:Nat}{o o':AObj}{p:Nat×Nat}{ob:Obj}(hi:h[i]?=some o) (hl:o.live=true) (hp:G.loc i=some p) (hl':o'.live=true)
  (x:ObjAt G (dx w p.1 ob) i o'):Sim G (h.set i o') (dx w p.1 ob)∧Evo G h w G (h.set i o') (dx w p.1 ob):=by
 have hlt:=s.loc_lt hi hl hp
 have hil:i<h.length:=(List.getElem?_eq_some_iff.1 hi).1
 have key:∀ k ok,(h.set i o')[k]?=some ok→k≠i→h[k]?=some ok:=fun k ok hk hne=>by
  rwa [List.getElem?_set_ne (Ne.symm hne)]at hk
 have keyl:∀ (k:Nat) (ok:AObj),(h.set i o')[k]?=some ok→ok.live=true→∃ ok':AObj,h[k]?=some ok'∧ok'.live=true:=fun k ok hk hlk=>by
  by_cases hne:k=i
  ·subst hne;exact⟨o,hi,hl⟩
  ·exact⟨ok,key k ok hk hne,hlk⟩
 refine⟨⟨?_,?_,?_,?_,?_,s.tab⟩,⟨Gh.le.refl G,by simp[dx],rfl,rfl,rfl,?_,?_,fun _ _ _ h=>.inl h⟩⟩
 ·intro k ok hk
  by_cases hne:k=i
  ·subst hne
   rw[List.getElem?_set_self hil]at hk
   cases hk
   exact x
  ·have hk':=key k ok hk hne
   refine (s.obj k ok hk').keep (Gh.le.refl G) fun q hq hlk=>uu _ _ _ _ fun e=>?_
   exact hne (s.apart k i ok o q p hk' hi hlk hl hq hp e)
 ·intro k q hq
  simpa using s.dom k q hq
 ·intro a b oa ob' q r ha hb la lb hq hr e
  obtain⟨oa',ha',la'⟩:=keyl a oa ha la
  obtain⟨ob'',hb',lb'⟩:=keyl b ob' hb lb
  exact s.apart a b oa' ob'' q r ha' hb' la' lb' hq hr e
 ·intro b off v e
  rw[Eo]
  ·exact s.frz b off v e
  ·intro hb
   simp only at hb
   have:=s.sep i o p hi hl hp off
   rw[← hb,e]at this
   cases this
 ·intro k ok q hk hlk hq off
  obtain⟨ok',hk',hlk'⟩:=keyl k ok hk hlk
  exact s.sep k ok' q hk' hlk' hq off
 ·intro b hb hno
  exact uu _ _ _ _ fun e=>hno ⟨i,o,p,hi,hl,hp,e.symm⟩
 ·intro b ⟨k,ok,q,hk,hlk,hq,e⟩
  obtain⟨ok',hk',hlk'⟩:=keyl k ok hk hlk
  exact .inl ⟨k,ok',q,hk',hlk',hq,e⟩
theorem Pi {G:Gh}{h:ae}{w:World}(s:Sim G h w) (i:Nat):Sim G (h.set i .dead) w∧Evo G h w G (h.set i .dead) w:=by
 have keyl:∀ (k:Nat) (ok:AObj),(h.set i .dead)[k]?=some ok→ok.live=true→h[k]?=some ok:=fun k ok hk hlk=>by
  by_cases hne:k=i
  ·subst hne
   rw[List.getElem?_set]at hk
   simp at hk
   obtain⟨_,rfl⟩:=hk
   simp[AObj.live]at hlk
  ·rwa [List.getElem?_set_ne (Ne.symm hne)]at hk
 refine⟨⟨?_,?_,?_,s.frz,?_,s.tab⟩,⟨Gh.le.refl G,Nat.le_refl _,rfl,rfl,rfl,fun _ _ _=>rfl,?_,fun _ _ _ h=>.inl h⟩⟩
 ·intro k ok hk
  cases hl:ok.live with
  | false=>cases ok<;>simp_all [AObj.live,ObjAt]
  | true=>exact s.obj k ok (keyl k ok hk hl)
 ·intro k q hq;simpa using s.dom k q hq
 ·intro a b oa ob q r ha hb la lb hq hr e
  exact s.apart a b oa ob q r (keyl a oa ha la) (keyl b ob hb lb) la lb hq hr e
 ·intro k ok q hk hlk hq off
  exact s.sep k ok q (keyl k ok hk hlk) hlk hq off
 ·intro b ⟨k,ok,q,hk,hlk,hq,e⟩
  exact .inl ⟨k,ok,q,keyl k ok hk hlk,hlk,hq,e⟩
theorem Xn {G:Gh}{h:ae}{w:World}(s:Sim G h w) {i:Nat}{o:AObj}{p:Nat×Nat}(hi:h[i]?=some o) (hl:o.live=true) (hp:G.loc i=some p) (off c:Nat) (ob:Obj) (o':AObj) (hl':o'.live=true)
  (x:ObjAt (G.add h.length (p.1,off) c) (dx w p.1 ob) h.length o'):
  Sim (G.add h.length (p.1,off) c) (h.set i .dead++[o']) (dx w p.1 ob)∧Evo G h w (G.add h.length (p.1,off) c) (h.set i .dead++[o']) (dx w p.1 ob):=by
 have hlt:=s.loc_lt hi hl hp
 have hil:i<h.length:=(List.getElem?_eq_some_iff.1 hi).1
 have le:=Gh.le_add s.fresh (p.1,off) c
 have tk:(h.set i .dead).length=h.length:=by simp
 have keyl:∀ (k:Nat) (ok:AObj),(h.set i .dead++[o'])[k]?=some ok→ok.live=true→(k<h.length∧h[k]?=some ok∧k≠i)∨(k=h.length∧ok=o'):=fun k ok hk hlk=>by
  rcases Nat.lt_or_ge k h.length with hlt'|hge
  ·rw[List.getElem?_append_left (by simpa using hlt')]at hk
   by_cases hne:k=i
   ·subst hne
    rw[List.getElem?_set_self hil]at hk
    cases hk
    simp[AObj.live]at hlk
   ·rw[List.getElem?_set_ne (Ne.symm hne)]at hk
    exact .inl ⟨hlt',hk,hne⟩
  ·have hkl:k<(h.set i .dead++[o']).length:=(List.getElem?_eq_some_iff.1 hk).1
   have:k=h.length:=by simp at hkl;omega
   subst this
   rw[List.getElem?_append_right (by simp)]at hk
   simp at hk
   exact .inr ⟨rfl,hk.symm⟩
 have hloc:∀ k,k<h.length→(G.add h.length (p.1,off) c).loc k=G.loc k:=fun k hk=>by simp only[Gh.add];rw[if_neg (by omega)]
 have hnew:(G.add h.length (p.1,off) c).loc h.length=some (p.1,off):=by simp[Gh.add]
 refine⟨⟨?_,?_,?_,?_,?_,s.tab⟩,⟨le,by simp[dx],rfl,rfl,rfl,?_,?_,fun _ _ _ h=>.inl h⟩⟩
 ·intro k ok hk
  cases hlk:ok.live with
  | false=>cases ok<;>simp_all [AObj.live,ObjAt]
  | true=>
    rcases keyl k ok hk hlk with ⟨hkl,hk',hne⟩|⟨rfl,rfl⟩
    ·refine (s.obj k ok hk').keep le fun q hq hlk=>uu _ _ _ _ fun e=>?_
     exact hne (s.apart k i ok o q p hk' hi hlk hl hq hp e)
    ·exact x
 ·intro k q hq
  simp only[Gh.add]at hq
  split at hq
  ·simp;omega
  ·have:=s.dom k q hq;simp;omega
 ·intro a b oa ob' q r ha hb la lb hq hr e
  rcases keyl a oa ha la with ⟨hal,ha',hna⟩|⟨rfl,rfl⟩<;>rcases keyl b ob' hb lb with ⟨hbl,hb',hnb⟩|⟨rfl,rfl⟩
  ·rw[hloc _ hal]at hq
   rw[hloc _ hbl]at hr
   exact s.apart a b oa ob' q r ha' hb' la lb hq hr e
  ·rw[hloc _ hal]at hq
   rw[hnew]at hr
   cases hr
   exact absurd (s.apart a i oa o q p ha' hi la hl hq hp e) hna
  ·rw[hloc _ hbl]at hr
   rw[hnew]at hq
   cases hq
   exact absurd (s.apart b i ob' o r p hb' hi lb hl hr hp e.symm) hnb
  ·rfl
 ·intro b off' v e
  rw[Eo]
  ·exact s.frz b off' v e
  ·intro hb
   simp only at hb
   have:=s.sep i o p hi hl hp off'
   rw[← hb]at this
   have e':G.F b off'=some v:=e
   rw[e']at this
   cases this
 ·intro k ok q hk hlk hq off'
  rcases keyl k ok hk hlk with ⟨hkl,hk',hne⟩|⟨rfl,rfl⟩
  ·rw[hloc _ hkl]at hq
   exact s.sep k ok q hk' hlk hq off'
  ·rw[hnew]at hq
   cases hq
   exact s.sep i o p hi hl hp off'
 ·intro b hb hno
  exact uu _ _ _ _ fun e=>hno ⟨i,o,p,hi,hl,hp,e.symm⟩
 ·intro b ⟨k,ok,q,hk,hlk,hq,e⟩
  rcases keyl k ok hk hlk with ⟨hkl,hk',hne⟩|⟨rfl,rfl⟩
  ·rw[hloc _ hkl]at hq
   exact .inl ⟨k,ok,q,hk',hlk,hq,e⟩
  ·rw[hnew]at hq
   cases hq
   exact .inl ⟨i,o,p,hi,hl,hp,e⟩
theorem Sim.drawn {G:Gh}{h:ae}{w:World}(s:Sim G h w) (n:Nat):Sim G h { w with drawn:=n }∧Evo G h w G h { w with drawn:=n }:=by
 refine⟨⟨fun i o hi=>(s.obj i o hi).keep (Gh.le.refl G) fun _ _ _=>rfl,s.dom,s.apart,s.frz,s.sep,s.tab⟩,⟨Gh.le.refl G,Nat.le_refl _,rfl,rfl,rfl,fun _ _ _=>rfl,fun _ h=>.inl h,fun _ _ _ h=>.inl h⟩⟩
end
section
variable [Tabs]
section
variable {P:Program}{G:Gh}{h:ae}{w:World}
def bW (o:Option AV) (K:AV→Prop):Prop:=match o with|some v=>K v|none=>False
def ifB (v:AV) (X Y:Prop):Prop:=match v with|.lit (.bool true)=>X|.lit (.bool false)=>Y|_=>False
def gY (op:BinOp) (k:IntKind) (a b:Int):Option Value:=
 match op with
 | .add=>some (.int k (k.wrap (a+b)))
 | .sub=>some (.int k (k.wrap (a-b)))
 | .mul=>some (.int k (k.wrap (a*b)))
 | .quo=>if b=0 then none else some (.int k (k.wrap (a.tdiv b)))
 | .rem=>if b=0 then none else some (.int k (a.tmod b))
 | .and=>some (.int k (k.wrap ((BitVec.ofInt k.bits a &&& BitVec.ofInt k.bits b).toNat:Int)))
 | .or=>some (.int k (k.wrap ((BitVec.ofInt k.bits a ||| BitVec.ofInt k.bits b).toNat:Int)))
 | .xor=>some (.int k (k.wrap ((BitVec.ofInt k.bits a ^^^ BitVec.ofInt k.bits b).toNat:Int)))
 | .andNot=>some (.int k (k.wrap ((BitVec.ofInt k.bits a &&& ~~~ BitVec.ofInt k.bits b).toNat:Int)))
 | .eql=>some (.bool (a==b))
 | .neq=>some (.bool (a != b))
 | .lss=>some (.bool (a<b))
 | .leq=>some (.bool (a≤b))
 | .gtr=>some (.bool (a > b))
 | .geq=>some (.bool (a≥b))
 | _=>none
def wG (op:BinOp) (x y:ByteArray):Option Value:=
 let eq:=x.toList==y.toList
 let lt:=Op.bytesLess x.toList y.toList
 match op with
 | .add=>if ((x.size+y.size:Nat):Int) > IntKind.i64.max then none else some (.string (x++y))
 | .eql=>some (.bool eq)
 | .neq=>some (.bool !eq)
 | .lss=>some (.bool lt)
 | .leq=>some (.bool (lt||eq))
 | .gtr=>some (.bool !(lt||eq))
 | .geq=>some (.bool !lt)
 | _=>none
def yy (op:BinOp) (k:FloatKind) (x y:Nat):Option Value:=
 let c:=k.format.order x y
 match op with
 | .eql=>some (.bool (c==some .eq))
 | .neq=>some (.bool (c != some .eq))
 | .lss=>some (.bool (c==some .lt))
 | .leq=>some (.bool (c==some .lt||c==some .eq))
 | .gtr=>some (.bool (c==some .gt))
 | .geq=>some (.bool (c==some .gt||c==some .eq))
 | .add=>(k.format.add x y).map (.float k)
 | .sub=>(k.format.sub x y).map (.float k)
 | .mul=>(k.format.mul x y).map (.float k)
 | .quo=>(k.format.div x y).map (.float k)
 | _=>none
def cC (op:BinOp) (x y:Value):Option Value:=
 match x,y with
 | .int k a,.int k' b=>
   match op with
   | .shl=>if b<0 then none else some (.int k (k.wrap (a*2^(min b.toNat k.bits))))
   | .shr=>if b<0 then none else some (.int k (a.fdiv (2^(min b.toNat k.bits))))
   | _=>if k=k' then gY op k a b else none
 | .string a,.string b=>wG op a b
 | .float k a,.float k' b=>if k=k' then yy op k a b else none
 | _,_=>none
def Fb (op:BinOp) (x y:AV) (K:AV→Prop):Prop:=
 match x,y with
 | .lit a,.lit b=>(match cC op a b with|some r=>K (.lit r)|none=>False)
 | _,_=>False
theorem SK {op:BinOp}{a b r:Value}(h:cC op a b=some r):r.oneCell'=true:=by
 unfold cC at h
 split at h
 ·split at h
  ·split at h<;>simp at h;subst h;rfl
  ·split at h<;>simp at h;subst h;rfl
  ·split at h
   ·unfold gY at h
    split at h<;>(try split at h)<;>simp at h<;>subst h<;>rfl
   ·cases h
 ·unfold wG at h
  simp only at h
  split at h<;>(try split at h)<;>simp at h<;>subst h<;>rfl
 ·split at h
  ·unfold yy at h
   simp only at h
   split at h<;>simp at h<;>first|(subst h;rfl)|(obtain⟨_,_,rfl⟩:=h;rfl)
  ·cases h
 ·cases h
theorem SH {op:BinOp}{t:TypeId}{xo yo:Operand}{a b r:Value}(h:cC op a b=some r):
  (do eqGuard op t xo yo a b;binOp op t a b:Sem Value).run P w=.ok r w:=by
 unfold cC at h
 split at h
 ·rename_i k x k' y
  have hg:eqGuard op t xo yo (.int k x) (.int k' y)=pure ():=by unfold eqGuard;split<;>rfl
  rw[hg]
  split at h
  ·split at h
   ·cases h
   ·rename_i hb
    cases h
    simp[binOp,Op.shift,hb]
  ·split at h
   ·cases h
   ·rename_i hb
    cases h
    simp[binOp,Op.shift,hb]
  ·rename_i h1 h2
   split at h
   ·rename_i hk
    subst hk
    unfold gY at h
    cases op<;>simp at h<;>(try (obtain⟨hz,h⟩:=h))<;>(try subst h)<;>simp_all [binOp,Op.intArith,Op.intDiv,Op.intBits,Op.intCmp]
   ·cases h
 ·rename_i x y
  have hg:eqGuard op t xo yo (.string x) (.string y)=pure ():=by unfold eqGuard;split<;>rfl
  rw[hg]
  unfold wG at h
  cases op<;>simp at h<;>(try (obtain⟨hz,h⟩:=h))<;>(try subst h)<;>simp_all [binOp,Op.stringOp]
 ·rename_i k x k' y
  have hg:eqGuard op t xo yo (.float k x) (.float k' y)=pure ():=by unfold eqGuard;split<;>rfl
  rw[hg]
  split at h
  ·rename_i hk
   subst hk
   unfold yy at h
   cases op<;>simp at h<;>first|(subst h;simp_all [binOp,Op.floatCmp];done)|(obtain⟨r,hr,rfl⟩:=h;simp[binOp,Op.floatArith,hr])
  ·cases h
 ·cases h
theorem Nt {op:BinOp}{t:TypeId}{xo yo:Operand}{x y:AV}{a b:Value}{K:AV→Prop}(hx:Rep G x a) (hy:Rep G y b) (k:Fb op x y K):
  Yl P G w (do eqGuard op t xo yo a b;binOp op t a b) K:=by
 unfold Fb at k
 split at k
 ·simp only[Rep]at hx hy
  obtain⟨rfl,_⟩:=hx
  obtain⟨rfl,_⟩:=hy
  split at k
  ·rename_i r hr
   exact⟨_,r,SH hr,by simp[Rep,SK hr],k⟩
  ·exact k.elim
 ·exact k.elim
theorem He {t:TypeId}(ht:P.underlying t=some .bool) (a b:Bool):(Op.equal t (.bool a) (.bool b)).run P w=.ok (a==b) w:=by
 have:∀ d,(Op.equalIn (d+1) t (.bool a) (.bool b)).run P w=.ok (a==b) w:=fun d=>by simp[Op.equalIn,run_underlying ht]
 exact this 9999
theorem z8 {t e:TypeId}(ht:P.underlying t=some (.pointer e)) (a:Addr):(Op.equal t (.pointer (some a)) (.pointer none)).run P w=.ok false w:=by
 have:∀ d,(Op.equalIn (d+1) t (.pointer (some a)) (.pointer none)).run P w=.ok false w:=fun d=>by simp[Op.equalIn,run_underlying ht]
 exact this 9999
theorem Af {t e:TypeId}(ht:P.underlying t=some (.pointer e)):(Op.equal t (.pointer none) (.pointer none)).run P w=.ok true w:=by
 have:∀ d,(Op.equalIn (d+1) t (.pointer none) (.pointer none)).run P w=.ok true w:=fun d=>by simp[Op.equalIn,run_underlying ht]
 exact this 9999
def xE (op:BinOp) (x y:AV) (K:AV→Prop):Prop:=
 match x,y with
 | .lit (.bool a),.lit (.bool b)=>(match op with|.eql=>K (B (a==b))|.neq=>K (B (!(a==b)))|_=>False)
 | _,_=>False
theorem Yj {op:BinOp}{t:TypeId}{xo yo:Operand}{x y:AV}{a b:Value}{K:AV→Prop}(ht:P.underlying t=some .bool) (hx:Rep G x a) (hy:Rep G y b) (k:xE op x y K):
  Yl P G w (do eqGuard op t xo yo a b;binOp op t a b) K:=by
 unfold xE at k
 split at k
 ·rename_i p q
  simp only[Rep]at hx hy
  obtain⟨rfl,_⟩:=hx
  obtain⟨rfl,_⟩:=hy
  have hg:eqGuard op t xo yo (.bool p) (.bool q)=pure ():=by unfold eqGuard;split<;>rfl
  rw[hg]
  cases op<;>simp only at k
  case eql=>exact⟨_,.bool (p==q),by simp[binOp,He ht],by simp[Rep,Value.oneCell'],k⟩
  case neq=>exact⟨_,.bool (!(p==q)),by simp[binOp,He ht],by simp[Rep,Value.oneCell'],k⟩
 ·exact k.elim
def yd (op:BinOp) (x y:AV) (K:AV→Prop):Prop:=
 match x,y with
 | .ptr _ _,.lit (.pointer none)=>(match op with|.eql=>K (B false)|.neq=>K (B true)|_=>False)
 | .lit (.pointer none),.lit (.pointer none)=>(match op with|.eql=>K (B true)|.neq=>K (B false)|_=>False)
 | _,_=>False
theorem Zx {op:BinOp}{t e:TypeId}{xo yo:Operand}{x y:AV}{a b:Value}{K:AV→Prop}(ht:P.underlying t=some (.pointer e)) (hx:Rep G x a) (hy:Rep G y b) (k:yd op x y K):
  Yl P G w (do eqGuard op t xo yo a b;binOp op t a b) K:=by
 unfold yd at k
 split at k
 ·rename_i j off
  simp only[Rep]at hx hy
  obtain⟨bb,o,_,rfl⟩:=hx
  obtain⟨rfl,_⟩:=hy
  have hg:eqGuard op t xo yo (.pointer (some ⟨bb,o+off,none⟩)) (.pointer none)=pure ():=by unfold eqGuard;split<;>rfl
  rw[hg]
  cases op<;>simp only at k
  case eql=>exact⟨_,.bool false,by simp[binOp,z8 ht],by simp[Rep,Value.oneCell'],k⟩
  case neq=>exact⟨_,.bool true,by simp[binOp,z8 ht],by simp[Rep,Value.oneCell'],k⟩
 ·simp only[Rep]at hx hy
  obtain⟨rfl,_⟩:=hx
  obtain⟨rfl,_⟩:=hy
  have hg:eqGuard op t xo yo (.pointer none) (.pointer none)=pure ():=by unfold eqGuard;split<;>rfl
  rw[hg]
  cases op<;>simp only at k
  case eql=>exact⟨_,.bool true,by simp[binOp,Af ht],by simp[Rep,Value.oneCell'],k⟩
  case neq=>exact⟨_,.bool false,by simp[binOp,Af ht],by simp[Rep,Value.oneCell'],k⟩
 ·exact k.elim
def pUn (op:UnOp) (x:AV) (K:AV→Prop):Prop:=
 match op,x with
 | .neg,.lit (.int k n)=>K (.lit (.int k (k.wrap (0-n))))
 | .xor,.lit (.int k n)=>K (.lit (.int k (k.wrap ((BitVec.ofInt k.bits (if k.signed then -1 else k.max) ^^^ BitVec.ofInt k.bits n).toNat:Int))))
 | .not,.lit (.bool b)=>K (B !b)
 | .neg,.lit (.float k b)=>K (.lit (.float k (Op.negFloat k b)))
 | _,_=>False
theorem abP {op:UnOp}{x:AV}{a:Value}{K:AV→Prop}(hx:Rep G x a) (k:pUn op x K):Yl P G w (Op.unary op a) K:=by
 unfold pUn at k
 split at k
 ·simp only[Rep]at hx
  obtain⟨rfl,_⟩:=hx
  exact⟨_,_,by simp[Op.unary,Op.intArith];rfl,by simp[Rep,Value.oneCell'],k⟩
 ·simp only[Rep]at hx
  obtain⟨rfl,_⟩:=hx
  exact⟨_,_,by simp[Op.unary,Op.intBits];rfl,by simp[Rep,Value.oneCell'],k⟩
 ·simp only[Rep]at hx
  obtain⟨rfl,_⟩:=hx
  exact⟨_,_,by simp[Op.unary];rfl,by simp[Rep,Value.oneCell'],k⟩
 ·simp only[Rep]at hx
  obtain⟨rfl,_⟩:=hx
  exact⟨_,_,by simp[Op.unary];rfl,by simp[Rep,Value.oneCell'],k⟩
 ·exact k.elim
def mO (kd:IntKind) (x:AV) (K:AV→Prop):Prop:=match x with|.lit (.int _ n)=>K (.lit (.int kd (kd.wrap n)))|_=>False
def mP (kd:FloatKind) (x:AV) (K:AV→Prop):Prop:=match x with|.lit (.int _ n)=>K (.lit (.float kd (kd.nearest n)))|_=>False
def mo (x:AV) (K:AV→Prop):Prop:=match x with|.lit (.string s)=>K (S s)|_=>False
theorem Rh {s d:TypeId}{ks kd:IntKind}(hs:P.underlying s=some (.int ks)) (hd:P.underlying d=some (.int kd)) {x:AV}{a:Value}{K:AV→Prop}(hx:Rep G x a) (k:mO kd x K):Yl P G w (convert s d a) K:=by
 unfold mO at k
 split at k
 ·simp only[Rep]at hx
  obtain⟨rfl,_⟩:=hx
  exact⟨_,_,by simp[convert,run_underlying hs,run_underlying hd,Conv.intToInt];rfl,by simp[Rep,Value.oneCell'],k⟩
 ·exact k.elim
theorem S5 {s d:TypeId}{ks:IntKind}{kd:FloatKind}(hs:P.underlying s=some (.int ks)) (hd:P.underlying d=some (.float kd)) {x:AV}{a:Value}{K:AV→Prop}(hx:Rep G x a) (k:mP kd x K):Yl P G w (convert s d a) K:=by
 unfold mP at k
 split at k
 ·simp only[Rep]at hx
  obtain⟨rfl,_⟩:=hx
  exact⟨_,_,by simp[convert,run_underlying hs,run_underlying hd,Conv.intToFloat];rfl,by simp[Rep,Value.oneCell'],k⟩
 ·exact k.elim
theorem SI {s d:TypeId}(hs:P.underlying s=some .string) (hd:P.underlying d=some .string) {x:AV}{a:Value}{K:AV→Prop}(hx:Rep G x a) (k:mo x K):Yl P G w (convert s d a) K:=by
 unfold mo at k
 split at k
 ·simp only[Rep]at hx
  obtain⟨rfl,_⟩:=hx
  exact⟨_,_,by simp[convert,run_underlying hs,run_underlying hd];rfl,by simp[Rep,Value.oneCell'],k⟩
 ·exact k.elim
def Jb (v:AV) (K:AV→Prop):Prop:=match v with|.ptr i o=>K (.ptr i o)|.cptr cs=>K (.cptr cs)|.fn (.func f) fi ca=>K (.fn (.func f) fi ca)|_=>False
def fA (off:Nat) (v:AV) (K:AV→Prop):Prop:=match v with|.ptr i o=>K (.ptr i (o+off))|.cptr cs=>K (.cptr (cs.drop off))|_=>False
theorem JG {t:TypeId}{fs:Array Field}{f:Nat}{fd:Field}{i:TypeInfo}(ht:P.underlying t=some (.struct fs)) (hf:fs[f]?=some fd) (hi:P.info? fd.type=some i) (hz:i.size≠0)
  {v:AV} {x:Value} {K:AV→Prop} (hx:Rep G v x) (k:fA fd.offset v K):Yl P G w (Instr.fieldAt t x f) K:=by
 unfold fA at k
 split at k
 ·simp only[Rep]at hx
  obtain⟨b,o,h1,rfl⟩:=hx
  refine⟨_,_,by simp[Instr.fieldAt,run_underlying ht,hf,Instr.sureAddr,fieldPlace,sizeOf,typeInfo,hi,hz];rfl,?_,k⟩
  simp only[Rep]
  exact⟨b,o,h1,by rw[dK,Nat.add_assoc]⟩
 ·simp only[Rep]at hx
  obtain⟨b,o,rfl,h1⟩:=hx
  refine⟨_,_,by simp[Instr.fieldAt,run_underlying ht,hf,Instr.sureAddr,fieldPlace,sizeOf,typeInfo,hi,hz];rfl,?_,k⟩
  simp only[Rep]
  exact⟨b,o+fd.offset,by rw[dK],h1.drop _⟩
 ·exact k.elim
def rI (h:ae) (n:Nat):AV→Option (List AV)
 | .ptr i o=>match h[i]? with
   | some (.cells cs)=>if o+n≤cs.length then some ((cs.drop o).take n) else none
   | _=>none
 | .cptr cs=>if n≤cs.length then some (cs.take n) else none
 | _=>none
theorem Ql (s:Sim G h w) {n:Nat}{v:AV}{x:Value}(hx:Rep G v x) {l:List AV}(e:rI h n v=some l):
  ∃ b o vs,x=.pointer (some ⟨b,o,none⟩)∧l.length=n∧RepL G l vs∧∀ j u,vs[j]?=some u→w.cell? ⟨b,o+j,none⟩=some u:=by
 unfold rI at e
 split at e
 ·rename_i i o
  split at e
  ·rename_i cs hcs
   split at e
   ·rename_i hle
    cases e
    simp only[Rep]at hx
    obtain⟨b,o',h1,rfl⟩:=hx
    obtain⟨b2,o2,arr,el,lo,hi,e1,e2,e3,e4,e5,e6⟩:=s.obj i _ hcs
    rw[h1]at e1
    cases e1
    refine⟨b,o'+o,(arr.toList.drop (o'+o)).take n,rfl,by simp;omega,?_,?_⟩
    ·refine jO (by simp;omega) fun j a ha=>?_
     rw[List.getElem?_take]at ha ⊢
     split at ha
     ·rename_i hj
      rw[if_pos hj]
      rw[List.getElem?_drop]at ha ⊢
      obtain⟨v,h2,h3⟩:=e6 (o+j) a ha
      exact⟨v,by rw[Array.getElem?_toList,← h2];congr 1;omega,h3⟩
     ·cases ha
    ·intro j u hu
     rw[List.getElem?_take]at hu
     split at hu
     ·rw[List.getElem?_drop,Array.getElem?_toList]at hu
      simp[World.cell?,e2,hu]
     ·cases hu
   ·cases e
  ·cases e
 ·rename_i cs
  split at e
  ·rename_i hle
   cases e
   simp only[Rep]at hx
   obtain⟨b,o,rfl,h1⟩:=hx
   have hat:=(h1.take n)
   have:∀ j,j<n→∃ u,G.F b (o+j)=some u∧∀ a,cs[j]?=some a→Rep G a u:=fun j hj=>by
    have hl:j<cs.length:=by omega
    obtain⟨u,h2,h3⟩:=h1.at j cs[j] (by simp[hl])
    exact⟨u,h2,fun a ha=>by simp[hl]at ha;subst ha;exact h3⟩
   refine⟨b,o,(List.range n).map fun j=>(G.F b (o+j)).getD undef,rfl,by simp;omega,?_,?_⟩
   ·refine jO (by simp;omega) fun j a ha=>?_
    rw[List.getElem?_take]at ha
    split at ha
    ·rename_i hj
     obtain⟨u,h2,h3⟩:=this j hj
     exact⟨u,by simp[hj,h2],h3 a ha⟩
    ·cases ha
   ·intro j u hu
    by_cases hj:j<n
    ·obtain⟨u',h2,_⟩:=this j hj
     simp[hj,h2]at hu
     subst hu
     exact s.frz b (o+j) _ h2
    ·simp[hj]at hu
  ·cases e
 ·cases e
def nB (n:Nat) (v:AV) (h:ae) (K:AV→Prop):Prop:=match rI h n v with|some l=>K (.agg l)|none=>False
def mK (v:AV) (h:ae) (K:AV→Prop):Prop:=match rI h 1 v with|some [a]=>K a|_=>False
def mZ:TypeDesc→Bool
 | .struct _=>true
 | .array _ _=>true
 | _=>false
theorem ue {t:TypeId}{d:TypeDesc}(h:P.underlying t=some d):(isAgg t).run P w=.ok (mZ d) w:=by
 unfold isAgg mZ
 simp only[Sem.run_bind,run_underlying h,Result.andThen_ok]
 cases d<;>rfl
theorem DR (s:Sim G h w) {t:TypeId}{d:TypeDesc}{i:TypeInfo}(ht:P.underlying t=some d) (hd:mZ d=true) (hi:P.info? t=some i) {v:AV}{x:Value}{K:AV→Prop}(hx:Rep G v x) (k:nB i.size v h K):
  Yl P G w (Instr.loadAt t x) K:=by
 unfold nB at k
 split at k
 ·rename_i l hl
  obtain⟨b,o,vs,rfl,h1,h2,h3⟩:=Ql s hx hl
  have hlen:vs.length=i.size:=by rw[h2.length,h1]
  have hc:=run_loadCells_list (P:=P) w ⟨b,o,none⟩ vs (fun j v hj=>by rw[dK];exact h3 j v hj)
  rw[hlen]at hc
  refine⟨_,.agg vs.toArray,?_,?_,k⟩
  ·simp[Instr.loadAt,Instr.sureAddr,loadVar,ue ht,hd,sizeOf,typeInfo,hi,hc]
  ·simp only[Rep];exact⟨vs,rfl,h2⟩
 ·exact k.elim
theorem C5 (s:Sim G h w) {t:TypeId}{d:TypeDesc}(ht:P.underlying t=some d) (hd:mZ d=false) {v:AV}{x:Value}{K:AV→Prop}(hx:Rep G v x) (k:mK v h K):
  Yl P G w (Instr.loadAt t x) K:=by
 unfold mK at k
 split at k
 ·rename_i a hl
  obtain⟨b,o,vs,rfl,h1,h2,h3⟩:=Ql s hx hl
  simp only[RepL]at h2
  obtain⟨u,ws,rfl,h4,rfl⟩:=h2
  have hc:=h3 0 u (by simp)
  rw[Nat.add_zero]at hc
  refine⟨a,u,?_,h4,k⟩
  simp[Instr.loadAt,Instr.sureAddr,loadVar,ue ht,hd,hc]
 ·exact k.elim
def qD (off n:Nat) (v:AV) (K:AV→Prop):Prop:=match v with|.agg cs=>K (.agg ((cs.drop off).take n))|_=>False
def qO (off:Nat) (v:AV) (K:AV→Prop):Prop:=match v with|.agg cs=>(match cs[off]? with|some a=>K a|none=>False)|_=>False
theorem Vz {t:TypeId}{d:TypeDesc}{i:TypeInfo}{off:Nat}(ht:P.underlying t=some d) (hd:mZ d=true) (hi:P.info? t=some i) {v:AV}{x:Value}{K:AV→Prop}(hx:Rep G v x) (k:qD off i.size v K):
  Yl P G w (do part t (← asAgg x) off) K:=by
 unfold qD at k
 split at k
 ·simp only[Rep]at hx
  obtain⟨vs,rfl,h1⟩:=hx
  refine⟨_,.agg ((vs.drop off).take i.size).toArray,?_,?_,k⟩
  ·simp[asAgg,part,ue ht,hd,sizeOf,typeInfo,hi,List.extract_eq_take_drop]
  ·simp only[Rep];exact⟨_,rfl,(h1.drop off).take _⟩
 ·exact k.elim
theorem VE {t:TypeId}{d:TypeDesc}{off:Nat}(ht:P.underlying t=some d) (hd:mZ d=false) {v:AV}{x:Value}{K:AV→Prop}(hx:Rep G v x) (k:qO off v K):
  Yl P G w (do part t (← asAgg x) off) K:=by
 unfold qO at k
 split at k
 ·simp only[Rep]at hx
  obtain⟨vs,rfl,h1⟩:=hx
  split at k
  ·rename_i a ha
   obtain⟨u,h2,h3⟩:=h1.at _ a ha
   refine⟨a,u,?_,h3,k⟩
   simp[asAgg,part,ue ht,hd,h2]
  ·exact k.elim
 ·exact k.elim
end
end
section
variable [Tabs]
section
variable {P:Program}{G:Gh}{h:ae}{w:World}
def asI:AV→Option Int
 | .lit (.int _ n)=>some n
 | _=>none
theorem QV {v:AV}{x:Value}{n:Int}(hx:Rep G v x) (e:asI v=some n):∃ k,x=.int k n:=by
 unfold asI at e
 split at e
 ·cases e
  simp only[Rep]at hx
  exact⟨_,hx.1⟩
 ·cases e
def bAt (s:ByteArray) (i:Int):Int:=(((s.data[i.toNat]?).getD 0).toNat:Int)
def lx (v i:AV) (K:AV→Prop):Prop:=match v,i with|.lit (.string s),.lit (.int _ n)=>(0≤n∧n<s.size)∧K (.lit (.int .u8 (bAt s n)))|_,_=>False
theorem Sn {t:TypeId}(ht:P.underlying t=some .string) {v i:AV}{x y:Value}{K:AV→Prop}(hx:Rep G v x) (hi:Rep G i y) (k:lx v i K):Yl P G w (Instr.index t x y) K:=by
 unfold lx at k
 split at k
 ·rename_i s kk n
  simp only[Rep]at hx hi
  obtain⟨rfl,_⟩:=hx
  obtain⟨rfl,_⟩:=hi
  obtain⟨⟨h0,h1⟩,k⟩:=k
  have hn:n.toNat<s.size:=by omega
  have hn':n.toNat<s.data.size:=hn
  refine⟨_,.int .u8 (bAt s n),?_,by simp[Rep,Value.oneCell'],k⟩
  have e:s[n.toNat]?=some (s.data[n.toNat]'hn'):=by
   show (if hh:n.toNat<s.size then some _ else none)=_
   rw[dif_pos hn];rfl
  have e2:s.data[n.toNat]?=some (s.data[n.toNat]'hn'):=Array.getElem?_eq_getElem hn'
  simp only[Instr.index,asIntOf,Sem.run_bind,Sem.run_pure,Result.andThen_ok,run_underlying ht,h0,if_true,e,bAt,e2,Option.getD_some]
 ·exact k.elim
def dB (size:Nat) (v i:AV) (K:AV→Prop):Prop:=
 match asI i with
 | none=>False
 | some n=>match v with
   | .sl j off len sz=>(0≤n∧n<len∧sz=size)∧K (.ptr j (off+n.toNat*size))
   | .snap m cs=>(0≤n∧n<m)∧K (.cptr (cs.drop (n.toNat*size)))
   | .full m cs=>(0≤n∧n<m)∧K (.cptr (cs.drop (n.toNat*size)))
   | _=>False
theorem zq {t e:TypeId}{ei:TypeInfo}(ht:P.underlying t=some (.slice e)) (he:P.info? e=some ei) {v i:AV}{x y:Value}{K:AV→Prop}(hx:Rep G v x) (hi:Rep G i y) (k:dB ei.size v i K):
  Yl P G w (Instr.indexAt t x y) K:=by
 unfold dB at k
 split at k
 ·exact k.elim
 ·rename_i n hn
  obtain⟨kk,rfl⟩:=QV hi hn
  split at k
  ·rename_i j off len sz
   obtain⟨⟨h0,h1,rfl⟩,k⟩:=k
   simp only[Rep]at hx
   obtain⟨b,o,c,ad,h2,h3,h4,h5,rfl⟩:=hx
   obtain rfl:=h5 (by omega)
   refine⟨_,.pointer (some ⟨b,o+(off+n.toNat*ei.size),none⟩),?_,by simp only[Rep];exact⟨b,o,h2,rfl⟩,k⟩
   simp[Instr.indexAt,asIntOf,run_underlying ht,h0,h1,sizeOf,typeInfo,he,dK,Nat.add_assoc]
  ·rename_i m cs
   obtain⟨⟨h0,h1⟩,k⟩:=k
   simp only[Rep]at hx
   rcases hx with ⟨rfl,_,_⟩|⟨b,o,c,h2,rfl,h3⟩
   ·omega
   ·refine⟨_,.pointer (some ⟨b,o+n.toNat*ei.size,none⟩),?_,by simp only[Rep];exact⟨b,_,rfl,h3.drop _⟩,k⟩
    simp[Instr.indexAt,asIntOf,run_underlying ht,h0,h1,sizeOf,typeInfo,he,dK]
  ·rename_i m cs
   obtain⟨⟨h0,h1⟩,k⟩:=k
   simp only[Rep]at hx
   rcases hx with ⟨rfl,_,_⟩|⟨b,o,rfl,h3⟩
   ·omega
   ·refine⟨_,.pointer (some ⟨b,o+n.toNat*ei.size,none⟩),?_,by simp only[Rep];exact⟨b,_,rfl,h3.drop _⟩,k⟩
    simp[Instr.indexAt,asIntOf,run_underlying ht,h0,h1,sizeOf,typeInfo,he,dK]
  ·exact k.elim
def cT (len size:Nat) (v i:AV) (K:AV→Prop):Prop:=
 match asI i with
 | none=>False
 | some n=>match v with
   | .ptr j off=>(0≤n∧n<len)∧K (.ptr j (off+n.toNat*size))
   | .cptr cs=>(0≤n∧n<len)∧K (.cptr (cs.drop (n.toNat*size)))
   | _=>False
theorem wX {t e:TypeId}{len:Nat}{ei:TypeInfo}(ht:P.underlying t=some (.array len e)) (he:P.info? e=some ei) {v i:AV}{x y:Value}{K:AV→Prop}(hx:Rep G v x) (hi:Rep G i y) (k:cT len ei.size v i K):
  Yl P G w (Instr.indexAt t x y) K:=by
 unfold cT at k
 split at k
 ·exact k.elim
 ·rename_i n hn
  obtain⟨kk,rfl⟩:=QV hi hn
  split at k
  ·rename_i j off
   obtain⟨⟨h0,h1⟩,k⟩:=k
   simp only[Rep]at hx
   obtain⟨b,o,h2,rfl⟩:=hx
   refine⟨_,.pointer (some ⟨b,o+(off+n.toNat*ei.size),none⟩),?_,by simp only[Rep];exact⟨b,o,h2,rfl⟩,k⟩
   simp[Instr.indexAt,asIntOf,run_underlying ht,h0,h1,sizeOf,typeInfo,he,dK,Nat.add_assoc,Instr.sureAddr]
  ·rename_i cs
   obtain⟨⟨h0,h1⟩,k⟩:=k
   simp only[Rep]at hx
   obtain⟨b,o,rfl,h3⟩:=hx
   refine⟨_,.pointer (some ⟨b,o+n.toNat*ei.size,none⟩),?_,by simp only[Rep];exact⟨b,_,rfl,h3.drop _⟩,k⟩
   simp[Instr.indexAt,asIntOf,run_underlying ht,h0,h1,sizeOf,typeInfo,he,dK,Instr.sureAddr]
  ·exact k.elim
def lk (o:Option AV) (d:Int):Option Int:=match o with|none=>some d|some v=>asI v
def jl (v:AV) (lo hi:Option AV) (K:AV→Prop):Prop:=
 match v with
 | .lit (.string s)=>(match lk lo 0,lk hi s.size with
   | some l,some h=>(0≤l∧l≤h∧h≤s.size)∧K (S (s.extract l.toNat h.toNat))
   | _,_=>False)
 | _=>False
def nW (G:Gh):Option AV→Option Value→Prop
 | none,none=>True
 | some v,some x=>Rep G v x
 | _,_=>False
theorem og {v:AV}{x:Value}{n:Int}{y:Nat}{c:BoundsCode}(hx:Rep G v x) (e:asI v=some n) (h0:0≤n) (h1:n≤y):(Instr.sliceBound x y c).run P w=.ok n.toNat w:=by
 obtain⟨k,rfl⟩:=QV hx e
 simp[Instr.sliceBound,asIntOf,h0,h1]
theorem g6 {is:Bool}{len cap:Nat}{lo hi:Option AV}{xl xh:Option Value}{l h:Int}(hl:nW G lo xl) (hh:nW G hi xh) (el:lk lo 0=some l) (eh:lk hi len=some h) (h0:0≤l) (h1:l≤h) (h2:h≤cap):
  (Instr.sliceBounds is len cap xl xh none).run P w=.ok (l.toNat,h.toNat,cap) w:=by
 have hhn:h≤(h.toNat:Int):=by omega
 cases lo with
 | none=>
   cases xl with
   | some _=>exact hl.elim
   | none=>
     simp only[lk,Option.some.injEq]at el
     subst el
     cases hi with
     | none=>
       cases xh with
       | some _=>exact hh.elim
       | none=>
         simp only[lk,Option.some.injEq]at eh
         subst eh
         simp[Instr.sliceBounds]
     | some v=>
       cases xh with
       | none=>exact hh.elim
       | some x=>
         simp only[lk]at eh
         simp[Instr.sliceBounds,og (P:=P) (w:=w) hh eh (by omega) h2]
 | some u=>
   cases xl with
   | none=>exact hl.elim
   | some z=>
     simp only[lk]at el
     cases hi with
     | none=>
       cases xh with
       | some _=>exact hh.elim
       | none=>
         simp only[lk,Option.some.injEq]at eh
         subst eh
         simp[Instr.sliceBounds,og (P:=P) (w:=w) hl el h0 h1]
     | some v=>
       cases xh with
       | none=>exact hh.elim
       | some x=>
         simp only[lk]at eh
         simp[Instr.sliceBounds,og (P:=P) (w:=w) hh eh (by omega) h2,og (P:=P) (w:=w) (y:=h.toNat) hl el h0 (by omega)]
theorem jI {t:TypeId}{d:TypeDesc}(ht:P.underlying t=some d) (hd:∀ n e,d≠.array n e) (x:Value) (a b c:Option Value):(Instr.sliceAt t x a b c).run P w=(Instr.slice t x a b c).run P w:=by
 unfold Instr.sliceAt
 simp only[Sem.run_bind,run_underlying ht,Result.andThen_ok]
theorem Su {t:TypeId}(ht:P.underlying t=some .string) {v:AV}{lo hi:Option AV}{x:Value}{xl xh:Option Value}{K:AV→Prop}(hx:Rep G v x) (hl:nW G lo xl) (hh:nW G hi xh) (k:jl v lo hi K):
  Yl P G w (Instr.sliceAt t x xl xh none) K:=by
 unfold jl at k
 split at k
 ·rename_i s
  simp only[Rep]at hx
  obtain⟨rfl,_⟩:=hx
  split at k
  ·rename_i l h el eh
   obtain⟨⟨h0,h1,h2⟩,k⟩:=k
   refine⟨_,.string (s.extract l.toNat h.toNat),?_,by simp[Rep,Value.oneCell'],k⟩
   rw[jI ht (by simp)]
   simp[Instr.slice,run_underlying ht,g6 (P:=P) (w:=w) (is:=false) hl hh el eh h0 h1 h2]
  ·exact k.elim
 ·exact k.elim
def iC (size:Nat) (v:AV) (lo hi:Option AV) (K:AV→Prop):Prop:=
 match v with
 | .sl i off len sz=>(match lk lo 0,lk hi len with
   | some l,some h=>(0≤l∧l≤h∧h≤len∧sz=size)∧K (.sl i (off+l.toNat*size) (h.toNat-l.toNat) size)
   | _,_=>False)
 | .snap n cs=>(match lk lo 0,lk hi n with
   | some l,some h=>(0≤l∧l≤h∧h≤n)∧K (.snap (h.toNat-l.toNat) ((cs.drop (l.toNat*size)).take ((h.toNat-l.toNat)*size)))
   | _,_=>False)
 | .full n cs=>(match lk lo 0,lk hi n with
   | some l,some h=>(0≤l∧l≤h∧h≤n)∧K (.snap (h.toNat-l.toNat) ((cs.drop (l.toNat*size)).take ((h.toNat-l.toNat)*size)))
   | _,_=>False)
 | _=>False
theorem S9 {t e:TypeId}{ei:TypeInfo}(ht:P.underlying t=some (.slice e)) (he:P.info? e=some ei) {v:AV}{lo hi:Option AV}{x:Value}{xl xh:Option Value}{K:AV→Prop}(hx:Rep G v x)
  (hl:nW G lo xl) (hh:nW G hi xh) (k:iC ei.size v lo hi K):Yl P G w (Instr.sliceAt t x xl xh none) K:=by
 have cut:∀ (n c:Nat) (cs:List AV) (b o:Nat) (l h:Int),RepAt G cs b o→n≤c→0≤l→l≤h→h≤n→
   Rep G (.snap (h.toNat-l.toNat) ((cs.drop (l.toNat*ei.size)).take ((h.toNat-l.toNat)*ei.size))) (.slice (if c=l.toNat then some ⟨b,o,none⟩ else (some ⟨b,o,none⟩:Option Addr).map (·.add (l.toNat*ei.size))) (h.toNat-l.toNat) (c-l.toNat)):=by
  intro n c cs b o l h h3 hnc h0 h1 h2
  simp only[Rep]
  by_cases hc:c=l.toNat
  ·rw[if_pos hc]
   have e0:h.toNat-l.toNat=0:=by omega
   exact .inr ⟨b,o,c-l.toNat,by omega,rfl,by rw[e0];simp[RepAt]⟩
  ·rw[if_neg hc]
   exact .inr ⟨b,o+l.toNat*ei.size,c-l.toNat,by omega,by simp[dK],(h3.drop _).take _⟩
 unfold iC at k
 split at k
 ·rename_i i off len sz
  split at k
  ·rename_i l h el eh
   obtain⟨⟨h0,h1,h2,rfl⟩,k⟩:=k
   simp only[Rep]at hx
   obtain⟨b,o,c,ad,h3,h4,h5,h6,rfl⟩:=hx
   have hb:=g6 (P:=P) (w:=w) (is:=true) (cap:=c) hl hh el eh h0 h1 (by omega)
   refine⟨_,_,by rw[jI ht (by simp)];simp[Instr.slice,run_underlying ht,hb,sizeOf,typeInfo,he];rfl,?_,k⟩
   simp only[Rep]
   have hlc:l.toNat≤c:=by omega
   have hcap:off+l.toNat*ei.size+(c-l.toNat)*ei.size≤G.cap i:=by
    rw[Nat.add_assoc,← Nat.add_mul,Nat.add_sub_cancel' hlc];exact h4
   by_cases hc:c=l.toNat
   ·rw[if_pos hc]
    exact⟨b,o,c-l.toNat,ad,h3,hcap,by omega,fun hp=>by omega,rfl⟩
   ·rw[if_neg hc]
    refine⟨b,o,c-l.toNat,ad+l.toNat*ei.size,h3,hcap,by omega,fun hp=>?_,by simp[dK]⟩
    have:=h6 (by omega)
    omega
  ·exact k.elim
 ·rename_i n cs
  split at k
  ·rename_i l h el eh
   obtain⟨⟨h0,h1,h2⟩,k⟩:=k
   simp only[Rep]at hx
   rcases hx with ⟨rfl,rfl,za,rfl⟩|⟨b,o,c,h2',rfl,h3⟩
   ·have hb:=g6 (P:=P) (w:=w) (is:=true) (cap:=0) hl hh el eh h0 h1 (by omega)
    refine⟨_,_,by rw[jI ht (by simp)];simp[Instr.slice,run_underlying ht,hb,sizeOf,typeInfo,he];rfl,?_,k⟩
    have:l=0:=by omega
    have:h=0:=by omega
    subst_vars
    simp[Rep,RepAt]
   ·have hb:=g6 (P:=P) (w:=w) (is:=true) (cap:=c) hl hh el eh h0 h1 (by omega)
    refine⟨_,_,by rw[jI ht (by simp)];simp[Instr.slice,run_underlying ht,hb,sizeOf,typeInfo,he];rfl,?_,k⟩
    exact cut n c cs b o l h h3 h2' h0 h1 h2
  ·exact k.elim
 ·rename_i n cs
  split at k
  ·rename_i l h el eh
   obtain⟨⟨h0,h1,h2⟩,k⟩:=k
   simp only[Rep]at hx
   rcases hx with ⟨rfl,rfl,za,rfl⟩|⟨b,o,rfl,h3⟩
   ·have hb:=g6 (P:=P) (w:=w) (is:=true) (cap:=0) hl hh el eh h0 h1 (by omega)
    refine⟨_,_,by rw[jI ht (by simp)];simp[Instr.slice,run_underlying ht,hb,sizeOf,typeInfo,he];rfl,?_,k⟩
    have:l=0:=by omega
    have:h=0:=by omega
    subst_vars
    simp[Rep,RepAt]
   ·have hb:=g6 (P:=P) (w:=w) (is:=true) (cap:=n) hl hh el eh h0 h1 (by omega)
    refine⟨_,_,by rw[jI ht (by simp)];simp[Instr.slice,run_underlying ht,hb,sizeOf,typeInfo,he];rfl,?_,k⟩
    exact cut n n cs b o l h h3 (Nat.le_refl _) h0 h1 h2
  ·exact k.elim
 ·exact k.elim
def mB (v:AV) (K:AV→Prop):Prop:=match v with|.sl _ _ _ _=>K (.full 0 [])|.snap _ _=>K (.full 0 [])|.full _ _=>K (.full 0 [])|_=>False
theorem Rz {t e:TypeId}{ei:TypeInfo}(ht:P.underlying t=some (.slice e)) (he:P.info? e=some ei) {v:AV}{x:Value}{K:AV→Prop}(hx:Rep G v x) (k1 k2:IntKind) (k:mB v K):
  Yl P G w (Instr.sliceAt t x none (some (.int k1 0)) (some (.int k2 0))) K:=by
 have key:∀ (a:Option Addr) (len cap:Nat),K (.full 0 [])→Yl P G w (Instr.sliceAt t (.slice a len cap) none (some (.int k1 0)) (some (.int k2 0))) K:=by
  intro a len cap k
  refine⟨_,.slice a 0 0,by rw[jI ht (by simp)];simp[Instr.slice,run_underlying ht,Instr.sliceBounds,Instr.sliceBound,asIntOf,sizeOf,typeInfo,he],?_,k⟩
  simp only[Rep]
  exact .inl ⟨trivial,trivial,_,rfl⟩
 unfold mB at k
 split at k
 ·simp only[Rep]at hx
  obtain⟨b,o,c,ad,_,_,_,_,rfl⟩:=hx
  exact key _ _ _ k
 ·simp only[Rep]at hx
  rcases hx with ⟨_,_,za,rfl⟩|⟨b,o,c,_,rfl,_⟩
  ·exact key _ _ _ k
  ·exact key _ _ _ k
 ·simp only[Rep]at hx
  rcases hx with ⟨_,_,za,rfl⟩|⟨b,o,rfl,_⟩
  ·exact key _ _ _ k
  ·exact key _ _ _ k
 ·exact k.elim
def acl (v:AV) (h:ae) (K:AV→Prop):Prop:=
 match v with
 | .lit (.string s)=>K (I s.size)
 | .sl _ _ len _=>K (I len)
 | .snap n _=>K (I n)
 | .full n _=>K (I n)
 | .map i=>(match h[i]? with|some (.amap es _)=>K (I es.length)|_=>False)
 | _=>False
def adm:TypeDesc→Bool
 | .string=>true
 | .slice _=>true
 | .map _ _=>true
 | _=>false
def HC:TypeDesc→AV→Bool
 | .string,.lit (.string _)=>true
 | .slice _,.sl _ _ _ _=>true
 | .slice _,.snap _ _=>true
 | .slice _,.full _ _=>true
 | .map _ _,.map _=>true
 | _,_=>false
theorem aa6 (s:Sim G h w) {t ty:TypeId}{d:TypeDesc}(ht:P.underlying t=some d) {v:AV}{x:Value}{K:AV→Prop}(hx:Rep G v x) (hd:HC d v=true) (k:acl v h K):Yl P G w (Builtin.len_ #[t] ty #[x]) K:=by
 unfold acl at k
 split at k
 ·cases d<;>simp[HC]at hd
  simp only[Rep]at hx
  obtain⟨rfl,_⟩:=hx
  exact⟨_,_,by simp[Builtin.len_,run_underlying ht];rfl,by simp[Rep,Value.oneCell',goInt],k⟩
 ·cases d<;>simp[HC]at hd
  simp only[Rep]at hx
  obtain⟨b,o,c,ad,_,_,_,_,rfl⟩:=hx
  exact⟨_,_,by simp[Builtin.len_,run_underlying ht];rfl,by simp[Rep,Value.oneCell',goInt],k⟩
 ·cases d<;>simp[HC]at hd
  simp only[Rep]at hx
  rcases hx with ⟨rfl,_,za,rfl⟩|⟨b,o,c,_,rfl,_⟩<;>exact⟨_,_,by simp[Builtin.len_,run_underlying ht];rfl,by simp[Rep,Value.oneCell',goInt],k⟩
 ·cases d<;>simp[HC]at hd
  simp only[Rep]at hx
  rcases hx with ⟨rfl,_,za,rfl⟩|⟨b,o,rfl,_⟩<;>exact⟨_,_,by simp[Builtin.len_,run_underlying ht];rfl,by simp[Rep,Value.oneCell',goInt],k⟩
 ·rename_i i
  cases d<;>simp[HC]at hd
  split at k
  ·rename_i es clock hes
   simp only[Rep]at hx
   obtain⟨b,h1,rfl⟩:=hx
   obtain⟨b',arr,e1,e2,e3⟩:=s.obj _ _ hes
   rw[h1]at e1
   cases e1
   have hl:arr.size=es.length:=by simpa using e3.length
   refine⟨_,.int .i64 es.length,?_,by simp[Rep,Value.oneCell'],k⟩
   simp[Builtin.len_,run_underlying ht,getObj,Sem.run,e2,goInt,hl]
  ·exact k.elim
 ·exact k.elim
def iL (i:Nat) (v:AV) (K:AV→Prop):Prop:=match v with|.tup vs=>(match vs[i]? with|some a=>K a|none=>False)|_=>False
theorem Pq {i:Nat}{v:AV}{x:Value}{K:AV→Prop}(hx:Rep G v x) (k:iL i v K):Yl P G w (Instr.extract x i) K:=by
 unfold iL at k
 split at k
 ·simp only[Rep]at hx
  obtain⟨vs,rfl,h1⟩:=hx
  split at k
  ·rename_i a ha
   obtain⟨u,h2,h3⟩:=h1.at _ a ha
   exact⟨a,u,by simp[Instr.extract,h2],h3,k⟩
  ·exact k.elim
 ·exact k.elim
def FI (x y:AV) (K:AV→Prop):Prop:=match x,y with|.lit (.int k a),.lit (.int _ b)=>K (.lit (.int k (if b > a then b else a)))|_,_=>False
def FJ (x y:AV) (K:AV→Prop):Prop:=match x,y with|.lit (.int k a),.lit (.int _ b)=>K (.lit (.int k (if b<a then b else a)))|_,_=>False
theorem Z5 {ts:Array TypeId}{t:TypeId}{x y:AV}{a b:Value}{K:AV→Prop}(hx:Rep G x a) (hy:Rep G y b) (k:FI x y K):Yl P G w (Builtin.max_ ts t #[a,b]) K:=by
 unfold FI at k
 split at k
 ·simp only[Rep]at hx hy
  obtain⟨rfl,_⟩:=hx
  obtain⟨rfl,_⟩:=hy
  exact⟨_,_,by simp[Builtin.max_,Builtin.max2];rfl,by simp[Rep,Value.oneCell'],k⟩
 ·exact k.elim
theorem ZT {ts:Array TypeId}{t:TypeId}{x y:AV}{a b:Value}{K:AV→Prop}(hx:Rep G x a) (hy:Rep G y b) (k:FJ x y K):Yl P G w (Builtin.min_ ts t #[a,b]) K:=by
 unfold FJ at k
 split at k
 ·simp only[Rep]at hx hy
  obtain⟨rfl,_⟩:=hx
  obtain⟨rfl,_⟩:=hy
  exact⟨_,_,by simp[Builtin.min_,Builtin.min2];rfl,by simp[Rep,Value.oneCell'],k⟩
 ·exact k.elim
def Dl (t:TypeId) (v:AV) (K:AV→Prop):Prop:=K (.iface t v)
theorem Wy {t:TypeId}{d:TypeDesc}(ht:P.underlying t=some d) (hd:∀ m,d≠.interface m) {v:AV}{x:Value}{K:AV→Prop}(hx:Rep G v x) (k:Dl t v K):Yl P G w (Instr.makeInterface t x) K:=by
 refine⟨_,.iface t x,?_,by simp only[Rep];exact⟨x,rfl,hx⟩,k⟩
 unfold Instr.makeInterface
 simp only[Sem.run_bind,run_underlying ht,Result.andThen_ok]
 cases d<;>first|rfl|exact absurd rfl (hd _)
end
end
section
variable [Tabs]
section
variable {P:Program}{G:Gh}{h:ae}{w:World}
def splice {α:Type}(l:List α) (off:Nat) (xs:List α):List α:=l.take off++xs++l.drop (off+xs.length)
theorem gA {α:Type}{l xs:List α}{off:Nat}(h:off+xs.length≤l.length):(splice l off xs).length=l.length:=by
 simp[splice];omega
theorem dD {α:Type}{l xs:List α}{off:Nat}(h:off+xs.length≤l.length) (j:Nat):(splice l off xs)[j]?=if j<off then l[j]? else if j<off+xs.length then xs[j-off]? else l[j]?:=by
 have ht:(l.take off).length=off:=by simp;omega
 unfold splice
 by_cases h1:j<off
 ·rw[if_pos h1,List.append_assoc,List.getElem?_append_left (by omega),List.getElem?_take,if_pos h1]
 ·rw[if_neg h1]
  by_cases h2:j<off+xs.length
  ·rw[if_pos h2,List.append_assoc,List.getElem?_append_right (by omega),ht,List.getElem?_append_left (by omega)]
  ·rw[if_neg h2,List.getElem?_append_right (by simp;omega),List.getElem?_drop]
   congr 1
   simp
   omega
theorem RepL.splice {G:Gh}{l xs:List AV}{vs us:List Value}{off:Nat}(h:RepL G l vs) (k:RepL G xs us):RepL G (splice l off xs) (splice vs off us):=by
 unfold AL.splice
 rw[show us.length=xs.length from k.length]
 exact ((h.take off).append k).append (h.drop _)
theorem xM (off:Nat):∀ (xs:List Value) (k:Nat) (arr:Array Value),off+k+xs.length≤arr.size→
  ((xs.zipIdx k).foldl (fun (cs:Array Value) (x:Value×Nat)=>cs.setIfInBounds (off+x.2) x.1) arr).toList=splice arr.toList (off+k) xs
 | [],k,arr,_=>by simp[splice]
 | x::xs,k,arr,hl=>by
   simp only[List.length_cons]at hl
   simp only[List.zipIdx_cons,List.foldl_cons]
   rw[xM off xs (k+1) _ (by simp;omega)]
   apply List.ext_getElem?
   intro j
   rw[dD (by simp;omega),dD (by simp;omega)]
   simp only[Array.toList_setIfInBounds,List.getElem?_set,List.length_cons,Array.length_toList]
   by_cases h1:j<off+k
   ·rw[if_pos (by omega),if_pos h1,if_neg (by omega)]
   ·rw[if_neg h1]
    by_cases h2:j=off+k
    ·subst h2
     rw[if_pos (by omega),if_pos rfl,if_pos (by omega),if_pos (by omega)]
     simp
    ·rw[if_neg (by omega),if_neg (show ¬ off+k=j by omega)]
     by_cases h3:j<off+k+(xs.length+1)
     ·rw[if_pos (by omega),if_pos h3]
      rw[show j-(off+k)=(j-(off+(k+1)))+1 by omega,List.getElem?_cons_succ]
     ·rw[if_neg (by omega),if_neg h3]
def EN:List AV→List (Nat×Nat×AV)→Option (List AV)
 | cs,[]=>some cs
 | cs,(off,n,v)::rest=>if (!v.isTup&&(v.cells.length==n&&decide (off+n≤cs.length)))=true then EN (splice cs off v.cells) rest else none
def AJ (place:Nat→Option (Nat×Nat)):List (Nat×AV)→Option (List (Nat×Nat×AV))
 | []=>some []
 | (i,v)::rest=>match place i,AJ place rest with
   | some (off,n),some ps=>some ((off,n,v)::ps)
   | _,_=>none
theorem Uc {place:Nat→Option (Nat×Nat)}:∀ {ps:List (Nat×AV)}{xs:List (Nat×Value)}{qs:List (Nat×Nat×AV)}{cs:List AV}{arr:Array Value}{l:List AV},
  AJ place ps=some qs→ps.map (·.1)=xs.map (·.1)→RepL G (ps.map (·.2)) (xs.map (·.2))→RepL G cs arr.toList→EN cs qs=some l→
  ∃ arr':Array Value,Instr.fill place arr xs=some arr'∧RepL G l arr'.toList
 | [],xs,qs,cs,arr,l,hp,hk,hr,hc,e=>by
   have:xs=[]:=by simpa using hk.symm
   subst this
   simp only[AJ,Option.some.injEq]at hp
   subst hp
   simp only[EN,Option.some.injEq]at e
   subst e
   exact⟨arr,by simp[Instr.fill],hc⟩
 | (i,v)::ps,[],qs,cs,arr,l,hp,hk,hr,hc,e=>by simp at hk
 | (i,v)::ps,(i',x)::xs,qs,cs,arr,l,hp,hk,hr,hc,e=>by
   simp only[List.map_cons,List.cons.injEq]at hk
   obtain⟨rfl,hk⟩:=hk
   simp only[List.map_cons,RepL]at hr
   obtain⟨x',xs',hx,hr1,hr2⟩:=hr
   simp only[List.cons.injEq]at hx
   obtain⟨rfl,rfl⟩:=hx
   simp only[AJ]at hp
   split at hp
   ·rename_i off n qs' h1 h2
    cases hp
    simp only[EN]at e
    split at e
    ·rename_i hcond
     simp only[Bool.and_eq_true,Bool.not_eq_true',beq_iff_eq,decide_eq_true_eq]at hcond
     obtain⟨ht,hn,hle⟩:=hcond
     have hv:=hr1.cells ht
     have hlen:x.cells.size=n:=by have:=hv.length;simp at this;omega
     have hcl:arr.size=cs.length:=by have:=hc.length;simpa using this
     have key:=xM off x.cells.toList 0 arr (by simp;omega)
     have:=Uc (place:=place) (arr:=x.cells.zipIdx.foldl (fun cs (c,j)=>cs.setIfInBounds (off+j) c) arr) h2 hk hr2 (by
      have e1:(x.cells.zipIdx.foldl (fun (cs:Array Value) (x:Value×Nat)=>cs.setIfInBounds (off+x.2) x.1) arr).toList=splice arr.toList off x.cells.toList:=by
       rw[← Array.foldl_toList]
       have:x.cells.zipIdx.toList=x.cells.toList.zipIdx 0:=by simp
       rw[this]
       simpa using key
      exact (by rw[e1];exact hc.splice hv:RepL G (splice cs off v.cells) (x.cells.zipIdx.foldl (fun (cs:Array Value) (x:Value×Nat)=>cs.setIfInBounds (off+x.2) x.1) arr).toList)) e
     obtain⟨arr',h3,h4⟩:=this
     refine⟨arr',?_,h4⟩
     simp only[Instr.fill,h1]
     rw[if_neg (by simp;omega)]
     exact h3
    ·cases e
   ·cases hp
def pr (zs:List AV) (ps:List (Nat×Nat×AV)) (K:AV→Prop):Prop:=match EN zs ps with|some cs=>K (.agg cs)|none=>False
def jP (P:Program):List Field→Option (List (Nat×Nat))
 | []=>some []
 | f::fs=>match P.info? f.type,jP P fs with
   | some i,some l=>some ((f.offset,i.size)::l)
   | _,_=>none
theorem v8:∀ {fs:List Field}{l:List (Nat×Nat)},jP P fs=some l→(fs.mapM fun f=>(do pure (f.offset,← sizeOf f.type):Sem (Nat×Nat))).run P w=.ok l w
 | [],l,e=>by simp only[jP,Option.some.injEq]at e;subst e;simp
 | f::fs,l,e=>by
   simp only[jP]at e
   split at e
   ·rename_i i l' h1 h2
    cases e
    have ih:=v8 h2
    simp only[List.mapM_cons,Sem.run_bind]
    have hs:(sizeOf f.type).run P w=.ok i.size w:=by simp[sizeOf,typeInfo,h1]
    simp only[bind_pure_comp]at ih
    simp only[bind_pure_comp,Sem.run_map,Sem.run_bind,hs,Result.andThen_ok,Sem.run_pure,ih]
   ·cases e
theorem UC {t:TypeId}{fs:Array Field}{i:TypeInfo}{z:Value}{l:List (Nat×Nat)}{ps:List (Nat×AV)}{qs:List (Nat×Nat×AV)}{xs:Array (Nat×Value)}{K:AV→Prop}(ht:P.underlying t=some (.struct fs)) (hi:P.info? t=some i)
  (hz:i.zero=some z) (hzo:okV z=true) (hl:jP P fs.toList=some l) (hp:AJ (fun j=>l[j]?) ps=some qs) (hk:ps.map (·.1)=xs.toList.map (·.1)) (hr:RepL G (ps.map (·.2)) (xs.toList.map (·.2)))
  (k:pr (ofV z).cells qs K):Yl P G w (Instr.build t xs) K:=by
 unfold pr at k
 split at k
 ·rename_i cs hcs
  have hzc:RepL G (ofV z).cells z.cells.toList:=(rX G z hzo).cells (by
   unfold ofV Ih;split<;>(try split)<;>rfl)
  obtain⟨arr',h1,h2⟩:=Uc hp hk hr hzc hcs
  refine⟨_,.agg arr',?_,by simp only[Rep];exact⟨arr'.toList,by simp,h2⟩,k⟩
  have hf:=v8 (w:=w) hl
  have hm:(fs.mapM fun f=>(do pure (f.offset,← sizeOf f.type):Sem (Nat×Nat))).run P w=.ok l.toArray w:=by
   rw[Array.mapM_eq_mapM_toList]
   simp only[Sem.run_map,hf,Result.andThen_ok]
  have h1':Instr.fill (fun (x:Nat)=>l.toArray[x]?) z.cells xs.toList=some arr':=by
   have:(fun (x:Nat)=>l.toArray[x]?)=(fun (x:Nat)=>l[x]?):=by funext x;simp
   rw[this];exact h1
  simp only[Instr.build,Sem.run_bind,zeroValue,typeInfo,run_program,Result.andThen_ok,hi,hz,Sem.run_pure,run_underlying ht,hm,h1']
 ·exact k.elim
end
end
section
variable [Tabs]
section
variable {P:Program}{G:Gh}{h:ae}{w:World}
def Gh.freeze (G:Gh) (b:Nat) (vs:List Value):Gh:={ G with F:=fun c o=>if c=b then vs[o]? else G.F c o }
theorem Q9 (s:Sim G h w) (vs:Array Value) (t:TypeId):
  Sim (G.freeze w.heap.size vs.toList) h (w.alloc (.cells vs t))∧Evo G h w (G.freeze w.heap.size vs.toList) h (w.alloc (.cells vs t)):=by
 have hF:∀ o,G.F w.heap.size o=none:=fun o=>by
  cases e:G.F w.heap.size o with
  | none=>rfl
  | some v=>have:=nI s e;omega
 have le:G.le (G.freeze w.heap.size vs.toList):=⟨fun _ _ e=>e,fun _ _ _=>rfl,fun b o v e=>by
  simp only[Gh.freeze]
  split
  ·rename_i hb;subst hb;rw[hF]at e;cases e
  ·exact e⟩
 have hold:∀ b,b<w.heap.size→(w.alloc (.cells vs t)).heap[b]?=w.heap[b]?:=fun b hb=>by
  show (w.heap.push _)[b]?=_
  rw[Array.getElem?_push,if_neg (by omega)]
 refine⟨⟨fun i o hi=>(s.obj i o hi).keep le fun p hp hl=>hold _ (s.loc_lt hi hl hp),s.dom,s.apart,?_,?_,Tabs.mono le.F s.tab⟩,⟨le,by simp,rfl,rfl,rfl,fun b hb _=>hold b hb,fun b hb=>.inl hb,fun b o v e=>by
  simp only[Gh.freeze]at e
  split at e
  ·rename_i hb;subst hb;exact .inr (.inr (Nat.le_refl _))
  ·exact .inl e⟩⟩
 ·intro b o v e
  simp only[Gh.freeze]at e
  split at e
  ·rename_i hb
   subst hb
   rw[World.cell?_alloc_new]
   simpa using e
  ·rw[World.cell?_alloc_lt w _ _ (nI s e)]
   exact s.frz b o v e
 ·intro i o p hi hl hp off
  simp only[Gh.freeze]
  have:=s.loc_lt hi hl hp
  rw[if_neg (by omega)]
  exact s.sep i o p hi hl hp off
theorem ME (le:G.le (G.freeze w.heap.size vs)) {cs:List AV}(r:RepL G cs vs):RepAt (G.freeze w.heap.size vs) cs w.heap.size 0:=
 jK fun j a e=>by
  obtain⟨v,h1,h2⟩:=r.at j a e
  exact⟨v,by simp[Gh.freeze,h1],Rep.mono le a v h2⟩
def X4 (cs:List AV) (h:ae) (K:QT):Prop:=K (.ptr h.length 0) (h++[.cells cs])
theorem T8 (s:Sim G h w) {cs:List AV}{vs:Array Value}{t:TypeId}(r:RepL G cs vs.toList) {K:QT}(k:X4 cs h K):
  ∃ r' h' G',Rep G' r' (.pointer (some ⟨w.heap.size,0,none⟩))∧K r' h'∧Sim G' h' (w.alloc (.cells vs t))∧Evo G h w G' h' (w.alloc (.cells vs t)):=by
 have hl:=r.length
 have le:=Gh.le_add s.fresh (w.heap.size,0) vs.size
 have x:ObjAt (G.add h.length (w.heap.size,0) vs.size) (w.alloc (.cells vs t)) h.length (.cells cs):=by
  refine⟨w.heap.size,0,vs,t,0,0,by simp[Gh.add],?_,by omega,?_,?_,?_⟩
  ·show (w.heap.push _)[w.heap.size]?=_
   simp
  ·simp[Gh.add];simp at hl;omega
  ·simp[Gh.add]
  ·intro j a e
   obtain⟨v,h1,h2⟩:=r.at j a e
   exact⟨v,by simpa using h1,Rep.mono le a v h2⟩
 obtain⟨s',ev⟩:=ln s (.cells vs t) (.cells cs) vs.size x
 exact⟨_,_,_,by simp only[Rep];exact⟨w.heap.size,0,by simp[Gh.add],rfl⟩,k,s',ev⟩
def ie (n size:Nat) (vs:List AV) (K:AV→Prop):Prop:=(vs.length=n∧(vs.all fun v=>!v.isTup&&v.cells.length==size)=true)∧K (.full n (vs.flatMap (·.cells)))
theorem w4 (size:Nat):∀ {vs:List AV}{xs:List Value},RepL G vs xs→(vs.all fun v=>!v.isTup&&v.cells.length==size)=true→RepL G (vs.flatMap (·.cells)) (xs.flatMap fun x=>x.cells.toList)∧(vs.flatMap (·.cells)).length=vs.length*size
 | [],xs,r,_=>by simp only[RepL]at r;subst r;simp[RepL]
 | v::vs,xs,r,ha=>by
   simp only[RepL]at r
   obtain⟨x,xs',rfl,r1,r2⟩:=r
   simp only[List.all_cons,Bool.and_eq_true,Bool.not_eq_true',beq_iff_eq]at ha
   obtain⟨h1,h2⟩:=w4 size r2 ha.2
   simp only[List.flatMap_cons,List.length_append,List.length_cons,Nat.succ_mul]
   exact⟨(r1.cells ha.1.1).append h1,by omega⟩
theorem Qm (size:Nat):∀ (vs:List AV) (xs:List Value) (k:Nat) (arr:Array Value),RepL G vs xs→(vs.all fun v=>!v.isTup&&v.cells.length==size)=true→(k+vs.length)*size≤arr.size→
  ∃ arr':Array Value,Instr.fill (fun i=>some (i*size,size)) arr ((xs.zipIdx k).map fun p=>(p.2,p.1))=some arr'∧arr'.toList=splice arr.toList (k*size) (xs.flatMap fun x=>x.cells.toList)
 | [],xs,k,arr,r,ha,hl=>by
   simp only[RepL]at r
   subst r
   exact⟨arr,by simp[Instr.fill],by simp[splice]⟩
 | v::vs,xs,k,arr,r,ha,hl=>by
   simp only[RepL]at r
   obtain⟨x,xs',rfl,r1,r2⟩:=r
   simp only[List.all_cons,Bool.and_eq_true,Bool.not_eq_true',beq_iff_eq]at ha
   obtain⟨⟨ht,hn⟩,ha⟩:=ha
   have hc:=r1.cells ht
   have hsz:x.cells.size=size:=by have:=hc.length;simp at this;omega
   have hmul:(k+(v::vs).length)*size=k*size+size+vs.length*size:=by
    simp only[List.length_cons]
    rw[Nat.add_mul,Nat.succ_mul];omega
   have key:=xM (k*size) x.cells.toList 0 arr (by simp;omega)
   have e1:(x.cells.zipIdx.foldl (fun (cs:Array Value) (x:Value×Nat)=>cs.setIfInBounds (k*size+x.2) x.1) arr).toList=splice arr.toList (k*size) x.cells.toList:=by
    rw[← Array.foldl_toList]
    have:x.cells.zipIdx.toList=x.cells.toList.zipIdx 0:=by simp
    rw[this]
    simpa using key
   have hsz2:(x.cells.zipIdx.foldl (fun (cs:Array Value) (x:Value×Nat)=>cs.setIfInBounds (k*size+x.2) x.1) arr).size=arr.size:=by
    have:=congrArg List.length e1
    rw[gA (by simp;omega)]at this
    simpa using this
   obtain⟨arr',h1,h2⟩:=Qm size vs xs' (k+1) (x.cells.zipIdx.foldl (fun (cs:Array Value) (x:Value×Nat)=>cs.setIfInBounds (k*size+x.2) x.1) arr) r2 ha (by rw[hsz2,Nat.add_mul,Nat.succ_mul];omega)
   refine⟨arr',?_,?_⟩
   ·simp only[List.zipIdx_cons,List.map_cons,Instr.fill]
    rw[if_neg (by simp;omega)]
    exact h1
   ·rw[h2,e1]
    have hf:(xs'.flatMap fun x=>x.cells.toList).length=vs.length*size:=by
     obtain⟨q1,q2⟩:=w4 (G:=G) size r2 ha
     rw[q1.length,q2]
    apply List.ext_getElem?
    intro j
    have hx:x.cells.toList.length=size:=by simpa using hsz
    have hle:k*size+(x.cells.toList++xs'.flatMap fun x=>x.cells.toList).length≤arr.toList.length:=by simp[hf,hx];simp at hx;omega
    have hle1:k*size+x.cells.toList.length≤arr.toList.length:=by simp at hle ⊢;omega
    rw[dD (by rw[gA hle1];simp[hf,Nat.add_mul];simp at hle;omega),List.flatMap_cons,dD hle]
    rw[dD hle1]
    simp only[List.length_append,hf,hx,Nat.add_mul,Nat.one_mul]
    by_cases c1:j<k*size
    ·rw[if_pos (by omega),if_pos c1,if_pos c1]
    ·rw[if_neg c1,if_neg c1]
     by_cases c2:j<k*size+size
     ·rw[if_pos c2,if_pos c2,if_pos (by omega),List.getElem?_append_left (by omega)]
     ·rw[if_neg c2,if_neg c2]
      by_cases c3:j<k*size+size+vs.length*size
      ·rw[if_pos c3,if_pos (by omega),List.getElem?_append_right (by omega),hx]
       congr 1
       omega
      ·rw[if_neg c3,if_neg (by omega)]
theorem Iy (s:Sim G h w) {t e:TypeId}{i:TypeInfo}{z:Value}{n:Nat}{vs:List AV}{xs:List Value}{ps:Array (Nat×Value)}{K:AV→Prop}(ht:P.underlying t=some (.slice e)) (hi:P.info? e=some i)
  (hz:i.zero=some z) (hp:ps.toList=xs.zipIdx.map fun p=>(p.2,p.1)) (hr:RepL G vs xs) (hn:n*i.size≤2^24) (k:ie n i.size vs K):
  Ye P G h w (Instr.buildSlice t n ps) fun r h'=>K r∧h'=h:=by
 obtain⟨⟨rfl,ha⟩,k⟩:=k
 let zs:Array Value:=if vs.length*i.size=0 then #[] else z.cells
 obtain⟨arr',h1,h2⟩:=Qm i.size vs xs 0 ((Array.range (vs.length*i.size)).map (zs[·%zs.size]!)) hr ha (by simp)
 obtain⟨hf1,hf2⟩:=w4 i.size hr ha
 have harr:arr'.toList=xs.flatMap fun x=>x.cells.toList:=by
  rw[h2]
  have:(xs.flatMap fun x=>x.cells.toList).length=vs.length*i.size:=by rw[hf1.length,hf2]
  simp[splice,this]
 obtain⟨s',ev⟩:=Q9 s arr' e
 refine⟨_,.slice (some ⟨w.heap.size,0,none⟩) vs.length vs.length,h,_,w.alloc (.cells arr' e),?_,?_,⟨k,rfl⟩,s',ev⟩
 ·simp only[Instr.buildSlice,Sem.run_bind,run_underlying ht,Result.andThen_ok,sizeOf,typeInfo,run_program,hi,Sem.run_pure]
  rw[if_neg (by omega)]
  rw[← hp]at h1
  by_cases h0:vs.length*i.size=0
  ·rw[if_pos h0]
   simp only[zs,if_pos h0]at h1
   simp only[Sem.run_bind,Sem.run_pure,Result.andThen_ok,h1,newRow,run_newObj]
   rfl
  ·rw[if_neg h0]
   simp only[zs,if_neg h0]at h1
   simp only[Sem.run_bind,Sem.run_pure,Result.andThen_ok,zeroValue,typeInfo,run_program,hi,hz,h1,newRow,run_newObj]
   rfl
 ·simp only[Rep]
  exact .inr ⟨w.heap.size,0,rfl,ME ev.le (by rw[harr];exact hf1)⟩
end
end
section
variable [Tabs]
section
variable {P:Program}{G:Gh}{h:ae}{w:World}
theorem I3 (w:World) (b:Nat) (x y:Obj):dx (dx w b x) b y=dx w b y:=by
 unfold dx
 simp[Array.setIfInBounds_setIfInBounds]
theorem rU (w:World) (b:Nat) (x:Obj) (h:w.heap[b]?=some x):dx w b x=w:=by
 unfold dx
 have:w.heap.setIfInBounds b x=w.heap:=by
  apply Array.ext_getElem?
  intro i
  rw[Array.getElem?_setIfInBounds]
  split
  ·rename_i hb
   subst hb
   split
   ·exact h.symm
   ·rename_i hn;rw[Array.getElem?_eq_none (by omega)]at h;cases h
  ·rfl
 rw[this]
theorem Wi (w:World) (b o:Nat) (arr:Array Value) (el:TypeId) (lo hi:Nat) (v:Value) (hb:w.heap[b]?=some (.cells arr el (lo,hi))) (hf:∀ k,k<arr.size→¬(lo≤k∧k<hi)) (ho:o<arr.size) (h1:v.oneCell'=true):
  (store ⟨b,o,none⟩ v).run P w=.ok () (dx w b (.cells (arr.setIfInBounds o v) el (lo,hi))):=by
 have hc:w.cell? ⟨b,o,none⟩=some arr[o]:=by simp[World.cell?,hb,ho]
 have hz:w.frozen? ⟨b,o,none⟩=false:=by
  have:=hf o ho
  simp only[World.frozen?,hb]
  simp only[Bool.and_eq_false_iff,decide_eq_false_iff_not]
  omega
 rw[run_store P w _ v _ h1,hc]
 simp only[hz,Bool.false_eq_true,if_false]
 congr 1
 unfold World.setCell dx
 congr 1
 apply Array.ext_getElem?
 intro i
 simp only[Array.getElem?_modify,Array.getElem?_setIfInBounds]
 have hbl:b<w.heap.size:=(Array.getElem?_eq_some_iff.1 hb).1
 by_cases hi':b=i
 ·subst hi'
  rw[hb]
  simp[hbl]
 ·simp[hi']
theorem uW (b o:Nat) (el:TypeId) (lo hi:Nat):∀ (vs:List Value) (i:Nat) (arr:Array Value) (w:World),w.heap[b]?=some (.cells arr el (lo,hi))→(∀ k,k<arr.size→¬(lo≤k∧k<hi))→o+i+vs.length≤arr.size→(∀ v∈vs,v.oneCell'=true)→
  ∃ arr':Array Value,(storeCells ⟨b,o,none⟩ vs i).run P w=.ok () (dx w b (.cells arr' el (lo,hi)))∧arr'.toList=splice arr.toList (o+i) vs
 | [],i,arr,w,hb,hf,hl,h1=>⟨arr,by simp[storeCells,rU w b _ hb],by simp[splice]⟩
 | v::vs,i,arr,w,hb,hf,hl,h1=>by
   simp only[List.length_cons]at hl
   have hs:=Wi (P:=P) w b (o+i) arr el lo hi v hb hf (by omega) (h1 v (by simp))
   have hbl:b<w.heap.size:=(Array.getElem?_eq_some_iff.1 hb).1
   obtain⟨arr',h2,h3⟩:=uW b o el lo hi vs (i+1) (arr.setIfInBounds (o+i) v) (dx w b (.cells (arr.setIfInBounds (o+i) v) el (lo,hi))) (nG w b _ hbl) (by simpa using hf) (by simp;omega) (fun x hx=>h1 x (by simp[hx]))
   refine⟨arr',?_,?_⟩
   ·simp only[storeCells,Sem.run_bind,dK,hs,Result.andThen_ok,h2,I3]
   ·rw[h3]
    apply List.ext_getElem?
    intro j
    rw[dD (by simp;omega),dD (by simp;omega)]
    simp only[Array.toList_setIfInBounds,List.getElem?_set,List.length_cons,Array.length_toList]
    by_cases c1:j<o+i
    ·rw[if_pos (by omega),if_pos c1,if_neg (by omega)]
    ·rw[if_neg c1]
     by_cases c2:j=o+i
     ·subst c2
      rw[if_pos (by omega),if_pos rfl,if_pos (by omega),if_pos (by omega)]
      simp
     ·rw[if_neg (by omega),if_neg (show ¬ o+i=j by omega)]
      by_cases c3:j<o+i+(vs.length+1)
      ·rw[if_pos (by omega),if_pos c3]
       rw[show j-(o+i)=(j-(o+(i+1)))+1 by omega,List.getElem?_cons_succ]
      ·rw[if_neg (by omega),if_neg c3]
theorem F3 {vs:List Value}:∀ {az:List AV},RepL G az vs→az.all AV.one=true→∀ v∈vs,v.oneCell'=true
 | [],r,_=>by simp only[RepL]at r;subst r;simp
 | a::az,r,ha=>by
   simp only[RepL]at r
   obtain⟨x,xs,rfl,r1,r2⟩:=r
   simp only[List.all_cons,Bool.and_eq_true]at ha
   intro v hv
   simp only[List.mem_cons]at hv
   rcases hv with rfl|hv
   ·exact r1.one ha.1
   ·exact F3 r2 ha.2 v hv
def uY (n:Nat) (v u:AV) (h:ae) (K:ae→Prop):Prop:=
 match v with
 | .ptr i o=>(match h[i]? with
   | some (.cells cs)=>(u.isTup=false∧u.cells.length=n∧u.cells.all AV.one=true∧o+n≤cs.length)∧K (h.set i (.cells (splice cs o u.cells)))
   | _=>False)
 | _=>False
theorem rM (s:Sim G h w) {i:Nat}{cs:List AV}(hi:h[i]?=some (.cells cs)):∃ b o arr el lo hi',G.loc i=some (b,o)∧w.heap[b]?=some (.cells arr el (lo,hi'))∧(∀ k,k<arr.size→¬(lo≤k∧k<hi'))∧
   cs.length≤G.cap i∧o+G.cap i≤arr.size∧∀ (j:Nat) (a:AV),cs[j]?=some a→∃ v,arr[o+j]?=some v∧Rep G a v:=s.obj i _ hi
theorem WH (s:Sim G h w) {t:TypeId}{i:TypeInfo}(hi:P.info? t=some i) {v u:AV}{x y:Value}{K:ae→Prop}(hx:Rep G v x) (hy:Rep G u y) (k:uY i.size v u h K):
  ∃ h' G' w',(Instr.storeAt t x y).run P w=.ok () w'∧K h'∧Sim G' h' w'∧Evo G h w G' h' w':=by
 unfold uY at k
 split at k
 ·rename_i j off
  split at k
  ·rename_i cs hcs
   obtain⟨⟨ht,hn,ho,hle⟩,k⟩:=k
   simp only[Rep]at hx
   obtain⟨b,o,h1,rfl⟩:=hx
   obtain⟨b',o',arr,el,lo,hi',e1,e2,e3,e4,e5,e6⟩:=rM s hcs
   rw[h1]at e1
   cases e1
   have hc:=hy.cells ht
   have hlen:y.cells.size=i.size:=by have:=hc.length;simp at this;omega
   have hlen':y.cells.toList.length=i.size:=by simpa using hlen
   obtain⟨arr',h2,h3⟩:=uW (P:=P) b (o+off) el lo hi' y.cells.toList 0 arr w e2 e3 (by omega) (F3 hc ho)
   have hsz:arr'.size=arr.size:=by
    have:=congrArg List.length h3
    rw[gA (by simp;omega)]at this
    simpa using this
   have x:ObjAt G (dx w b (.cells arr' el (lo,hi'))) j (.cells (splice cs off u.cells)):=by
    refine⟨b,o,arr',el,lo,hi',h1,nG w b _ (Array.getElem?_eq_some_iff.1 e2).1,by rw[hsz];exact e3,by rw[gA (by omega)];exact e4,by rw[hsz];exact e5,?_⟩
    intro q a ha
    rw[dD (by omega)]at ha
    have hget:arr'[o+q]?=arr'.toList[o+q]?:=by simp
    rw[hget,h3,dD (by simp;omega)]
    by_cases c1:q<off
    ·rw[if_pos c1]at ha
     rw[if_pos (by omega)]
     simpa using e6 q a ha
    ·rw[if_neg c1]at ha
     rw[if_neg (by omega)]
     by_cases c2:q<off+u.cells.length
     ·rw[if_pos c2]at ha
      rw[if_pos (by omega)]
      obtain⟨v,h4,h5⟩:=hc.at _ a ha
      exact⟨v,by rw[← h4];congr 1;omega,h5⟩
     ·rw[if_neg c2]at ha
      rw[if_neg (by omega)]
      simpa using e6 q a ha
   obtain⟨s',ev⟩:=wK s hcs rfl h1 rfl x
   refine⟨_,_,_,?_,k,s',ev⟩
   simp only[Instr.storeAt,Instr.sureAddr,Sem.run_bind,Sem.run_pure,Result.andThen_ok,storeVar,sizeOf,typeInfo,run_program,hi]
   rw[if_neg (by simp;omega)]
   exact h2
  ·exact k.elim
 ·exact k.elim
def ct (h:ae) (size:Nat):AV→Option (Nat×List AV)
 | .snap n cs=>if cs.length=n*size then some (n,cs) else none
 | .full n cs=>if cs.length=n*size then some (n,cs) else none
 | .sl i off len sz=>match h[i]? with
   | some (.cells cs)=>if sz=size∧off+len*size≤cs.length then some (len,(cs.drop off).take (len*size)) else none
   | _=>none
 | .lit (.string s)=>if size=1 then some (s.size,s.data.toList.map fun b=>.lit (.int .u8 b.toNat)) else none
 | _=>none
theorem AP (G:Gh):∀ l:List UInt8,RepL G (l.map fun b=>.lit (.int .u8 b.toNat)) (l.map fun b=>Value.int .u8 b.toNat)
 | []=>by simp[RepL]
 | b::l=>by simp only[List.map_cons,RepL];exact⟨_,_,rfl,by simp[Rep,Value.oneCell'],AP G l⟩
theorem vA (s:Sim G h w) {b o n:Nat}{cs:List AV}(r:RepAt G cs b o) (hn:cs.length=n):∃ vs:List Value,vs.length=n∧RepL G cs vs∧∀ j u,vs[j]?=some u→w.cell? ⟨b,o+j,none⟩=some u:=by
 refine⟨(List.range n).map fun j=>(G.F b (o+j)).getD undef,by simp,?_,?_⟩
 ·refine jO (by simp;omega) fun j a ha=>?_
  obtain⟨u,h2,h3⟩:=r.at j a ha
  have:j<n:=by have:=(List.getElem?_eq_some_iff.1 ha).1;omega
  exact⟨u,by simp[this,h2],h3⟩
 ·intro j u hu
  by_cases hj:j<n
  ·obtain⟨u',h2,_⟩:=r.at j cs[j] (by simp)
   simp[hj,h2]at hu
   subst hu
   exact s.frz b (o+j) _ h2
  ·simp[hj]at hu
theorem n5 (s:Sim G h w) {size:Nat}{v:AV}{x:Value}(hx:Rep G v x) {m:Nat}{xs:List AV}(e:ct h size v=some (m,xs)):
  ∃ vs:List Value,vs.length=m*size∧RepL G xs vs∧(Builtin.lenOf x).run P w=.ok m w∧(Builtin.firstCells size m x).run P w=.ok vs.toArray w:=by
 have row:∀ (b o c:Nat) (vs:List Value),vs.length=m*size→(∀ j u,vs[j]?=some u→w.cell? ⟨b,o+j,none⟩=some u)→
   (Builtin.firstCells size m (.slice (some ⟨b,o,none⟩) m c)).run P w=.ok vs.toArray w:=fun b o c vs hl hv=>by
  have:=run_loadCells_list (P:=P) w ⟨b,o,none⟩ vs (fun j v hj=>by rw[dK];exact hv j v hj)
  rw[hl]at this
  simpa [Builtin.firstCells] using this
 unfold ct at e
 split at e
 ·rename_i n cs
  split at e
  ·rename_i hl
   cases e
   simp only[Rep]at hx
   rcases hx with ⟨rfl,rfl,za,rfl⟩|⟨b,o,c,h1,rfl,h2⟩
   ·exact⟨[],by simp,by simp[RepL],by cases za<;>simp[Builtin.lenOf],by cases za<;>simp[Builtin.firstCells,loadCells,loadCellsFrom]⟩
   ·obtain⟨vs,h3,h4,h5⟩:=vA s h2 hl
    exact⟨vs,h3,h4,by simp[Builtin.lenOf],row _ _ _ _ h3 h5⟩
  ·cases e
 ·rename_i n cs
  split at e
  ·rename_i hl
   cases e
   simp only[Rep]at hx
   rcases hx with ⟨rfl,rfl,za,rfl⟩|⟨b,o,rfl,h2⟩
   ·exact⟨[],by simp,by simp[RepL],by cases za<;>simp[Builtin.lenOf],by cases za<;>simp[Builtin.firstCells,loadCells,loadCellsFrom]⟩
   ·obtain⟨vs,h3,h4,h5⟩:=vA s h2 hl
    exact⟨vs,h3,h4,by simp[Builtin.lenOf],row _ _ _ _ h3 h5⟩
  ·cases e
 ·rename_i i off len sz
  split at e
  ·rename_i cs hcs
   split at e
   ·rename_i hc
    obtain⟨rfl,hle⟩:=hc
    cases e
    simp only[Rep]at hx
    obtain⟨b,o,c,ad,h1,h2,h3,h4,rfl⟩:=hx
    obtain⟨b',o',arr,el,lo,hi',e1,e2,e3,e4,e5,e6⟩:=rM s hcs
    rw[h1]at e1
    cases e1
    rcases Nat.eq_zero_or_pos c with hc0|hc0
    ·have:m=0:=by omega
     subst this
     refine⟨[],by simp,by simp[RepL],by simp[Builtin.lenOf],?_⟩
     have:=row b ad c [] (by simp) (by simp)
     simpa using this
    ·obtain rfl:=h4 hc0
     have hsz:off+m*sz≤G.cap i:=by omega
     refine⟨(arr.toList.drop (o+off)).take (m*sz),by simp;omega,?_,by simp[Builtin.lenOf],row _ _ _ _ (by simp;omega) ?_⟩
     ·refine jO (by simp;omega) fun j a ha=>?_
      rw[List.getElem?_take]at ha ⊢
      split at ha
      ·rename_i hj
       rw[if_pos hj]
       rw[List.getElem?_drop]at ha ⊢
       obtain⟨v,h5,h6⟩:=e6 (off+j) a ha
       exact⟨v,by rw[Array.getElem?_toList,← h5];congr 1;omega,h6⟩
      ·cases ha
     ·intro j u hu
      rw[List.getElem?_take]at hu
      split at hu
      ·rw[List.getElem?_drop,Array.getElem?_toList]at hu
       simp[World.cell?,e2,hu]
      ·cases hu
   ·cases e
  ·cases e
 ·rename_i s'
  split at e
  ·rename_i h1
   subst h1
   cases e
   simp only[Rep]at hx
   obtain⟨rfl,_⟩:=hx
   refine⟨s'.data.toList.map fun b=>Value.int .u8 b.toNat,by simp,AP G _,by simp[Builtin.lenOf],?_⟩
   have:(s'.extract 0 s'.size)=s':=by
    apply ByteArray.ext
    simp
   simp only[Builtin.firstCells,this,Sem.run_pure]
   congr 1
   apply Array.toList_inj.1
   simp
  ·cases e
 ·cases e
end
end
section
variable [Tabs]
section
variable {P:Program}{G:Gh}{h:ae}{w:World}
def eC (size bytes:Nat) (v x:AV) (h:ae) (K:QT):Prop:=
 match ct h size x with
 | none=>False
 | some (m,xs)=>match v with
   | .full n cs=>(cs.length=n*size∧(n+m)*bytes≤1099511627776)∧(if m=0 then K (.full n cs) h else K (.sl h.length 0 (n+m) size) (h++[.cells (cs++xs)]))
   | .sl i off len sz=>(match h[i]? with
     | some (.cells cs)=>(sz=size∧off+len*size=cs.length∧xs.all AV.one=true∧(len+m)*bytes≤1099511627776)∧K (.sl h.length 0 (len+m) size) (h.set i .dead++[.cells (cs.drop off++xs)])
     | _=>False)
   | _=>False
theorem Ki (n:Nat):∀ r c,Builtin.growBy n r c≤max c (n+(n+768) / 4)
 | 0,c=>by simp[Builtin.growBy];omega
 | r+1,c=>by
   simp only[Builtin.growBy]
   split
   ·omega
   ·have:=Ki n r (c+(c+768) / 4)
    omega
theorem SW {need cap:Nat}(h:cap<need):Builtin.nextslicecap need cap≤202*need:=by
 unfold Builtin.nextslicecap
 split
 ·omega
 ·split
  ·omega
  ·have:=Ki need 4 cap
   omega
structure F7 (P:Program) (t t2 e:TypeId) (i:TypeInfo) (z:Value):Prop where
 ht:P.underlying t=some (.slice e)
 ht2:∃ d,P.underlying t2=some d∧∀ k,d≠.int k
 hi:P.info? e=some i
 hz:i.zero=some z
 hzs:z.cells.size=i.size
 hb:0<i.bytes
theorem PI {t2:TypeId}{d:TypeDesc}(h2:P.underlying t2=some d) (hd:∀ k,d≠.int k):(do pure ((← underlying t2) matches .int _):Sem Bool).run P w=.ok false w:=by
 simp only[Sem.run_bind,run_underlying h2,Result.andThen_ok]
 cases d<;>first|rfl|exact absurd rfl (hd _)
theorem IU {t t2 e ty:TypeId}{i:TypeInfo}{z:Value}(T:F7 P t t2 e i z) (base:Option Addr) (sLen sCap m:Nat) (y:Value) (vs vs' old:List Value) (hm:(Builtin.lenOf y).run P w=.ok m w) (hv:(Builtin.firstCells i.size m y).run P w=.ok vs.toArray w)
  (hv':(Builtin.firstCells i.size m y).run P { w with drawn:=w.drawn+1 }=.ok vs'.toArray { w with drawn:=w.drawn+1 }) (ho:(Builtin.firstCells i.size sLen (.slice base sLen sCap)).run P { w with drawn:=w.drawn+1 }=.ok old.toArray { w with drawn:=w.drawn+1 }) (hbd:(sLen+m)*i.bytes≤1099511627776):
  (Builtin.append_ #[t,t2] ty #[.slice base sLen sCap,y]).run P w=
   if sLen+m≤sCap then (match base with|some a=>(do storeCells (a.add (sLen*i.size)) vs;pure (.slice base (sLen+m) sCap):Sem Value)|none=>pure (.slice base (sLen+m) sCap)).run P w
   else
    let c:=sLen+m+(w.tape w.drawn (.appendCap (sLen+m) sCap e))%(2^63-(sLen+m))
    .ok (.slice (some ⟨w.heap.size,0,none⟩) (sLen+m) c) (World.alloc { w with drawn:=w.drawn+1 } (.cells (old.toArray++vs'.toArray++Builtin.zeroCells z.cells (c-(sLen+m))) e)):=by
 obtain⟨ht,⟨d,h2,hd⟩,hi,hz,hzs,hb⟩:=T
 have hzf:=PI (w:=w) h2 hd
 have hmat:(match d with|.int _=>true|_=>false)=false:=by cases d<;>first|rfl|exact absurd rfl (hd _)
 simp only[Builtin.append_]
 simp only[List.getElem?_toArray,List.getElem?_cons_zero,List.getElem?_cons_succ,Sem.run_bind,run_underlying ht,run_underlying h2,Result.andThen_ok,sizeOf,typeInfo,run_program,hi,Sem.run_pure,hmat,Bool.false_eq_true,if_false,hm,Sem.run_ite]
 by_cases hroom:sLen+m≤sCap
 ·rw[if_pos hroom,if_pos hroom]
  simp only[hv,Result.andThen_ok,Bool.not_false,if_true,Sem.run_bind,Sem.run_pure]
  cases base<;>rfl
 ·rw[if_neg hroom,if_neg hroom]
  have hcap:Builtin.nextslicecap (sLen+m) sCap*i.bytes≤2^48:=by
   have h1:=SW (need:=sLen+m) (cap:=sCap) (by omega)
   have h2:Builtin.nextslicecap (sLen+m) sCap*i.bytes≤202*(sLen+m)*i.bytes:=Nat.mul_le_mul_right _ h1
   have h3:202*(sLen+m)*i.bytes=202*((sLen+m)*i.bytes):=Nat.mul_assoc _ _ _
   omega
  have hneed:sLen+m≤1099511627776:=Nat.le_trans (Nat.le_mul_of_pos_right _ hb) hbd
  have hmax:IntKind.i64.max=9223372036854775807:=rfl
  rw[if_neg (by rw[hmax];omega),if_neg (by omega)]
  simp only[run_choose,Question.forced,Question.cut,Bool.false_eq_true,if_false,Result.andThen_ok,run_askRoom]
  simp only[ho,hv',Result.andThen_ok,Bool.not_false,if_true,zeroValue,typeInfo,run_program,hi,hz,Sem.run_bind,Sem.run_pure,newRow,run_newObj]
  rfl
theorem Gn (zs:Array Value) (n:Nat):(Builtin.zeroCells zs n).size=n*zs.size:=by simp[Builtin.zeroCells]
theorem Tq (s:Sim G h w) {size:Nat}{z:Value}{e:TypeId}(hzs:z.cells.size=size) (len m c:Nat) (cs xs:List AV) (old vs:List Value) (hc:len+m≤c) (r1:RepL G cs old) (r2:RepL G xs vs) (h1:cs.length=len*size) (h2:xs.length=m*size) (K:QT)
  (k:K (.sl h.length 0 (len+m) size) (h++[.cells (cs++xs)])):
  ∃ r h' G',Rep G' r (.slice (some ⟨w.heap.size,0,none⟩) (len+m) c)∧K r h'∧Sim G' h' (w.alloc (.cells (old.toArray++vs.toArray++Builtin.zeroCells z.cells (c-(len+m))) e))∧
    Evo G h w G' h' (w.alloc (.cells (old.toArray++vs.toArray++Builtin.zeroCells z.cells (c-(len+m))) e)):=by
 have hsz:(old.toArray++vs.toArray++Builtin.zeroCells z.cells (c-(len+m))).size=c*size:=by
  have e1:=r1.length
  have e2:=r2.length
  simp only[Array.size_append,List.size_toArray,Gn,hzs,e1,e2,h1,h2]
  rw[← Nat.add_mul,← Nat.add_mul,Nat.add_sub_cancel' hc]
 have hget:∀ (j:Nat) (v:Value),(old++vs)[j]?=some v→(old.toArray++vs.toArray++Builtin.zeroCells z.cells (c-(len+m)))[j]?=some v:=fun j v h3=>by
  have hj:j<(old++vs).length:=(List.getElem?_eq_some_iff.1 h3).1
  rw[Array.getElem?_append_left (by simpa using hj)]
  simpa using h3
 generalize (old.toArray++vs.toArray++Builtin.zeroCells z.cells (c-(len+m)))=A at hsz hget ⊢
 have le:=Gh.le_add s.fresh (w.heap.size,0) (c*size)
 have x:ObjAt (G.add h.length (w.heap.size,0) (c*size)) (w.alloc (.cells A e)) h.length (.cells (cs++xs)):=by
  refine⟨w.heap.size,0,A,e,0,0,by simp[Gh.add],?_,by omega,?_,?_,?_⟩
  ·show (w.heap.push _)[w.heap.size]?=_
   simp
  ·simp only[Gh.add,if_true,List.length_append,h1,h2,← Nat.add_mul]
   exact Nat.mul_le_mul_right _ hc
  ·simp only[Gh.add,if_true,hsz];omega
  ·intro j a ha
   obtain⟨v,h3,h4⟩:=(r1.append r2).at j a ha
   exact⟨v,by rw[Nat.zero_add];exact hget j v h3,Rep.mono le a v h4⟩
 obtain⟨s',ev⟩:=ln s _ (.cells (cs++xs)) (c*size) x
 refine⟨_,_,_,?_,k,s',ev⟩
 simp only[Rep]
 exact⟨w.heap.size,0,c,0,by simp[Gh.add],by simp[Gh.add],hc,fun _=>rfl,rfl⟩
theorem Sw (s:Sim G h w) {t t2 e ty:TypeId}{i:TypeInfo}{z:Value}(T:F7 P t t2 e i z) {v x:AV}{a b:Value}(hx:Rep G v a) (hy:Rep G x b) {K:QT}(k:eC i.size i.bytes v x h K):
  Ye P G h w (Builtin.append_ #[t,t2] ty #[a,b]) K:=by
 unfold eC at k
 split at k
 ·exact k.elim
 ·rename_i m xs hxs
  obtain⟨sd,evd⟩:=s.drawn (w.drawn+1)
  obtain⟨vs,hvl,hvr,hm,hv⟩:=n5 (P:=P) s hy hxs
  obtain⟨vs',hvl',hvr',_,hv'⟩:=n5 (P:=P) sd hy hxs
  have hxl:xs.length=m*i.size:=by rw[← hvl,hvr.length]
  split at k
  ·rename_i n cs
   obtain⟨⟨hcl,hbd⟩,k⟩:=k
   simp only[Rep]at hx
   have hbase:∃ base,a=.slice base n n∧((n=0∧cs=[])∨∃ bb o,base=some ⟨bb,o,none⟩∧RepAt G cs bb o):=by
    rcases hx with ⟨rfl,rfl,za,rfl⟩|⟨bb,o,rfl,h2⟩
    ·exact⟨za,rfl,.inl ⟨rfl,rfl⟩⟩
    ·exact⟨some ⟨bb,o,none⟩,rfl,.inr ⟨bb,o,rfl,h2⟩⟩
   obtain⟨base,rfl,hbase⟩:=hbase
   have hold:∃ old:List Value,RepL G cs old∧(Builtin.firstCells i.size n (.slice base n n)).run P { w with drawn:=w.drawn+1 }=.ok old.toArray { w with drawn:=w.drawn+1 }:=by
    obtain⟨old,o1,o2,_,o4⟩:=n5 (P:=P) (size:=i.size) sd (v:=.full n cs) (x:=.slice base n n) (by
     simp only[Rep]
     rcases hbase with ⟨rfl,rfl⟩|⟨bb,o,rfl,h2⟩
     ·exact .inl ⟨rfl,rfl,_,rfl⟩
     ·exact .inr ⟨bb,o,rfl,h2⟩) (m:=n) (xs:=cs) (by simp[ct,hcl])
    exact⟨old,o2,o4⟩
   obtain⟨old,ho1,ho2⟩:=hold
   have R:=IU (ty:=ty) T base n n m b vs vs' old hm hv hv' ho2 hbd
   by_cases hm0:m=0
   ·subst hm0
    rw[if_pos rfl]at k
    rw[if_pos (by omega)]at R
    have hvs:vs=[]:=by
     have:vs.length=0:=by simpa using hvl
     exact List.length_eq_zero_iff.1 this
    subst hvs
    refine⟨_,.slice base n n,h,G,w,?_,?_,k,s,Evo.refl _ _ _⟩
    ·rw[R]
     cases base<;>simp[storeCells]
    ·simp only[Rep]
     rcases hbase with ⟨rfl,rfl⟩|⟨bb,o,rfl,h2⟩
     ·exact .inl ⟨rfl,rfl,_,rfl⟩
     ·exact .inr ⟨bb,o,rfl,h2⟩
   ·rw[if_neg hm0]at k
    rw[if_neg (by omega)]at R
    obtain⟨r,h',G',q1,q2,q3,q4⟩:=Tq sd (e:=e) T.hzs n m (n+m+(w.tape w.drawn (.appendCap (n+m) n e))%(2^63-(n+m))) cs xs old vs' (by omega) ho1 hvr' hcl hxl K k
    exact⟨r,_,h',G',_,R,q1,q2,q3,evd.trans q4⟩
  ·rename_i j off len sz
   split at k
   ·rename_i cs hcs
    obtain⟨⟨rfl,hcl,hone,hbd⟩,k⟩:=k
    simp only[Rep]at hx
    obtain⟨bb,o,c,ad,h1,h2,h3,h4,rfl⟩:=hx
    obtain⟨b',o',arr,el,lo,hi',e1,e2,e3,e4,e5,e6⟩:=rM s hcs
    rw[h1]at e1
    cases e1
    have hdl:(cs.drop off).length=len*i.size:=by simp;omega
    have hold:∃ old:List Value,RepL G (cs.drop off) old∧(Builtin.firstCells i.size len (.slice (some ⟨bb,ad,none⟩) len c)).run P { w with drawn:=w.drawn+1 }=.ok old.toArray { w with drawn:=w.drawn+1 }:=by
     obtain⟨old,o1,o2,_,o4⟩:=n5 (P:=P) (size:=i.size) sd (v:=.sl j off len i.size) (x:=.slice (some ⟨bb,ad,none⟩) len c) (by
      simp only[Rep];exact⟨bb,o,c,ad,h1,h2,h3,h4,rfl⟩) (m:=len) (xs:=(cs.drop off).take (len*i.size)) (by simp[ct,hcs];omega)
     rw[List.take_of_length_le (by omega)]at o2
     exact⟨old,o2,o4⟩
    obtain⟨old,ho1,ho2⟩:=hold
    have R:=IU (ty:=ty) T (some ⟨bb,ad,none⟩) len c m b vs vs' old hm hv hv' ho2 hbd
    by_cases hroom:len+m≤c
    ·rw[if_pos hroom]at R
     have hmul:len*i.size+m*i.size≤c*i.size:=by rw[← Nat.add_mul];exact Nat.mul_le_mul_right _ hroom
     have had:len=0∧m=0∧c=0∨ad=o+off:=by
      rcases Nat.eq_zero_or_pos c with hc0|hc0
      ·exact .inl ⟨by omega,by omega,hc0⟩
      ·exact .inr (h4 hc0)
     have hst:∃ arr':Array Value,(storeCells ((⟨bb,ad,none⟩:Addr).add (len*i.size)) vs).run P w=.ok () (dx w bb (.cells arr' el (lo,hi')))∧arr'.size=arr.size∧arr'.toList=splice arr.toList (o+cs.length) vs:=by
      rcases had with ⟨rfl,rfl,rfl⟩|rfl
      ·have hvs:vs=[]:=by
        have:vs.length=0:=by simpa using hvl
        exact List.length_eq_zero_iff.1 this
       subst hvs
       exact⟨arr,by simp[storeCells,rU w bb _ e2],rfl,by simp[splice]⟩
      ·obtain⟨arr',q1,q2⟩:=uW (P:=P) bb (o+off+len*i.size) el lo hi' vs 0 arr w e2 e3 (by omega) (F3 hvr hone)
       refine⟨arr',by rw[dK];exact q1,?_,?_⟩
       ·have:=congrArg List.length q2
        rw[gA (by simp;omega)]at this
        simpa using this
       ·rw[q2];congr 1;omega
     obtain⟨arr',q1,q2,q3⟩:=hst
     have le:=Gh.le_add s.fresh (bb,o+off) (G.cap j-off)
     have x:ObjAt (G.add h.length (bb,o+off) (G.cap j-off)) (dx w bb (.cells arr' el (lo,hi'))) h.length (.cells (cs.drop off++xs)):=by
      refine⟨bb,o+off,arr',el,lo,hi',by simp[Gh.add],nG w bb _ (Array.getElem?_eq_some_iff.1 e2).1,by rw[q2];exact e3,?_,?_,?_⟩
      ·simp only[Gh.add,if_true,List.length_append,hdl,hxl];omega
      ·simp only[Gh.add,if_true,q2];omega
      ·intro p aa ha
       have hget:arr'[o+off+p]?=arr'.toList[o+off+p]?:=by simp
       rw[hget,q3,dD (by simp;omega)]
       by_cases hp:p<(cs.drop off).length
       ·rw[List.getElem?_append_left hp,List.getElem?_drop]at ha
        rw[if_pos (by simp at hp;omega)]
        obtain⟨v,h5,h6⟩:=e6 _ aa ha
        exact⟨v,by rw[Array.getElem?_toList,← h5];congr 1;omega,Rep.mono le aa v h6⟩
       ·rw[List.getElem?_append_right (by omega)]at ha
        rw[if_neg (by simp at hp;omega)]
        obtain⟨v,h5,h6⟩:=hvr.at _ aa ha
        have hpl:p-(cs.drop off).length<vs.length:=(List.getElem?_eq_some_iff.1 h5).1
        rw[if_pos (by simp at hp hpl;omega)]
        exact⟨v,by rw[← h5];congr 1;simp;omega,Rep.mono le aa v h6⟩
     obtain⟨s',ev⟩:=Xn s hcs rfl h1 (o+off) (G.cap j-off) (.cells arr' el (lo,hi')) (.cells (cs.drop off++xs)) rfl x
     refine⟨_,.slice (some ⟨bb,ad,none⟩) (len+m) c,_,_,_,?_,?_,k,s',ev⟩
     ·rw[R]
      simp only[Sem.run_bind,q1,Result.andThen_ok,Sem.run_pure]
     ·simp only[Rep]
      refine⟨bb,o+off,c,ad,by simp[Gh.add],by simp[Gh.add];omega,hroom,fun hc0=>?_,rfl⟩
      rw[h4 hc0];rfl
    ·rw[if_neg hroom]at R
     obtain⟨s2,ev2⟩:=Pi sd j
     have hlen2:(h.set j .dead).length=h.length:=by simp
     obtain⟨r,h',G',p1,p2,p3,p4⟩:=Tq s2 (e:=e) T.hzs len m (len+m+(w.tape w.drawn (.appendCap (len+m) c e))%(2^63-(len+m))) (cs.drop off) xs old vs' (by omega) ho1 hvr' hdl hxl K (by rw[hlen2];exact k)
     exact⟨r,_,h',G',_,R,p1,p2,p3,(evd.trans ev2).trans p4⟩
   ·exact k.elim
  ·exact k.elim
end
end
section
variable [Tabs]
open Go.MapKept
section
variable {P:Program}{G:Gh}{h:ae}{w:World}
abbrev eN:=List (Value×Nat×AV)
def kOk:TypeDesc→Value→Bool
 | .string,.string _=>true
 | .int k,.int j _=>decide (j=k)
 | _,_=>false
def keq:Value→Value→Bool
 | .string a,.string b=>a==b
 | .int _ a,.int _ b=>a==b
 | _,_=>false
def lW (k:Value):eN→Nat→Option (Nat×Nat×AV)
 | [],_=>none
 | (k',n,v)::r,i=>if keq k k'=true then some (i,n,v) else lW k r (i+1)
def Ox (k:Value) (v:AV) (clock:Nat) (es:eN):AObj:=
 match lW k es 0 with
 | some (i,n,_)=>.amap (es.set i (k,n,v)) clock
 | none=>.amap (es++[(k,clock,v)]) (clock+1)
theorem gS {d:TypeDesc}{k:Value}(h:kOk d k=true):IsKey d k:=by
 cases d<;>cases k<;>simp_all [kOk,IsKey]
theorem Hw {d:TypeDesc}{a b:Value}(ha:kOk d a=true) (hb:kOk d b=true):Instr.sameNow d a b=some (keq a b):=by
 cases d<;>cases a<;>cases b<;>simp_all [kOk,Instr.sameNow,keq]
theorem ZQ {d:TypeDesc}{a b:Value}(ha:kOk d a=true) (hb:kOk d b=true) (h:keq a b=true):a=b:=by
 obtain⟨r,h1,h2⟩:=sameNow_of_keys (gS ha) (gS hb)
 rw[Hw ha hb]at h1
 cases h1
 exact h2.1 h
theorem BN {d:TypeDesc}{k:Value}(hk:kOk d k=true):∀ (es:eN) (l:List MapEntry) (i:Nat),RepE G es l→es.all (fun e=>kOk d e.1)=true→
  match lW k es i with
  | none=>Instr.findNow d k l i=some none
  | some (j,n,a)=>∃ e,Instr.findNow d k l i=some (some (j,e.val))∧i≤j∧l[j-i]?=some e∧e.born=n∧e.key=k∧Rep G a e.val∧es[j-i]?=some (k,n,a)
 | [],l,i,r,_=>by simp only[RepE]at r;subst r;simp[lW,Instr.findNow]
 | (k',n,a)::es,l,i,r,hf=>by
   simp only[RepE]at r
   obtain⟨e,rest,rfl,h1,h2,h3,h4⟩:=r
   simp only[List.all_cons,Bool.and_eq_true]at hf
   have hs:=Hw hk hf.1
   simp only[lW]
   by_cases hq:keq k k'=true
   ·rw[if_pos hq]
    have:=ZQ hk hf.1 hq
    subst this
    rw[hq]at hs
    exact⟨e,by simp only[Instr.findNow,h1,hs],Nat.le_refl _,by simp,h2,h1,h3,by simp⟩
   ·rw[if_neg hq]
    rw[show keq k k'=false by simpa using hq]at hs
    have ih:=BN hk es rest (i+1) h4 hf.2
    have hstep:Instr.findNow d k (e::rest) i=Instr.findNow d k rest (i+1):=by simp only[Instr.findNow,h1,hs]
    rw[hstep]
    cases hm:lW k es (i+1) with
    | none=>rw[hm]at ih;exact ih
    | some p=>
      obtain⟨j,n',a'⟩:=p
      rw[hm]at ih
      obtain⟨e',q1,q2,q3,q4,q5,q6,q7⟩:=ih
      refine⟨e',q1,by omega,?_,q4,q5,q6,?_⟩
      ·rw[show j-i=(j-(i+1))+1 by omega];simpa using q3
      ·rw[show j-i=(j-(i+1))+1 by omega];simpa using q7
theorem RepE.at {G:Gh}:∀ {es:eN}{l:List MapEntry},RepE G es l→∀ (j:Nat) (k:Value) (n:Nat) (a:AV),es[j]?=some (k,n,a)→∃ e,l[j]?=some e∧e.key=k∧e.born=n∧Rep G a e.val
 | [],l,h,j,k,n,a,e=>by simp at e
 | (k',n',a')::es,l,h,j,k,n,a,e=>by
   simp only[RepE]at h
   obtain⟨x,r,rfl,h1,h2,h3,h4⟩:=h
   cases j with
   | zero=>simp at e;obtain⟨rfl,rfl,rfl⟩:=e;exact⟨x,by simp,h1,h2,h3⟩
   | succ j=>simpa using RepE.at h4 j k n a (by simpa using e)
theorem vx {G:Gh}:∀ {es:eN}{l:List MapEntry},l.length=es.length→(∀ (j:Nat) (k:Value) (n:Nat) (a:AV),es[j]?=some (k,n,a)→∃ e,l[j]?=some e∧e.key=k∧e.born=n∧Rep G a e.val)→RepE G es l
 | [],l,hl,_=>by simp only[RepE];simpa using hl
 | (k,n,a)::es,[],hl,_=>by simp at hl
 | (k,n,a)::es,x::l,hl,h=>by
   simp only[RepE]
   obtain⟨e,h1,h2,h3,h4⟩:=h 0 k n a (by simp)
   simp at h1;subst h1
   exact⟨x,l,rfl,h2,h3,h4,vx (by simpa using hl) fun j k n a e=>by simpa using h (j+1) k n a (by simpa using e)⟩
theorem RepE.append {G:Gh}{es fs:eN}{l m:List MapEntry}(h:RepE G es l) (k:RepE G fs m):RepE G (es++fs) (l++m):=
 vx (by simp[h.length,k.length]) fun j key n a e=>by
  by_cases hj:j<es.length
  ·rw[List.getElem?_append_left hj]at e
   rw[List.getElem?_append_left (by rw[h.length];exact hj)]
   exact h.at _ _ _ _ e
  ·rw[List.getElem?_append_right (by omega)]at e
   rw[List.getElem?_append_right (by rw[h.length];omega),h.length]
   exact k.at _ _ _ _ e
theorem RepE.eraseIdx {G:Gh}{es:eN}{l:List MapEntry}(h:RepE G es l) (i:Nat):RepE G (es.eraseIdx i) (l.eraseIdx i):=
 vx (by rw[List.length_eraseIdx,List.length_eraseIdx,h.length]) fun j key n a e=>by
  rw[List.getElem?_eraseIdx]at e ⊢
  split at e
  ·rename_i hj;rw[if_pos hj];exact h.at _ _ _ _ e
  ·rename_i hj;rw[if_neg hj];exact h.at _ _ _ _ e
theorem RepE.set {G:Gh}{es:eN}{arr:Array MapEntry}(h:RepE G es arr.toList) (i:Nat) (k:Value) (n:Nat) (a:AV) (f:MapEntry→MapEntry) (hf:∀ e,arr[i]?=some e→(f e).key=k∧(f e).born=n∧Rep G a (f e).val):RepE G (es.set i (k,n,a)) (arr.modify i f).toList:=
 vx (by simp[← h.length]) fun j key m b e=>by
  rw[Array.getElem?_toList,Array.getElem?_modify]
  rw[List.getElem?_set]at e
  by_cases hij:i=j
  ·subst hij
   simp only[if_true]at e ⊢
   split at e
   ·rename_i hlt
    have hl:=h.length
    obtain⟨x,hx⟩:∃ x,arr[i]?=some x:=⟨arr[i]'(by simp at hl;omega),by simp⟩
    cases e
    obtain⟨q1,q2,q3⟩:=hf x hx
    exact⟨f x,by simp[hx],q1,q2,q3⟩
   ·cases e
  ·rw[if_neg hij]at e
   simp only[if_neg hij]
   obtain⟨x,h1,h2⟩:=h.at _ _ _ _ e
   exact⟨x,by simpa using h1,h2⟩
theorem jR (s:Sim G h w) {i:Nat}{es:eN}{clock:Nat}(hi:h[i]?=some (.amap es clock)):∃ b arr,G.loc i=some (b,0)∧w.heap[b]?=some (.map arr clock)∧RepE G es arr.toList:=s.obj i _ hi
def ir (d:TypeDesc) (ok:Bool) (z x key:AV) (h:ae) (K:AV→Prop):Prop:=
 match key with
 | .lit k=>match x with
   | .lit (.map none)=>if kOk d k=true then K (if ok then .tup [z,B false] else z) else False
   | .map i=>match h[i]? with
     | some (.amap es _)=>if (kOk d k&&es.all fun e=>kOk d e.1)=true then (match lW k es 0 with
       | some (_,_,v)=>K (if ok then .tup [v,B true] else v)
       | none=>K (if ok then .tup [z,B false] else z)) else False
     | _=>False
   | _=>False
 | _=>False
theorem zW {t:TypeId}{i:TypeInfo}{z:Value}(hi:P.info? t=some i) (hz:i.zero=some z):(zeroValue t).run P w=.ok z w:=by
 simp only[zeroValue,typeInfo,Sem.run_bind,run_program,Result.andThen_ok,hi,Sem.run_pure,hz]
theorem Rm (s:Sim G h w) {t kt et:TypeId}{d:TypeDesc}{i:TypeInfo}{z:Value}{ok:Bool}(ht:P.underlying t=some (.map kt et)) (hd:P.underlying kt=some d) (hi:P.info? et=some i) (hz:i.zero=some z) (hzo:okV z=true)
  {x key:AV} {xv kv:Value} (hx:Rep G x xv) (hk:Rep G key kv) {K:AV→Prop} (k:ir d ok (ofV z) x key h K):Yl P G w (Instr.lookup t xv kv ok) K:=by
 have hzr:=zW (P:=P) (w:=w) hi hz
 have pair:∀ {a:AV} {v:Value} (b:Bool),Rep G a v→Rep G (if ok then .tup [a,B b] else a) (if ok then .tuple #[v,.bool b] else v):=fun b r=>by
  cases ok
  ·exact r
  ·simp only[if_true,Rep,RepL]
   exact⟨_,rfl,_,_,rfl,r,_,_,rfl,⟨rfl,rfl⟩,rfl⟩
 unfold ir at k
 split at k
 ·rename_i kk
  simp only[Rep]at hk
  obtain⟨rfl,_⟩:=hk
  split at k
  ·split at k
   ·rename_i hkk
    simp only[Rep]at hx
    obtain⟨rfl,_⟩:=hx
    refine⟨_,_,?_,pair false (rX G z hzo),k⟩
    simp only[Instr.lookup,Sem.run_bind,run_underlying ht,Result.andThen_ok,Sem.run_pure,run_checkKey hd (gS hkk),run_findKey hd (show Instr.findNow d kv [] 0=some none from rfl),hzr]
   ·exact k.elim
  ·rename_i j
   split at k
   ·rename_i es clock hes
    split at k
    ·rename_i hall
     simp only[Bool.and_eq_true]at hall
     simp only[Rep]at hx
     obtain⟨b,h1,rfl⟩:=hx
     obtain⟨b',arr,e1,e2,e3⟩:=jR s hes
     rw[h1]at e1;cases e1
     have hf:=BN hall.1 es arr.toList 0 e3 hall.2
     split at k
     ·rename_i q n v hm
      simp only[hm]at hf
      obtain⟨e,q1,_,q3,q4,q5,q6,_⟩:=hf
      refine⟨_,_,?_,pair true q6,k⟩
      simp only[Instr.lookup,Sem.run_bind,run_underlying ht,Result.andThen_ok,Sem.run_pure,run_getObj_map e2,run_checkKey hd (gS hall.1),run_findKey hd q1]
     ·rename_i hm
      simp only[hm]at hf
      refine⟨_,_,?_,pair false (rX G z hzo),k⟩
      simp only[Instr.lookup,Sem.run_bind,run_underlying ht,Result.andThen_ok,Sem.run_pure,run_getObj_map e2,run_checkKey hd (gS hall.1),run_findKey hd hf,hzr]
    ·exact k.elim
   ·exact k.elim
  ·exact k.elim
 ·exact k.elim
theorem xS (s:Sim G h w) {i:Nat}{es es':eN}{clock clock':Nat}(hi:h[i]?=some (.amap es clock)) {b:Nat}(hl:G.loc i=some (b,0)) (arr':Array MapEntry) (hr:RepE G es' arr'.toList):
  Sim G (h.set i (.amap es' clock')) { w with heap:=w.heap.setIfInBounds b (.map arr' clock') }∧Evo G h w G (h.set i (.amap es' clock')) { w with heap:=w.heap.setIfInBounds b (.map arr' clock') }:=by
 obtain⟨b',arr,e1,e2,e3⟩:=jR s hi
 rw[hl]at e1;cases e1
 exact wK s hi rfl hl rfl ⟨b,arr',hl,nG w b _ (Array.getElem?_eq_some_iff.1 e2).1,hr⟩
def gq (d:TypeDesc) (x key v:AV) (h:ae) (K:ae→Prop):Prop:=
 match key,x with
 | .lit k,.map i=>(match h[i]? with
   | some (.amap es clock)=>if (kOk d k&&es.all fun e=>kOk d e.1)=true then K (h.set i (Ox k v clock es)) else False
   | _=>False)
 | _,_=>False
theorem NW {k:Value}{n:Nat}{a:AV}{v:Value}(r:Rep G a v):RepE G [(k,n,a)] [{ key:=k,val:=v,born:=n }]:=by
 simp only[RepE];exact⟨_,_,rfl,rfl,rfl,r,rfl⟩
theorem Ad (s:Sim G h w) {t kt et:TypeId}{d:TypeDesc}(ht:P.underlying t=some (.map kt et)) (hd:P.underlying kt=some d) {x key v:AV}{xv kv vv:Value}(hx:Rep G x xv) (hk:Rep G key kv) (hv:Rep G v vv) {K:ae→Prop}(k:gq d x key v h K):
  ∃ h' G' w',(Instr.mapUpdate t xv kv vv).run P w=.ok () w'∧K h'∧Sim G' h' w'∧Evo G h w G' h' w':=by
 unfold gq at k
 split at k
 ·rename_i kk i
  split at k
  ·rename_i es clock hes
   split at k
   ·rename_i hall
    simp only[Bool.and_eq_true]at hall
    simp only[Rep]at hx hk
    obtain⟨rfl,_⟩:=hk
    obtain⟨b,h1,rfl⟩:=hx
    obtain⟨b',arr,e1,e2,e3⟩:=jR s hes
    rw[h1]at e1;cases e1
    have hf:=BN hall.1 es arr.toList 0 e3 hall.2
    have hkk:=gS hall.1
    unfold Ox at k
    split at k
    ·rename_i q n v0 hm
     simp only[hm]at hf
     obtain⟨e,q1,_,q3,q4,q5,q6,_⟩:=hf
     have q3':arr[q]?=some e:=by simpa using q3
     obtain⟨s',ev⟩:=xS (clock':=clock) s hes h1 (arr.modify q fun e=>{ e with key:=kv,val:=vv }) (e3.set q kv n v _ fun e' he'=>by
      rw[q3']at he';cases he';exact⟨rfl,q4,hv⟩)
     refine⟨_,_,_,?_,k,s',ev⟩
     simp only[Instr.mapUpdate,Sem.run_bind,run_underlying ht,Result.andThen_ok,run_getObj_map e2,run_checkKey hd hkk,run_findKey hd q1,q3',Option.map_some,Option.getD_some,q5,run_keyThatStays hkk,run_setObj_map _ e2]
    ·rename_i hm
     simp only[hm]at hf
     obtain⟨s',ev⟩:=xS (clock':=clock+1) (es':=es++[(kv,clock,v)]) s hes h1 (arr.push { key:=kv,val:=vv,born:=clock }) (by rw[Array.toList_push];exact e3.append (NW hv))
     refine⟨_,_,_,?_,k,s',ev⟩
     simp only[Instr.mapUpdate,Sem.run_bind,run_underlying ht,Result.andThen_ok,run_getObj_map e2,run_checkKey hd hkk,run_findKey hd hf,run_setObj_map _ e2]
   ·exact k.elim
  ·exact k.elim
 ·exact k.elim
def kw (d:TypeDesc) (z x key:AV) (h:ae) (K:QT):Prop:=
 match key,x with
 | .lit k,.map i=>(match h[i]? with
   | some (.amap es clock)=>if (kOk d k&&es.all fun e=>kOk d e.1)=true then (match lW k es 0 with
     | some (_,n,v)=>K (.tup [v,I n]) h
     | none=>K (.tup [z,I clock]) (h.set i (.amap (es++[(k,clock,z)]) (clock+1)))) else False
   | _=>False)
 | _,_=>False
theorem zI {α:Type}:∀ {l:List α}{i:Nat}{a:α},l[i]?=some a→l.set i a=l
 | [],i,a,h=>by simp at h
 | x::l,0,a,h=>by simp at h;simp[h]
 | x::l,i+1,a,h=>by simp only[List.set_cons_succ];rw[zI (by simpa using h)]
theorem Pb {arr:Array MapEntry}{q:Nat}{e:MapEntry}{f:MapEntry→MapEntry}(h:arr[q]?=some e) (hf:f e=e):arr.modify q f=arr:=by
 apply Array.ext_getElem?
 intro i
 rw[Array.getElem?_modify]
 split
 ·rename_i hi;subst hi;simp[h,hf]
 ·rfl
theorem MU (s:Sim G h w) {t kt et:TypeId}{d:TypeDesc}{i:TypeInfo}{z:Value}(ht:P.underlying t=some (.map kt et)) (hd:P.underlying kt=some d) (hi:P.info? et=some i) (hz:i.zero=some z) (hzo:okV z=true)
  {x key:AV} {xv kv:Value} (hx:Rep G x xv) (hk:Rep G key kv) {K:QT} (k:kw d (ofV z) x key h K):Ye P G h w (Instr.mapEntry t xv kv) K:=by
 have hzr:=zW (P:=P) (w:=w) hi hz
 unfold kw at k
 split at k
 ·rename_i kk j
  split at k
  ·rename_i es clock hes
   split at k
   ·rename_i hall
    simp only[Bool.and_eq_true]at hall
    simp only[Rep]at hx hk
    obtain⟨rfl,_⟩:=hk
    obtain⟨b,h1,rfl⟩:=hx
    obtain⟨b',arr,e1,e2,e3⟩:=jR s hes
    rw[h1]at e1;cases e1
    have hf:=BN hall.1 es arr.toList 0 e3 hall.2
    have hkk:=gS hall.1
    split at k
    ·rename_i q n v0 hm
     simp only[hm]at hf
     obtain⟨e,q1,_,q3,q4,q5,q6,_⟩:=hf
     have q3':arr[q]?=some e:=by simpa using q3
     have hse:(arr.modify q fun e=>{ e with key:=kv })=arr:=Pb q3' (by rw[← q5])
     refine⟨_,.tuple #[e.val,.int .i64 n],h,G,w,?_,?_,k,s,Evo.refl _ _ _⟩
     ·simp only[Instr.mapEntry,Sem.run_bind,run_underlying ht,Result.andThen_ok,run_getObj_map e2,run_checkKey hd hkk,run_findKey hd q1,q3',Option.map_some,Option.getD_some,q5,run_keyThatStays hkk,run_setObj_map _ e2,hse,Sem.run_pure]
      rw[show w.heap.setIfInBounds b (.map arr clock)=w.heap from by
       have:=rU w b _ e2;exact congrArg World.heap this]
      simp[goInt,q4]
     ·simp only[Rep,RepL]
      exact⟨_,rfl,_,_,rfl,q6,_,_,rfl,⟨rfl,rfl⟩,rfl⟩
    ·rename_i hm
     simp only[hm]at hf
     obtain⟨s',ev⟩:=xS (clock':=clock+1) (es':=es++[(kv,clock,ofV z)]) s hes h1 (arr.push { key:=kv,val:=z,born:=clock }) (by rw[Array.toList_push];exact e3.append (NW (rX G z hzo)))
     refine⟨_,.tuple #[z,.int .i64 clock],_,_,_,?_,?_,k,s',ev⟩
     ·simp only[Instr.mapEntry,Sem.run_bind,run_underlying ht,Result.andThen_ok,run_getObj_map e2,run_checkKey hd hkk,run_findKey hd hf,hzr,run_setObj_map _ e2,Sem.run_pure]
      rfl
     ·simp only[Rep,RepL]
      exact⟨_,rfl,_,_,rfl,rX G z hzo,_,_,rfl,⟨rfl,rfl⟩,rfl⟩
   ·exact k.elim
  ·exact k.elim
 ·exact k.elim
def uG (n:Int):eN→Nat→Option (Nat×Value×Nat)
 | [],_=>none
 | (k,b,_)::r,i=>if ((b:Int)==n)=true then some (i,k,b) else uG n r (i+1)
def gd (x st v:AV) (h:ae) (K:ae→Prop):Prop:=
 match st,x with
 | .lit (.int .i64 n),.map i=>(match h[i]? with
   | some (.amap es clock)=>(match uG n es 0 with
     | some (j,k,b)=>K (h.set i (.amap (es.set j (k,b,v)) clock))
     | none=>False)
   | _=>False)
 | _,_=>False
theorem Ln {n:Int}:∀ {es:eN}{l:List MapEntry}{i:Nat},RepE G es l→∀ {j:Nat}{k:Value}{b:Nat},uG n es i=some (j,k,b)→
  l.findIdx? (fun e=>(e.born:Int)==n)=some (j-i)∧i≤j∧∃ e,l[j-i]?=some e∧e.key=k∧e.born=b
 | [],l,i,r,j,k,b,h=>by simp[uG]at h
 | (k',b',a)::es,l,i,r,j,k,b,h=>by
   simp only[RepE]at r
   obtain⟨e,rest,rfl,h1,h2,h3,h4⟩:=r
   simp only[uG]at h
   by_cases hq:((b':Int)==n)=true
   ·rw[if_pos hq]at h
    cases h
    rw[← h2]at hq
    exact⟨by simp[List.findIdx?_cons,hq],Nat.le_refl _,e,by simp,h1,h2⟩
   ·rw[if_neg hq]at h
    obtain⟨q1,q2,e',q3,q4⟩:=Ln h4 h
    rw[← h2]at hq
    refine⟨?_,by omega,e',?_,q4⟩
    ·rw[List.findIdx?_cons,if_neg hq,q1]
     simp;omega
    ·rw[show j-i=(j-(i+1))+1 by omega];simpa using q3
theorem H0 (s:Sim G h w) {t:TypeId}{x st v:AV}{xv sv vv:Value}(hx:Rep G x xv) (hs:Rep G st sv) (hv:Rep G v vv) {K:ae→Prop}(k:gd x st v h K):
  ∃ h' G' w',(Instr.entryStore t xv sv vv).run P w=.ok () w'∧K h'∧Sim G' h' w'∧Evo G h w G' h' w':=by
 unfold gd at k
 split at k
 ·rename_i n i
  split at k
  ·rename_i es clock hes
   split at k
   ·rename_i j kk b0 hb0
    simp only[Rep]at hx hs
    obtain⟨rfl,_⟩:=hs
    obtain⟨b,h1,rfl⟩:=hx
    obtain⟨b',arr,e1,e2,e3⟩:=jR s hes
    rw[h1]at e1;cases e1
    obtain⟨q1,_,e,q3,q4,q5⟩:=Ln e3 hb0
    have q3':arr[j]?=some e:=by simpa using q3
    have q1':arr.findIdx? (fun e=>(e.born:Int)==n)=some j:=by

     clear e2 q3 q3' e3
     obtain⟨l⟩:=arr
     simpa using q1
    obtain⟨s',ev⟩:=xS (clock':=clock) s hes h1 (arr.modify j fun e=>{ e with val:=vv }) (e3.set j kk b0 v _ fun e' he'=>by
     rw[q3']at he';cases he';exact⟨q4,q5,hv⟩)
    refine⟨_,_,_,?_,k,s',ev⟩
    simp only[Instr.entryStore,Sem.run_bind,run_getObj_map e2,Result.andThen_ok,asInt,asIntOf,Sem.run_pure,q1',run_setObj_map _ e2]
   ·exact k.elim
  ·exact k.elim
 ·exact k.elim
def pW (d:TypeDesc) (x key:AV) (h:ae) (K:ae→Prop):Prop:=
 match key with
 | .lit k=>match x with
   | .lit (.map none)=>if kOk d k=true then K h else False
   | .map i=>(match h[i]? with
     | some (.amap es clock)=>if (kOk d k&&es.all fun e=>kOk d e.1)=true then (match lW k es 0 with
       | some (j,_,_)=>K (h.set i (.amap (es.eraseIdx j) clock))
       | none=>K h) else False
     | _=>False)
   | _=>False
 | _=>False
theorem RT (s:Sim G h w) {t kt et ty:TypeId}{d:TypeDesc}(ht:P.underlying t=some (.map kt et)) (hd:P.underlying kt=some d) {x key:AV}{xv kv:Value}(hx:Rep G x xv) (hk:Rep G key kv) {ts:Array TypeId}(hts:ts[0]?=some t) {K:ae→Prop}(k:pW d x key h K):
  Ye P G h w (Builtin.delete_ ts ty #[xv,kv]) fun r h'=>r=.tup []∧K h':=by
 unfold pW at k
 split at k
 ·rename_i kk
  simp only[Rep]at hk
  obtain⟨rfl,_⟩:=hk
  split at k
  ·split at k
   ·rename_i hkk
    simp only[Rep]at hx
    obtain⟨rfl,_⟩:=hx
    refine⟨.tup [],.tuple #[],h,G,w,?_,by simp[Rep,RepL],⟨rfl,k⟩,s,Evo.refl _ _ _⟩
    simp[Builtin.delete_,hts,run_underlying ht,run_checkKey hd (gS hkk)]
   ·exact k.elim
  ·rename_i i
   split at k
   ·rename_i es clock hes
    split at k
    ·rename_i hall
     simp only[Bool.and_eq_true]at hall
     simp only[Rep]at hx
     obtain⟨b,h1,rfl⟩:=hx
     obtain⟨b',arr,e1,e2,e3⟩:=jR s hes
     rw[h1]at e1;cases e1
     have hf:=BN hall.1 es arr.toList 0 e3 hall.2
     have hkk:=gS hall.1
     split at k
     ·rename_i q n v0 hm
      simp only[hm]at hf
      obtain⟨e,q1,_,q3,q4,q5,q6,_⟩:=hf
      have q3':arr[q]?=some e:=by simpa using q3
      have hlt:q<arr.size:=(Array.getElem?_eq_some_iff.1 q3').1
      obtain⟨s',ev⟩:=xS (clock':=clock) (es':=es.eraseIdx q) s hes h1 (arr.eraseIdxIfInBounds q) (by
       unfold Array.eraseIdxIfInBounds
       rw[dif_pos hlt]
       simp only[Array.toList_eraseIdx]
       exact e3.eraseIdx q)
      refine⟨.tup [],.tuple #[],_,_,_,?_,by simp[Rep,RepL],⟨rfl,k⟩,s',ev⟩
      simp[Builtin.delete_,hts,run_underlying ht,run_getObj_map e2,run_checkKey hd hkk,run_findKey hd q1,run_setObj_map _ e2]
     ·rename_i hm
      simp only[hm]at hf
      refine⟨.tup [],.tuple #[],h,G,w,?_,by simp[Rep,RepL],⟨rfl,k⟩,s,Evo.refl _ _ _⟩
      simp[Builtin.delete_,hts,run_underlying ht,run_getObj_map e2,run_checkKey hd hkk,run_findKey hd hf,run_setObj_map _ e2]
      have:=rU w b _ e2
      exact this
    ·exact k.elim
   ·exact k.elim
  ·exact k.elim
 ·exact k.elim
def uB (h:ae) (K:QT):Prop:=K (.map h.length) (h++[.amap [] 0])
theorem Qb (s:Sim G h w) {t:TypeId}{K:QT}(k:uB h K):Ye P G h w (Instr.makeMap t none) K:=by
 obtain⟨s',ev⟩:=ln s (.map #[] 0) (.amap [] 0) 0 ⟨w.heap.size,#[],by simp[Gh.add],by show (w.heap.push _)[w.heap.size]?=_;simp,by simp[RepE]⟩
 refine⟨_,.map (some w.heap.size),_,_,_,?_,?_,k,s',ev⟩
 ·simp[Instr.makeMap]
 ·simp only[Rep]
  exact⟨_,by simp[Gh.add],rfl⟩
def rY (x:AV) (h:ae) (K:QT):Prop:=
 match x with
 | .lit (.string s)=>K (.ptr h.length 0) (h++[.siter s 0])
 | _=>False
theorem SN (s:Sim G h w) {t:TypeId}(ht:P.underlying t=some .string) {x:AV}{xv:Value}(hx:Rep G x xv) {K:QT}(k:rY x h K):Ye P G h w (Instr.range t xv) K:=by
 unfold rY at k
 split at k
 ·rename_i str
  simp only[Rep]at hx
  obtain⟨rfl,_⟩:=hx
  obtain⟨s',ev⟩:=ln s (.stringIter str 0) (.siter str 0) 0 ⟨w.heap.size,by simp[Gh.add],by show (w.heap.push _)[w.heap.size]?=_;simp⟩
  refine⟨_,.pointer (some ⟨w.heap.size,0,none⟩),_,_,_,?_,?_,k,s',ev⟩
  ·simp[Instr.range,run_underlying ht]
  ·simp only[Rep]
   exact⟨_,0,by simp[Gh.add],rfl⟩
 ·exact k.elim
def vF (x:AV) (h:ae) (K:QT):Prop:=
 match x with
 | .ptr i 0=>(match h[i]? with
   | some (.siter s pos)=>if pos<s.size then K (.tup [B true,I pos,.lit (.int .i32 (Utf8.decode s pos).1)]) (h.set i (.siter s (pos+(Utf8.decode s pos).2))) else K (.tup [B false]) h
   | _=>False)
 | _=>False
theorem We (s:Sim G h w) {t:TypeId}{x:AV}{xv:Value}(hx:Rep G x xv) {K:QT}(k:vF x h K):Ye P G h w (Instr.next xv true t) K:=by
 unfold vF at k
 split at k
 ·rename_i i
  split at k
  ·rename_i str pos hes
   simp only[Rep]at hx
   obtain⟨b,o,h1,rfl⟩:=hx
   obtain⟨b',e1,e2⟩:=s.obj _ _ hes
   rw[h1]at e1;cases e1
   have hg:(getObj b).run P w=.ok (.stringIter str pos) w:=by simp[getObj,Sem.run,e2]
   split at k
   ·rename_i hlt
    obtain⟨s',ev⟩:=wK (ob:=.stringIter str (pos+(Utf8.decode str pos).2)) (o':=.siter str (pos+(Utf8.decode str pos).2)) s hes rfl h1 rfl ⟨b,h1,nG w b _ (Array.getElem?_eq_some_iff.1 e2).1⟩
    refine⟨_,.tuple #[.bool true,goInt pos,.int .i32 (Utf8.decode str pos).1],_,_,_,?_,?_,k,s',ev⟩
    ·simp only[Instr.next,Nat.add_zero,Sem.run_bind,hg,Result.andThen_ok,hlt,if_true]
     simp[setObj,Sem.run,e2,dx]
    ·simp only[Rep,RepL]
     exact⟨_,rfl,_,_,rfl,⟨rfl,rfl⟩,_,_,rfl,⟨rfl,rfl⟩,_,_,rfl,⟨rfl,rfl⟩,rfl⟩
   ·rename_i hlt
    refine⟨_,.tuple #[.bool false],_,_,_,?_,?_,k,s,Evo.refl _ _ _⟩
    ·simp only[Instr.next,Nat.add_zero,Sem.run_bind,hg,Result.andThen_ok,hlt,if_false,Sem.run_pure]
    ·simp only[Rep,RepL]
     exact⟨_,rfl,_,_,rfl,⟨rfl,rfl⟩,rfl⟩
  ·exact k.elim
 ·exact k.elim
end
end
section
variable [Tabs]
open Go.MapKept
section
variable {P:Program}{G:Gh}{h:ae}{w:World}
def qd (x:AV) (h:ae) (K:QT):Prop:=
 match x with
 | .lit (.map none)=>K (.ptr h.length 0) (h++[.miter none 0 [] 0])
 | .map i=>(match h[i]? with
   | some (.amap es clock)=>K (.ptr h.length 0) (h++[.miter (some i) clock [] clock])
   | _=>False)
 | _=>False
theorem S4 (s:Sim G h w) {t kt et:TypeId}(ht:P.underlying t=some (.map kt et)) {x:AV}{xv:Value}(hx:Rep G x xv) {K:QT}(k:qd x h K):Ye P G h w (Instr.range t xv) K:=by
 unfold qd at k
 split at k
 ·simp only[Rep]at hx
  obtain⟨rfl,_⟩:=hx
  obtain⟨s',ev⟩:=ln s (.mapIter none 0 #[] 0) (.miter none 0 [] 0) 0 ⟨w.heap.size,none,by simp[Gh.add],by show (w.heap.push _)[w.heap.size]?=_;simp,rfl⟩
  refine⟨_,.pointer (some ⟨w.heap.size,0,none⟩),_,_,_,?_,?_,k,s',ev⟩
  ·simp[Instr.range,run_underlying ht]
  ·simp only[Rep]
   exact⟨_,0,by simp[Gh.add],rfl⟩
 ·rename_i i
  split at k
  ·rename_i es clock hes
   simp only[Rep]at hx
   obtain⟨b,h1,rfl⟩:=hx
   obtain⟨b',arr,e1,e2,e3⟩:=jR s hes
   rw[h1]at e1;cases e1
   have le:=Gh.le_add s.fresh (w.heap.size,0) 0
   obtain⟨s',ev⟩:=ln s (.mapIter (some b) clock #[] clock) (.miter (some i) clock [] clock) 0 ⟨w.heap.size,some b,by simp[Gh.add],by show (w.heap.push _)[w.heap.size]?=_;simp,b,le.loc _ _ h1,rfl⟩
   refine⟨_,.pointer (some ⟨w.heap.size,0,none⟩),_,_,_,?_,?_,k,s',ev⟩
   ·simp[Instr.range,run_underlying ht,run_getObj_map e2]
   ·simp only[Rep]
    exact⟨_,0,by simp[Gh.add],rfl⟩
  ·exact k.elim
 ·exact k.elim
def vO (x:AV) (h:ae) (K:QT):Prop:=
 match x with
 | .ptr i 0=>(match h[i]? with
   | some (.miter none _ _ _)=>K (.tup [B false]) h
   | some (.miter (some j) since seen last)=>(match h[j]? with
     | some (.amap es clock)=>
       ((es.all fun e=>e.1.oneCell')=true∧(!seen.isEmpty&&!es.isEmpty&&es.all fun e=>decide (e.2.1≥last))=false)∧
       ((∀ e∈es,e.2.1∈seen∨since≤e.2.1)→K (.tup [B false]) h)∧
       ∀ e∈es,e.2.1∉seen→K (.tup [B true,.lit e.1,e.2.2]) (h.set i (.miter (some j) since (seen++[e.2.1]) clock))
     | _=>False)
   | _=>False)
 | _=>False
theorem Ym {es:eN}{l:List MapEntry}(r:RepE G es l) {e:MapEntry}(he:e∈l):∃ a,(e.key,e.born,a)∈es∧Rep G a e.val:=by
 obtain⟨j,hj⟩:=List.mem_iff_getElem?.1 he
 have hlt:j<es.length:=by rw[← r.length];exact (List.getElem?_eq_some_iff.1 hj).1
 obtain⟨e',q1,q2,q3,q4⟩:=r.at j es[j].1 es[j].2.1 es[j].2.2 (List.getElem?_eq_getElem hlt)
 rw[hj]at q1;cases q1
 exact⟨es[j].2.2,by rw[q2,q3];exact List.getElem_mem hlt,q4⟩
theorem Za {es:eN}{l:List MapEntry}(r:RepE G es l) (f:Nat→Bool):l.all (fun e=>f e.born)=es.all (fun e=>f e.2.1):=by
 induction es generalizing l with
 | nil=>unfold RepE at r;subst r;rfl
 | cons x es ih=>
   obtain⟨k,n,a⟩:=x
   unfold RepE at r
   obtain⟨e,rest,rfl,h1,h2,h3,h4⟩:=r
   simp only[List.all_cons,h2,ih h4]
theorem Uz (s:Sim G h w) {t:TypeId}{x:AV}{xv:Value}(hx:Rep G x xv) {K:QT}(k:vO x h K):Ye P G h w (Instr.next xv false t) K:=by
 unfold vO at k
 split at k
 ·rename_i i
  have over:∀ {w':World},Sim G h w'→Evo G h w G h w'→(Instr.next xv false t).run P w=.ok (.tuple #[.bool false]) w'→K (.tup [B false]) h→Ye P G h w (Instr.next xv false t) K:=fun {w'} s' ev hr k=>
   ⟨_,_,h,G,w',hr,by simp only[Rep,RepL];exact⟨_,rfl,_,_,rfl,⟨rfl,rfl⟩,rfl⟩,k,s',ev⟩
  simp only[Rep]at hx
  obtain⟨b,o,h1,rfl⟩:=hx
  split at k
  ·rename_i c1 c2 c3 hes
   obtain⟨b',mb,e1,e2,rfl⟩:=s.obj _ _ hes
   rw[h1]at e1;cases e1
   refine over s (Evo.refl _ _ _) ?_ k
   have hg:(getObj b).run P w=.ok (.mapIter none c1 c2.toArray c3) w:=by simp[getObj,Sem.run,e2]
   simp only[Instr.next,Nat.add_zero,Sem.run_bind,hg,Result.andThen_ok,Sem.run_pure]
  ·rename_i j since seen last hes
   split at k
   ·rename_i es clock hm
    obtain⟨⟨hone,hgone⟩,k0,k1⟩:=k
    obtain⟨b',mb,e1,e2,q,hq,rfl⟩:=s.obj _ _ hes
    rw[h1]at e1;cases e1
    obtain⟨q',arr,e4,e5,e6⟩:=jR s hm
    rw[hq]at e4;cases e4
    have hg:(getObj b).run P w=.ok (.mapIter (some q) since seen.toArray last) w:=by simp[getObj,Sem.run,e2]
    have hg2:(getObj q).run P w=.ok (.map arr clock) w:=run_getObj_map e5
    have hemp:arr.isEmpty=es.isEmpty:=by
     rw[← Array.isEmpty_toList]
     have hl2:=e6.length
     generalize arr.toList=l at hl2
     cases es with
     | nil=>cases l with|nil=>rfl|cons y l=>simp at hl2
     | cons x es=>cases l with|nil=>simp at hl2|cons y l=>rfl
    have hcond:(!seen.toArray.isEmpty&&!arr.isEmpty&&arr.all (·.born≥last))=false:=by
     rw[← Array.all_toList,Za e6 (fun n=>decide (n≥last)),hemp]
     simpa using hgone
    generalize hcs:((if ((arr.filter fun e=>!seen.toArray.contains e.born).filter (·.born<since)).isEmpty then #[none] else #[])++(((arr.filter fun e=>!seen.toArray.contains e.born).filter (·.born<since))++((arr.filter fun e=>!seen.toArray.contains e.born).filter (·.born≥since))).map some:Array (Option MapEntry))=cs
    have hpos:0<cs.size:=by
     subst hcs
     split
     ·simp;omega
     ·rename_i hne
      rw[Array.isEmpty_iff]at hne
      have:0<((arr.filter fun e=>!seen.toArray.contains e.born).filter (·.born<since)).size:=Nat.pos_of_ne_zero fun e=>hne (by simpa using e)
      simp only[Array.size_append,Array.size_map];omega
    have hcase:∀ c∈cs,(c=none∧∀ e∈es,e.2.1∈seen∨since≤e.2.1)∨∃ e,c=some e∧e∈arr∧e.born∉seen:=by
     subst hcs
     intro c hc
     rcases Array.mem_append.1 hc with hc|hc
     ·split at hc
      ·rename_i hne
       left
       refine⟨by simpa using hc,fun e he=>?_⟩
       by_cases h1:e.2.1∈seen
       ·exact .inl h1
       ·refine .inr (Nat.le_of_not_lt fun hlt=>?_)
        obtain⟨jj,hj⟩:=List.mem_iff_getElem?.1 he
        obtain⟨e',q1,q2,q3,q4⟩:=e6.at jj e.1 e.2.1 e.2.2 hj
        simp only[Array.isEmpty_iff]at hne
        have:e'∈((arr.filter fun e=>!seen.toArray.contains e.born).filter (·.born<since)):=by
         simp only[Array.mem_filter,q3]
         refine⟨⟨Array.mem_of_getElem? (by simpa using q1),by simpa using h1⟩,by simpa using hlt⟩
        rw[hne]at this
        simp at this
      ·simp at hc
     ·obtain⟨e,he,rfl⟩:=Array.mem_map.1 hc
      right
      refine⟨e,rfl,?_⟩
      rcases Array.mem_append.1 he with he|he
      ·simp only[Array.mem_filter]at he;exact⟨he.1.1,by simpa using he.1.2⟩
      ·simp only[Array.mem_filter]at he;exact⟨he.1.1,by simpa using he.1.2⟩
    have hdraw:∃ idx w',(choose (.mapNext cs.size)).run P w=.ok idx w'∧idx<cs.size∧(w'=w∨w'={ w with drawn:=w.drawn+1 }):=by
     rw[run_choose]
     split
     ·exact⟨0,w,rfl,hpos,.inl rfl⟩
     ·exact⟨_,_,rfl,by simp only[Question.cut];exact Nat.mod_lt _ hpos,.inr rfl⟩
    obtain⟨idx,w',hd1,hd2,hd3⟩:=hdraw
    have hs':Sim G h w'∧Evo G h w G h w':=by
     rcases hd3 with rfl|rfl
     ·exact⟨s,Evo.refl _ _ _⟩
     ·exact s.drawn _
    have hheap:w'.heap=w.heap:=by rcases hd3 with rfl|rfl<;>rfl
    have hget:cs[idx]?=some cs[idx]:=by simp[hd2]
    rcases hcase cs[idx] (Array.getElem_mem hd2) with ⟨hn,hall⟩|⟨e,he,hmem,hns⟩
    ·refine over hs'.1 hs'.2 ?_ (k0 hall)
     simp only[Instr.next,Nat.add_zero,Sem.run_bind,hg,Result.andThen_ok,hg2,hcond,Bool.false_eq_true,if_false,Sem.run_ite,Sem.run_pure,hcs,hd1,hget,hn]
    ·obtain⟨a,ha1,ha2⟩:=Ym e6 (by simpa using hmem)
     have K1:=k1 _ ha1 hns
     obtain⟨s2,ev2⟩:=wK (ob:=.mapIter (some q) since (seen.toArray.push e.born) clock) (o':=.miter (some j) since (seen++[e.born]) clock) hs'.1 hes rfl h1 rfl ⟨b,some q,h1,by
      rw[nG w' b _ (by rw[hheap];exact (Array.getElem?_eq_some_iff.1 e2).1)];simp,q,hq,rfl⟩
     refine⟨_,.tuple #[.bool true,e.key,e.val],_,_,_,?_,?_,K1,s2,hs'.2.trans ev2⟩
     ·simp only[Instr.next,Nat.add_zero,Sem.run_bind,hg,Result.andThen_ok,hg2,hcond,Bool.false_eq_true,if_false,Sem.run_ite,Sem.run_pure,hcs,hd1,hget,he]
      simp[setObj,Sem.run,hheap,e2,dx]
     ·simp only[Rep,RepL]
      have hk1:e.key.oneCell'=true:=List.all_eq_true.1 hone _ ha1
      exact⟨_,rfl,_,_,rfl,⟨rfl,rfl⟩,_,_,rfl,⟨rfl,hk1⟩,_,_,rfl,ha2,rfl⟩
   ·exact k.elim
  ·exact k.elim
 ·exact k.elim
def o5 (n:Nat):eN→Option (Value×AV)
 | []=>none
 | (k,b,v)::r=>if (b==n)=true then some (k,v) else o5 n r
def pm (x:AV) (h:ae) (K:AV→Prop):Prop:=
 match x with
 | .ptr i 0=>(match h[i]? with
   | some (.miter (some j) _ seen last)=>(match h[j]?,seen.getLast? with
     | some (.amap es clock),some n=>(match o5 n es with
       | some (k,v)=>if (k.oneCell'&&clock==last)=true then K (.tup [.lit k,v]) else False
       | none=>False)
     | _,_=>False)
   | _=>False)
 | _=>False
theorem E8 {n:Nat}:∀ {es:eN}{l:List MapEntry},RepE G es l→∀ {k:Value}{v:AV},o5 n es=some (k,v)→∃ e,l.find? (·.born==n)=some e∧e.key=k∧Rep G v e.val
 | [],l,r,k,v,h=>by simp[o5]at h
 | (k',b,a)::es,l,r,k,v,h=>by
   simp only[RepE]at r
   obtain⟨e,rest,rfl,h1,h2,h3,h4⟩:=r
   simp only[o5]at h
   by_cases hq:(b==n)=true
   ·rw[if_pos hq]at h
    cases h
    exact⟨e,by simp[List.find?_cons,h2,hq],h1,h3⟩
   ·rw[if_neg hq]at h
    obtain⟨e',q1,q2⟩:=E8 h4 h
    refine⟨e',?_,q2⟩
    rw[List.find?_cons,h2]
    simp only[Bool.not_eq_true]at hq
    simp only[hq]
    exact q1
theorem UE (s:Sim G h w) {x:AV}{xv:Value}(hx:Rep G x xv) {K:AV→Prop}(k:pm x h K):Yl P G w (Instr.entry xv) K:=by
 unfold pm at k
 split at k
 ·rename_i i
  simp only[Rep]at hx
  obtain⟨b,o,h1,rfl⟩:=hx
  split at k
  ·rename_i j since seen last hes
   split at k
   ·rename_i es clock n hm hn
    split at k
    ·rename_i kk v hb
     split at k
     ·rename_i hc
      simp only[Bool.and_eq_true,beq_iff_eq]at hc
      obtain⟨b',mb,e1,e2,q,hq,rfl⟩:=s.obj _ _ hes
      rw[h1]at e1;cases e1
      obtain⟨q',arr,e4,e5,e6⟩:=jR s hm
      rw[hq]at e4;cases e4
      have hg:(getObj b).run P w=.ok (.mapIter (some q) since seen.toArray last) w:=by simp[getObj,Sem.run,e2]
      obtain⟨e,f1,f2,f3⟩:=E8 e6 hb
      have f1':arr.find? (·.born==n)=some e:=by
       clear e5 e6
       obtain⟨l⟩:=arr
       simpa using f1
      have hback:seen.toArray.back?=some n:=by
       rw[List.back?_toArray];exact hn
      refine⟨_,.tuple #[e.key,e.val],?_,?_,k⟩
      ·simp only[Instr.entry,Nat.add_zero,Sem.run_bind,hg,Result.andThen_ok,hback,run_getObj_map e5]
       rw[if_neg (by simp[hc.2])]
       simp[f1']
      ·simp only[Rep,RepL]
       rw[f2]
       exact⟨_,rfl,_,_,rfl,⟨rfl,hc.1⟩,_,_,rfl,f3,rfl⟩
     ·exact k.elim
    ·exact k.elim
   ·exact k.elim
  ·exact k.elim
 ·exact k.elim
