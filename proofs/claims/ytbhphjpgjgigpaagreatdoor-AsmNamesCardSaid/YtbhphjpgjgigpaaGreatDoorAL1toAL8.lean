import Derived.Calls
import Derived.Orders
import Derived.Laws.Sem
import Derived.Laws.World
import Derived.Laws.Cells
import Derived.Laws.CopyRow
import Derived.Laws.Entries
set_option linter.all false
set_option autoImplicit true
set_option relaxedAutoImplicit true
set_option maxRecDepth 100000
namespace Go.Proofs.YtbhphjpgjgigpaaGreatDoor.AL
section
inductive AV where
 | lit (v:Value)
 | ptr (i off:Nat)
 | cptr (cs:List AV)
 | sl (i off len sz:Nat)
 | snap (n:Nat) (cs:List AV)
 | full (n:Nat) (cs:List AV)
 | map (i:Nat)
 | fn (f:Fn) (first captured:List AV)
 | iface (t:TypeId) (v:AV)
 | agg (cs:List AV)
 | tup (vs:List AV)
 | sym (j:Nat)
 deriving Inhabited
def AV.cells:AV→List AV
 | .agg cs=>cs
 | v=>[v]
inductive AObj where
 | cells (cs:List AV)
 | amap (es:List (Value×Nat×AV)) (clock:Nat)
 | siter (s:ByteArray) (pos:Nat)
 | miter (m:Option Nat) (since:Nat) (seen:List Nat) (last:Nat)
 | keys (m:Nat)
 | dead
 deriving Inhabited
def AObj.live:AObj→Bool
 | .dead=>false
 | _=>true
abbrev ab:=List AObj
abbrev QT:=AV→ab→Prop
abbrev NT:=List AV→ab→Prop
structure Gh where
 loc:Nat→Option (Nat×Nat)
 cap:Nat→Nat
 F:Nat→Nat→Option Value
class Syms where
 sy:Nat→Value
 one:∀ j,(sy j).oneCell'=true
section
variable [Syms]
mutual
def Rep (G:Gh):AV→Value→Prop
 | .lit v,x=>x=v∧v.oneCell'=true
 | .ptr i off,x=>∃ b o,G.loc i=some (b,o)∧x=.pointer (some ⟨b,o+off,none⟩)
 | .cptr cs,x=>∃ b o,x=.pointer (some ⟨b,o,none⟩)∧RepAt G cs b o
 | .sl i off len sz,x=>∃ b o c ad,G.loc i=some (b,o)∧off+c*sz≤G.cap i∧len≤c∧(0<c→ad=o+off)∧x=.slice (some ⟨b,ad,none⟩) len c
 | .snap n cs,x=>(n=0∧cs=[]∧∃ a,x=.slice a 0 0)∨∃ b o c,n≤c∧x=.slice (some ⟨b,o,none⟩) n c∧RepAt G cs b o
 | .full n cs,x=>(n=0∧cs=[]∧∃ a,x=.slice a 0 0)∨∃ b o,x=.slice (some ⟨b,o,none⟩) n n∧RepAt G cs b o
 | .map i,x=>∃ b,G.loc i=some (b,0)∧x=.map (some b)
 | .fn f fi ca,x=>∃ vs ws,x=.func f (List.toArray vs) (List.toArray ws)∧RepL G fi vs∧RepL G ca ws
 | .iface t v,x=>∃ y,x=.iface t y∧Rep G v y
 | .agg cs,x=>∃ vs,x=.agg (List.toArray vs)∧RepL G cs vs
 | .tup ts,x=>∃ vs,x=.tuple (List.toArray vs)∧RepL G ts vs
 | .sym j,x=>x=Syms.sy j
def RepL (G:Gh):List AV→List Value→Prop
 | [],vs=>vs=[]
 | a::az,vs=>∃ v ws,vs=v::ws∧Rep G a v∧RepL G az ws
def RepAt (G:Gh):List AV→Nat→Nat→Prop
 | [],_,_=>True
 | a::az,b,o=>(∃ v,G.F b o=some v∧Rep G a v)∧RepAt G az b (o+1)
end
structure Gh.le (G G':Gh):Prop where
 loc:∀ i p,G.loc i=some p→G'.loc i=some p
 cap:∀ i p,G.loc i=some p→G'.cap i=G.cap i
 F:∀ b o v,G.F b o=some v→G'.F b o=some v
theorem Gh.le.refl (G:Gh):G.le G:=⟨fun _ _ h=>h,fun _ _ _=>rfl,fun _ _ _ h=>h⟩
theorem Gh.le.trans {A B C:Gh}(h:A.le B) (k:B.le C):A.le C:=
 ⟨fun i p e=>k.loc i p (h.loc i p e),fun i p e=>(k.cap i p (h.loc i p e)).trans (h.cap i p e),fun b o v e=>k.F b o v (h.F b o v e)⟩
mutual
theorem Rep.mono {G G':Gh}(le:G.le G'):∀ (a:AV) (x:Value),Rep G a x→Rep G' a x
 | .lit v,x,h=>by simpa [Rep] using h
 | .ptr i off,x,h=>by
   simp only[Rep]at h ⊢
   obtain⟨b,o,h1,h2⟩:=h
   exact⟨b,o,le.loc _ _ h1,h2⟩
 | .cptr cs,x,h=>by
   simp only[Rep]at h ⊢
   obtain⟨b,o,h1,h2⟩:=h
   exact⟨b,o,h1,RepAt.mono le cs b o h2⟩
 | .sl i off len sz,x,h=>by
   simp only[Rep]at h ⊢
   obtain⟨b,o,c,ad,h1,h2,h3,h4⟩:=h
   exact⟨b,o,c,ad,le.loc _ _ h1,by rw[le.cap _ _ h1];exact h2,h3,h4⟩
 | .snap n cs,x,h=>by
   simp only[Rep]at h ⊢
   rcases h with h|⟨b,o,c,h1,h2,h3⟩
   ·exact .inl h
   ·exact .inr ⟨b,o,c,h1,h2,RepAt.mono le cs b o h3⟩
 | .full n cs,x,h=>by
   simp only[Rep]at h ⊢
   rcases h with h|⟨b,o,h2,h3⟩
   ·exact .inl h
   ·exact .inr ⟨b,o,h2,RepAt.mono le cs b o h3⟩
 | .map i,x,h=>by
   simp only[Rep]at h ⊢
   obtain⟨b,h1,h2⟩:=h
   exact⟨b,le.loc _ _ h1,h2⟩
 | .fn f fi ca,x,h=>by
   simp only[Rep]at h ⊢
   obtain⟨vs,ws,h1,h2,h3⟩:=h
   exact⟨vs,ws,h1,RepL.mono le fi vs h2,RepL.mono le ca ws h3⟩
 | .iface t v,x,h=>by
   simp only[Rep]at h ⊢
   obtain⟨y,h1,h2⟩:=h
   exact⟨y,h1,Rep.mono le v y h2⟩
 | .agg cs,x,h=>by
   simp only[Rep]at h ⊢
   obtain⟨vs,h1,h2⟩:=h
   exact⟨vs,h1,RepL.mono le cs vs h2⟩
 | .tup cs,x,h=>by
   simp only[Rep]at h ⊢
   obtain⟨vs,h1,h2⟩:=h
   exact⟨vs,h1,RepL.mono le cs vs h2⟩
 | .sym j,x,h=>by simpa [Rep] using h
theorem RepL.mono {G G':Gh}(le:G.le G'):∀ (az:List AV) (vs:List Value),RepL G az vs→RepL G' az vs
 | [],vs,h=>by simpa [RepL] using h
 | a::az,vs,h=>by
   simp only[RepL]at h ⊢
   obtain⟨v,ws,h1,h2,h3⟩:=h
   exact⟨v,ws,h1,Rep.mono le a v h2,RepL.mono le az ws h3⟩
theorem RepAt.mono {G G':Gh}(le:G.le G'):∀ (az:List AV) (b o:Nat),RepAt G az b o→RepAt G' az b o
 | [],b,o,_=>by simp[RepAt]
 | a::az,b,o,h=>by
   simp only[RepAt]at h ⊢
   obtain⟨⟨v,h1,h2⟩,h3⟩:=h
   exact⟨⟨v,le.F _ _ _ h1,Rep.mono le a v h2⟩,RepAt.mono le az b (o+1) h3⟩
end
def RepE (G:Gh):List (Value×Nat×AV)→List MapEntry→Prop
 | [],l=>l=[]
 | (k,n,a)::es,l=>∃ e r,l=e::r∧e.key=k∧e.born=n∧Rep G a e.val∧RepE G es r
theorem RepE.mono {G G':Gh}(le:G.le G'):∀ (es:List (Value×Nat×AV)) (l:List MapEntry),RepE G es l→RepE G' es l
 | [],l,h=>h
 | (k,n,a)::es,l,h=>by
   simp only[RepE]at h ⊢
   obtain⟨e,r,h1,h2,h3,h4,h5⟩:=h
   exact⟨e,r,h1,h2,h3,Rep.mono le a _ h4,RepE.mono le es r h5⟩
theorem RepE.length {G:Gh}:∀ {es:List (Value×Nat×AV)}{l:List MapEntry},RepE G es l→l.length=es.length
 | [],l,h=>by simp only[RepE]at h;simp[h]
 | (k,n,a)::es,l,h=>by
   simp only[RepE]at h
   obtain⟨e,r,rfl,_,_,_,h5⟩:=h
   simp[RepE.length h5]
def ObjAt (G:Gh) (w:World) (i:Nat):AObj→Prop
 | .cells cs=>∃ b o arr el lo hi,G.loc i=some (b,o)∧w.heap[b]?=some (.cells arr el (lo,hi))∧(∀ k,k<arr.size→¬(lo≤k∧k<hi))∧
   cs.length≤G.cap i∧o+G.cap i≤arr.size∧∀ j a,cs[j]?=some a→∃ v,arr[o+j]?=some v∧Rep G a v
 | .amap es clock=>∃ b arr,G.loc i=some (b,0)∧w.heap[b]?=some (.map arr clock)∧RepE G es arr.toList
 | .siter s pos=>∃ b,G.loc i=some (b,0)∧w.heap[b]?=some (.stringIter s pos)
 | .miter m since seen last=>∃ b mb,G.loc i=some (b,0)∧w.heap[b]?=some (.mapIter mb since seen.toArray last)∧(match m with|none=>mb=none|some j=>∃ q,G.loc j=some (q,0)∧mb=some q)
 | .keys m=>∃ b el q,G.loc i=some (b,0)∧w.heap[b]?=some (.cells #[.map (some q)] el (0,0))∧G.loc m=some (q,0)
 | .dead=>True
end
class Tabs extends Syms where
 ok:(Nat→Nat→Option Value)→Prop
 mono:∀ {F F':Nat→Nat→Option Value},(∀ b o v,F b o=some v→F' b o=some v)→ok F→ok F'
 tab:Nat→Option (List AV)
 tab_ok:∀ (G:Gh) (g:Nat) (cs:List AV),ok G.F→tab g=some cs→RepAt G cs g 0
variable [Tabs]
structure Sim (G:Gh) (h:ab) (w:World):Prop where
 obj:∀ i o,h[i]?=some o→ObjAt G w i o
 dom:∀ i p,G.loc i=some p→i<h.length
 apart:∀ i j oi oj p q,h[i]?=some oi→h[j]?=some oj→oi.live=true→oj.live=true→G.loc i=some p→G.loc j=some q→p.1=q.1→i=j
 frz:∀ b o v,G.F b o=some v→w.cell? ⟨b,o,none⟩=some v
 sep:∀ i o p,h[i]?=some o→o.live=true→G.loc i=some p→∀ off,G.F p.1 off=none
 tab:Tabs.ok G.F
def DV (G:Gh) (h:ab) (b:Nat):Prop:=∃ i o p,h[i]?=some o∧o.live=true∧G.loc i=some p∧p.1=b
structure Evo (G:Gh) (h:ab) (w:World) (G':Gh) (h':ab) (w':World):Prop where
 le:G.le G'
 size:w.heap.size≤w'.heap.size
 os:w'.os=w.os
 tape:w'.tape=w.tape
 output:w'.output=w.output
 frame:∀ b,b<w.heap.size→¬ DV G h b→w'.heap[b]?=w.heap[b]?
 own:∀ b,DV G' h' b→DV G h b∨w.heap.size≤b
 fz:∀ b o v,G'.F b o=some v→G.F b o=some v∨DV G h b∨w.heap.size≤b
theorem Evo.refl (G:Gh) (h:ab) (w:World):Evo G h w G h w:=
 ⟨Gh.le.refl G,Nat.le_refl _,rfl,rfl,rfl,fun _ _ _=>rfl,fun _ h=>.inl h,fun _ _ _ h=>.inl h⟩
theorem Evo.trans {G G1 G2:Gh}{h h1 h2:ab}{w w1 w2:World}(a:Evo G h w G1 h1 w1) (b:Evo G1 h1 w1 G2 h2 w2):Evo G h w G2 h2 w2 where
 le:=a.le.trans b.le
 size:=Nat.le_trans a.size b.size
 os:=b.os.trans a.os
 tape:=b.tape.trans a.tape
 output:=b.output.trans a.output
 frame:=fun k hk hn=>by
  rw[b.frame k (Nat.lt_of_lt_of_le hk a.size) (fun ho=>?_),a.frame k hk hn]
  rcases a.own k ho with h|h
  ·exact hn h
  ·omega
 own:=fun k ho=>by
  rcases b.own k ho with h|h
  ·exact a.own k h
  ·exact .inr (Nat.le_trans a.size h)
 fz:=fun k o v e=>by
  rcases b.fz k o v e with h|h|h
  ·exact a.fz k o v h
  ·exact .inr (a.own k h)
  ·exact .inr (.inr (Nat.le_trans a.size h))
theorem Sim.owned_lt {G:Gh}{h:ab}{w:World}(s:Sim G h w) {b:Nat}(ho:DV G h b):b<w.heap.size:=by
 obtain⟨i,o,p,h1,h2,h3,rfl⟩:=ho
 have:=s.obj i o h1
 cases o with
 | cells cs=>
   obtain⟨b,o,arr,el,lo,hi,e1,e2,_⟩:=this
   rw[h3]at e1;cases e1
   exact (Array.getElem?_eq_some_iff.1 e2).1
 | amap es clock=>
   obtain⟨b,arr,e1,e2,_⟩:=this
   rw[h3]at e1;cases e1
   exact (Array.getElem?_eq_some_iff.1 e2).1
 | miter m since seen last=>
   obtain⟨b,mb,e1,e2,_⟩:=this
   rw[h3]at e1;cases e1
   exact (Array.getElem?_eq_some_iff.1 e2).1
 | siter s pos=>
   obtain⟨b,e1,e2⟩:=this
   rw[h3]at e1;cases e1
   exact (Array.getElem?_eq_some_iff.1 e2).1
 | keys m=>
   obtain⟨b,el,q,e1,e2,e3⟩:=this
   rw[h3]at e1;cases e1
   exact (Array.getElem?_eq_some_iff.1 e2).1
 | dead=>simp[AObj.live]at h2
def ACalls (P:Program) (f:FuncId) (args:List AV) (h:ab) (Q:QT):Prop:=
 ∀ (G:Gh) (w:World) (vs:List Value),Sim G h w→RepL G args vs→
   Calls P f vs.toArray w fun e w'=>∃ r v h' G',e=.returned v∧Rep G' r v∧Q r h'∧Sim G' h' w'∧Evo G h w G' h' w'
theorem ACalls.mono {P:Program}{f:FuncId}{args:List AV}{h:ab}{Q Q':QT}(c:ACalls P f args h Q) (hq:∀ r h',Q r h'→Q' r h'):ACalls P f args h Q':=
 fun G w vs s r=>(c G w vs s r).mono fun _ _ ⟨r,v,h',G',a,b,c,d,e⟩=>⟨r,v,h',G',a,b,hq _ _ c,d,e⟩
abbrev Env:=List (Nat×AV)
def get:Env→Nat→Option AV
 | [],_=>none
 | (k,v)::e,n=>if k=n then some v else get e n
def EnvRep (G:Gh) (env:Env) (tmps:Array Value):Prop:=∀ k a,get env k=some a→∃ v,tmps[k]?=some v∧Rep G a v
theorem EnvRep.mono {G G':Gh}(le:G.le G') {env:Env}{tmps:Array Value}(h:EnvRep G env tmps):EnvRep G' env tmps:=
 fun k a e=>let ⟨v,h1,h2⟩:=h k a e;⟨v,h1,Rep.mono le a v h2⟩
theorem EnvRep.put {G:Gh}{env:Env}{tmps:Array Value}(h:EnvRep G env tmps) {d:Nat}(hd:d<tmps.size) {a:AV}{v:Value}(r:Rep G a v):EnvRep G ((d,a)::env) (tmps.setIfInBounds d v):=by
 intro k b e
 simp only[get]at e
 split at e
 ·rename_i hk
  subst hk
  cases e
  exact⟨v,by simp[hd],r⟩
 ·rename_i hk
  obtain⟨u,h1,h2⟩:=h k b e
  exact⟨u,by rw[Array.getElem?_setIfInBounds_ne hk];exact h1,h2⟩
def Post (G:Gh) (h:ab) (w:World) (n:Nat) (D:List Deferred) (K:Exit→Env→ab→Prop):Exit→Act→World→Prop:=
 fun e a w'=>∃ env' h' G',K e env' h'∧Sim G' h' w'∧Evo G h w G' h' w'∧EnvRep G' env' a.tmps∧a.tmps.size=n∧a.defers=D
theorem Post.step {G G1:Gh}{h h1:ab}{w w1:World}{n:Nat}{D:List Deferred}{K:Exit→Env→ab→Prop}(ev:Evo G h w G1 h1 w1) {e:Exit}{a:Act}{w':World}
  (p:Post G1 h1 w1 n D K e a w'):Post G h w n D K e a w':=
 let ⟨env',h',G',a,b,c,d⟩:=p;⟨env',h',G',a,b,ev.trans c,d⟩
theorem Post.mono {G:Gh}{h:ab}{w:World}{n:Nat}{D:List Deferred}{K K':Exit→Env→ab→Prop}(hk:∀ e env h,K e env h→K' e env h) {e:Exit}{a:Act}{w':World}
  (p:Post G h w n D K e a w'):Post G h w n D K' e a w':=
 let ⟨env',h',G',a,b⟩:=p;⟨env',h',G',hk _ _ _ a,b⟩
def AWp (P:Program) (n:Nat) (c:Code) (env:Env) (h:ab) (K:Exit→Env→ab→Prop):Prop:=
 ∀ (G:Gh) (w:World) (a:Act),Sim G h w→a.tmps.size=n→EnvRep G env a.tmps→c.wp P (Post G h w n a.defers K) a w
section
variable {P:Program}{n:Nat}{env:Env}{h:ab}{K:Exit→Env→ab→Prop}
theorem AWp.mono {c:Code}{K':Exit→Env→ab→Prop}(x:AWp P n c env h K) (hk:∀ e env h,K e env h→K' e env h):AWp P n c env h K':=
 fun G w a s hn r=>Go.wp_mono (x G w a s hn r) fun _ _ _ p=>p.mono hk
theorem Io (k:K .normal env h):AWp P n .skip env h K:=fun G _ _ s hn r=>wp_skip ⟨env,h,G,k,s,Evo.refl _ _ _,r,hn,rfl⟩
theorem Mk (k:K .ret env h):AWp P n .ret env h K:=fun G _ _ s hn r=>wp_ret ⟨env,h,G,k,s,Evo.refl _ _ _,r,hn,rfl⟩
theorem HB {id:Nat}(k:K (.exit id) env h):AWp P n (.exit id) env h K:=fun G _ _ s hn r=>wp_exit ⟨env,h,G,k,s,Evo.refl _ _ _,r,hn,rfl⟩
theorem I5 {l:Nat}(k:K (.goto l) env h):AWp P n (.goto l) env h K:=fun G _ _ s hn r=>wp_goto ⟨env,h,G,k,s,Evo.refl _ _ _,r,hn,rfl⟩
theorem Ew {l:Nat}(k:K .normal env h):AWp P n (.label l) env h K:=fun G _ _ s hn r=>wp_label ⟨env,h,G,k,s,Evo.refl _ _ _,r,hn,rfl⟩
theorem FG {x y:Code}(k:AWp P n x env h fun e env' h'=>match e with|.normal=>AWp P n y env' h' K|e=>K e env' h'):AWp P n (.seq x y) env h K:=by
 intro G w a s hn r
 refine wp_seq (Go.wp_mono (k G w a s hn r) fun e a' w' p=>?_)
 obtain⟨env',h',G',hk,s',ev,r',hn',hd'⟩:=p
 cases e with
 | normal=>exact Go.wp_mono (hk G' w' a' s' hn' r') fun e a2 w2 p2=>by rw[hd']at p2;exact p2.step ev
 | _=>exact⟨env',h',G',hk,s',ev,r',hn',hd'⟩
theorem Dr {id:Nat}{c:Code}(k:AWp P n c env h fun e env' h'=>match e with|.exit i=>if i=id then K .normal env' h' else K (.exit i) env' h'|e=>K e env' h'):AWp P n (.block id c) env h K:=by
 intro G w a s hn r
 refine wp_block (Go.wp_mono (k G w a s hn r) fun e a' w' p=>?_)
 obtain⟨env',h',G',hk,s',ev,r',hn',hd'⟩:=p
 cases e with
 | exit i=>
   simp only[Exit.inBlock]
   by_cases hi:i=id
   ·simp only[hi,if_true]at hk ⊢;exact⟨env',h',G',hk,s',ev,r',hn',hd'⟩
   ·simp only[hi,if_false]at hk ⊢;exact⟨env',h',G',hk,s',ev,r',hn',hd'⟩
 | _=>exact⟨env',h',G',hk,s',ev,r',hn',hd'⟩
noncomputable def x2 (p:Nat→Prop):Nat:=Classical.epsilon fun k=>p k∧∀ m,p m→k≤m
theorem Dz {p:Nat→Prop}(h:∃ k,p k):∃ k,p k∧∀ m,p m→k≤m:=by
 obtain⟨k,hk⟩:=h
 induction k using Nat.strongRecOn with
 | _ k ih=>
   by_cases hm:∃ m,m<k∧p m
   ·obtain⟨m,hlt,hpm⟩:=hm
    exact ih m hlt hpm
   ·exact⟨k,hk,fun m hpm=>Nat.le_of_not_lt fun hlt=>hm ⟨m,hlt,hpm⟩⟩
theorem sV {p:Nat→Prop}(h:∃ k,p k):p (x2 p):=(Classical.epsilon_spec (Dz h)).1
theorem xk {p:Nat→Prop}{m:Nat}(h:p m):x2 p≤m:=(Classical.epsilon_spec (Dz ⟨m,h⟩)).2 m h
theorem QY {c:Code}(J:Nat→Env→ab→Prop) (k0:∃ k,J k env h)
  (round:∀ k env h,J k env h→AWp P n c env h fun e env' h'=>match e with|.normal=>∃ m env2,m<k∧J m env2 h'∧(∀ s a,get env2 s=some a→get env' s=some a)|e=>K e env' h'):AWp P n (.loop c) env h K:=by
 intro G w a s hn r
 have R0:∃ k,∃ env' h' G',J k env' h'∧Sim G' h' w∧Evo G h w G' h' w∧EnvRep G' env' a.tmps∧a.tmps.size=n∧a.defers=a.defers:=
  k0.imp fun k hk=>⟨env,h,G,hk,s,Evo.refl _ _ _,r,hn,rfl⟩
 let R:Nat→Act→World→Prop:=fun k a' w'=>∃ env' h' G',J k env' h'∧Sim G' h' w'∧Evo G h w G' h' w'∧EnvRep G' env' a'.tmps∧a'.tmps.size=n∧a'.defers=a.defers
 refine wp_loop (fun a' w'=>∃ k,R k a' w') (fun a' w'=>x2 (fun k=>R k a' w')) R0 ?_
 intro a1 w1 hI
 obtain⟨env1,h1,G1,hJ,s1,ev1,r1,hn1,hd1⟩:=sV hI
 refine Go.wp_mono (round _ _ _ hJ G1 w1 a1 s1 hn1 r1) fun e a2 w2 p=>?_
 obtain⟨env2,h2,G2,hk,s2,ev2,r2,hn2,hd2⟩:=p
 cases e with
 | normal=>
   obtain⟨m,env3,hm,hJ3,hsub⟩:=hk
   have hR:R m a2 w2:=⟨env3,h2,G2,hJ3,s2,ev1.trans ev2,fun s a e=>r2 s a (hsub s a e),hn2,hd2.trans hd1⟩
   exact⟨⟨m,hR⟩,Nat.lt_of_le_of_lt (xk hR) hm⟩
 | _=>exact⟨env2,h2,G2,hk,s2,ev1.trans ev2,r2,hn2,hd2.trans hd1⟩
end
end
section
variable [Tabs]
abbrev I (n:Int):AV:=.lit (.int .i64 n)
abbrev B (b:Bool):AV:=.lit (.bool b)
abbrev S (s:ByteArray):AV:=.lit (.string s)
def AV.one:AV→Bool
 | .lit v=>v.oneCell'
 | .agg _=>false
 | .tup _=>false
 | _=>true
def Bm:Value→AV
 | .slice none 0 0=>.full 0 []
 | v=>.lit v
def ofV:Value→AV
 | .agg cs=>.agg (cs.toList.map Bm)
 | v=>Bm v
def okV:Value→Bool
 | .agg cs=>cs.toList.all (·.oneCell')
 | v=>v.oneCell'
theorem AF (G:Gh) (v:Value) (h:v.oneCell'=true):Rep G (Bm v) v:=by
 unfold Bm
 split<;>simp[Rep,h]
theorem uD (G:Gh):∀ l:List Value,l.all (·.oneCell')=true→RepL G (l.map Bm) l
 | [],_=>by simp[RepL]
 | v::l,h=>by
   simp only[List.all_cons,Bool.and_eq_true]at h
   simp only[List.map_cons,RepL];exact⟨v,l,rfl,AF G v h.1,uD G l h.2⟩
theorem oB (G:Gh) (v:Value) (h:okV v=true):Rep G (ofV v) v:=by
 unfold ofV
 split
 ·rename_i cs
  simp only[Rep]
  exact⟨cs.toList,by simp,uD G _ h⟩
 ·rename_i hna
  refine AF G _ ?_
  unfold okV at h
  split at h
  ·exact absurd rfl (hna _)
  ·exact h
def opv (env:Env):Operand→Option AV
 | .tmp t=>get env t
 | .const v=>if okV v then some (ofV v) else none
 | .global _=>none
 | .func f=>some (.fn (.func f) [] [])
def i3 (env:Env):List Operand→Option (List AV)
 | []=>some []
 | x::xs=>match opv env x with
   | none=>none
   | some v=>match i3 env xs with
     | none=>none
     | some vs=>some (v::vs)
theorem aL {G:Gh}{env:Env}{a:Act}(r:EnvRep G env a.tmps) {x:Operand}{v:AV}(h:opv env x=some v):Rep G v (a.eval x):=by
 cases x with
 | tmp t=>
   obtain⟨u,h1,h2⟩:=r t v h
   simpa [Act.eval,Array.getD_eq_getD_getElem?,h1] using h2
 | const c=>
   simp only[opv]at h
   split at h
   ·cases h;exact oB G _ ‹_›
   ·cases h
 | global g=>simp[opv]at h
 | func f=>simp only[opv,Option.some.injEq]at h;subst h;simp[Rep,RepL,Act.eval]
theorem hB {G:Gh}{env:Env}{a:Act}(r:EnvRep G env a.tmps):∀ {xs:List Operand}{vs:List AV},i3 env xs=some vs→RepL G vs (xs.map a.eval)
 | [],vs,h=>by simp only[i3,Option.some.injEq]at h;subst h;simp[RepL]
 | x::xs,vs,h=>by
   simp only[i3]at h
   split at h
   ·cases h
   ·rename_i v hv
    split at h
    ·cases h
    ·rename_i us hu
     cases h
     simp only[RepL,List.map_cons]
     exact⟨_,_,rfl,aL r hv,hB r hu⟩
theorem RepL.length {G:Gh}:∀ {az:List AV}{vs:List Value},RepL G az vs→vs.length=az.length
 | [],vs,h=>by simp only[RepL]at h;simp[h]
 | a::az,vs,h=>by
   simp only[RepL]at h
   obtain⟨v,ws,rfl,_,h⟩:=h
   simp[RepL.length h]
theorem RepL.at {G:Gh}:∀ {az:List AV}{vs:List Value},RepL G az vs→∀ (j:Nat) (a:AV),az[j]?=some a→∃ v,vs[j]?=some v∧Rep G a v
 | [],vs,h,j,a,e=>by simp at e
 | b::az,vs,h,j,a,e=>by
   simp only[RepL]at h
   obtain⟨v,ws,rfl,h1,h2⟩:=h
   cases j with
   | zero=>simp at e;subst e;exact⟨v,by simp,h1⟩
   | succ j=>simpa using RepL.at h2 j a (by simpa using e)
theorem g6 {G:Gh}:∀ {az:List AV}{vs:List Value},vs.length=az.length→(∀ (j:Nat) (a:AV),az[j]?=some a→∃ v,vs[j]?=some v∧Rep G a v)→RepL G az vs
 | [],vs,hl,_=>by simp[RepL];simpa using hl
 | a::az,[],hl,_=>by simp at hl
 | a::az,v::vs,hl,h=>by
   simp only[RepL]
   obtain⟨u,h1,h2⟩:=h 0 a (by simp)
   simp at h1
   subst h1
   exact⟨v,vs,rfl,h2,g6 (by simpa using hl) fun j b e=>by simpa using h (j+1) b (by simpa using e)⟩
theorem RepL.append {G:Gh}:∀ {az bs:List AV}{vs ws:List Value},RepL G az vs→RepL G bs ws→RepL G (az++bs) (vs++ws)
 | [],bs,vs,ws,h,k=>by simp only[RepL]at h;subst h;simpa using k
 | a::az,bs,vs,ws,h,k=>by
   simp only[RepL]at h
   obtain⟨v,us,rfl,h1,h2⟩:=h
   simp only[List.cons_append,RepL]
   exact⟨v,us++ws,rfl,h1,RepL.append h2 k⟩
theorem RepL.drop {G:Gh}{az:List AV}{vs:List Value}(h:RepL G az vs) (n:Nat):RepL G (az.drop n) (vs.drop n):=
 g6 (by simp[h.length]) fun j a e=>by
  rw[List.getElem?_drop]at e ⊢
  exact h.at _ a e
theorem RepL.take {G:Gh}{az:List AV}{vs:List Value}(h:RepL G az vs) (n:Nat):RepL G (az.take n) (vs.take n):=
 g6 (by simp[h.length]) fun j a e=>by
  rw[List.getElem?_take]at e ⊢
  split at e
  ·rename_i hj;rw[if_pos hj];exact h.at _ a e
  ·cases e
theorem RepAt.at {G:Gh}:∀ {az:List AV}{b o:Nat},RepAt G az b o→∀ (j:Nat) (a:AV),az[j]?=some a→∃ v,G.F b (o+j)=some v∧Rep G a v
 | [],b,o,h,j,a,e=>by simp at e
 | c::az,b,o,h,j,a,e=>by
   simp only[RepAt]at h
   cases j with
   | zero=>simp at e;subst e;exact h.1
   | succ j=>
     have:=RepAt.at h.2 j a (by simpa using e)
     rwa [show o+1+j=o+(j+1) by omega]at this
theorem jQ {G:Gh}:∀ {az:List AV}{b o:Nat},(∀ (j:Nat) (a:AV),az[j]?=some a→∃ v,G.F b (o+j)=some v∧Rep G a v)→RepAt G az b o
 | [],b,o,h=>by simp[RepAt]
 | c::az,b,o,h=>by
   simp only[RepAt]
   refine⟨by simpa using h 0 c (by simp),jQ fun j a e=>?_⟩
   have:=h (j+1) a (by simpa using e)
   rwa [show o+(j+1)=o+1+j by omega]at this
theorem RepAt.drop {G:Gh}{az:List AV}{b o:Nat}(h:RepAt G az b o) (n:Nat):RepAt G (az.drop n) b (o+n):=
 jQ fun j a e=>by
  rw[List.getElem?_drop]at e
  have:=h.at _ a e
  rwa [← Nat.add_assoc]at this
theorem RepAt.take {G:Gh}{az:List AV}{b o:Nat}(h:RepAt G az b o) (n:Nat):RepAt G (az.take n) b o:=
 jQ fun j a e=>by
  rw[List.getElem?_take]at e
  split at e
  ·exact h.at _ a e
  ·cases e
theorem dW (b o n:Nat):(⟨b,o,none⟩:Addr).add n=⟨b,o+n,none⟩:=by unfold Addr.add;split<;>simp_all
def AV.isTup:AV→Bool
 | .tup _=>true
 | _=>false
theorem Rep.one {G:Gh}{v:AV}{x:Value}(h:Rep G v x) (ho:v.one=true):x.oneCell'=true:=by
 cases v with
 | lit v=>simp only[Rep]at h;obtain⟨rfl,h⟩:=h;exact h
 | ptr i off=>simp only[Rep]at h;obtain⟨b,o,_,rfl⟩:=h;rfl
 | cptr cs=>simp only[Rep]at h;obtain⟨b,o,rfl,_⟩:=h;rfl
 | sl i off len sz=>simp only[Rep]at h;obtain⟨b,o,c,ad,_,_,_,_,rfl⟩:=h;rfl
 | snap n cs=>simp only[Rep]at h;rcases h with ⟨_,_,_,rfl⟩|⟨b,o,c,_,rfl,_⟩<;>rfl
 | full n cs=>simp only[Rep]at h;rcases h with ⟨_,_,_,rfl⟩|⟨b,o,rfl,_⟩<;>rfl
 | map i=>simp only[Rep]at h;obtain⟨b,_,rfl⟩:=h;rfl
 | fn f fi ca=>simp only[Rep]at h;obtain⟨vs,ws,rfl,_,_⟩:=h;rfl
 | iface t v=>simp only[Rep]at h;obtain⟨y,rfl,_⟩:=h;rfl
 | agg cs=>simp[AV.one]at ho
 | tup cs=>simp[AV.one]at ho
 | sym j=>simp only[Rep]at h;subst h;exact Syms.one j
theorem qR {x:Value}(h:x.oneCell'=true):x.cells=#[x]:=by cases x<;>simp_all [Value.oneCell',Value.cells]
theorem Uk (v:AV) (h:v.isTup=false):v.one=true∨(∃ cs,v=.agg cs)∨(∃ u,v=.lit u):=by
 cases v<;>simp_all [AV.one,AV.isTup]
theorem Rep.cells {G:Gh}{v:AV}{x:Value}(h:Rep G v x) (ht:v.isTup=false):RepL G v.cells x.cells.toList:=by
 rcases Uk v ht with h1|⟨cs,rfl⟩|⟨u,rfl⟩
 ·have hx:=h.one h1
  rw[qR hx]
  have:v.cells=[v]:=by cases v<;>simp_all [AV.one,AV.cells]
  rw[this]
  simp only[RepL]
  exact⟨x,[],rfl,h,rfl⟩
 ·simp only[Rep]at h
  obtain⟨vs,rfl,h⟩:=h
  simpa [AV.cells,Value.cells] using h
 ·have hx:x.oneCell'=true:=by simp only[Rep]at h;obtain⟨rfl,h⟩:=h;exact h
  rw[qR hx]
  simp only[AV.cells,RepL]
  exact⟨x,[],rfl,h,rfl⟩
def Yl (P:Program) (G:Gh) (w:World) (m:Sem Value) (K:AV→Prop):Prop:=∃ r v,m.run P w=.ok v w∧Rep G r v∧K r
def Ye (P:Program) (G:Gh) (h:ab) (w:World) (m:Sem Value) (K:QT):Prop:=
 ∃ r v h' G' w',m.run P w=.ok v w'∧Rep G' r v∧K r h'∧Sim G' h' w'∧Evo G h w G' h' w'
end
section
variable [Tabs]
def Gh.add (G:Gh) (i:Nat) (p:Nat×Nat) (c:Nat):Gh:=
 { G with loc:=fun j=>if j=i then some p else G.loc j,cap:=fun j=>if j=i then c else G.cap j }
theorem Sim.fresh {G:Gh}{h:ab}{w:World}(s:Sim G h w):G.loc h.length=none:=by
 cases e:G.loc h.length with
 | none=>rfl
 | some p=>have:=s.dom _ _ e;omega
theorem Gh.le_add {G:Gh}{i:Nat}(hn:G.loc i=none) (p:Nat×Nat) (c:Nat):G.le (G.add i p c) where
 loc j q e:=by
  simp only[Gh.add]
  split
  ·rename_i hj;subst hj;rw[hn]at e;cases e
  ·exact e
 cap j q e:=by
  simp only[Gh.add]
  split
  ·rename_i hj;subst hj;rw[hn]at e;cases e
  ·rfl
 F _ _ _ e:=e
theorem ObjAt.keep {G G':Gh}{w w':World}{i:Nat}{o:AObj}(le:G.le G') (x:ObjAt G w i o) (hb:∀ p,G.loc i=some p→o.live=true→w'.heap[p.1]?=w.heap[p.1]?):ObjAt G' w' i o:=by
 cases o with
 | cells cs=>
   obtain⟨b,o,arr,el,lo,hi,e1,e2,e3,e4,e5,e6⟩:=x
   refine⟨b,o,arr,el,lo,hi,le.loc _ _ e1,by rw[hb _ e1 rfl];exact e2,e3,by rw[le.cap _ _ e1];exact e4,by rw[le.cap _ _ e1];exact e5,fun j a ha=>?_⟩
   obtain⟨v,h1,h2⟩:=e6 j a ha
   exact⟨v,h1,Rep.mono le a v h2⟩
 | amap es clock=>
   obtain⟨b,arr,e1,e2,e6⟩:=x
   exact⟨b,arr,le.loc _ _ e1,by rw[hb _ e1 rfl];exact e2,RepE.mono le _ _ e6⟩
 | miter m since seen last=>
   obtain⟨b,mb,e1,e2,e3⟩:=x
   refine⟨b,mb,le.loc _ _ e1,by rw[hb _ e1 rfl];exact e2,?_⟩
   cases m with
   | none=>exact e3
   | some j=>obtain⟨q,h1,h2⟩:=e3;exact⟨q,le.loc _ _ h1,h2⟩
 | siter s pos=>
   obtain⟨b,e1,e2⟩:=x
   exact⟨b,le.loc _ _ e1,by rw[hb _ e1 rfl];exact e2⟩
 | keys m=>
   obtain⟨b,el,q,e1,e2,e3⟩:=x
   exact⟨b,el,q,le.loc _ _ e1,by rw[hb _ e1 rfl];exact e2,le.loc _ _ e3⟩
 | dead=>trivial
theorem Sim.loc_lt {G:Gh}{h:ab}{w:World}(s:Sim G h w) {i:Nat}{o:AObj}{p:Nat×Nat}(h1:h[i]?=some o) (h2:o.live=true) (h3:G.loc i=some p):p.1<w.heap.size:=
 s.owned_lt ⟨i,o,p,h1,h2,h3,rfl⟩
theorem ud {G:Gh}{h:ab}{w:World}(s:Sim G h w) {b o:Nat}{v:Value}(e:G.F b o=some v):b<w.heap.size:=by
 have:=World.block_lt_of_cell? w _ (s.frz b o v e)
 simpa using this
theorem lO {G:Gh}{h:ab}{w:World}(s:Sim G h w) (ob:Obj) (o:AObj) (c:Nat) (x:ObjAt (G.add h.length (w.heap.size,0) c) (w.alloc ob) h.length o):
  Sim (G.add h.length (w.heap.size,0) c) (h++[o]) (w.alloc ob)∧Evo G h w (G.add h.length (w.heap.size,0) c) (h++[o]) (w.alloc ob):=by
 have le:=Gh.le_add s.fresh (w.heap.size,0) c
 have hold:∀ b,b<w.heap.size→(w.alloc ob).heap[b]?=w.heap[b]?:=fun b hb=>by
  show (w.heap.push ob)[b]?=_
  rw[Array.getElem?_push,if_neg (by omega)]
 refine⟨⟨?_,?_,?_,?_,?_,s.tab⟩,⟨le,by simp,rfl,rfl,rfl,fun b hb _=>hold b hb,?_,fun _ _ _ h=>.inl h⟩⟩
 ·intro i oi hi
  rcases Nat.lt_or_ge i h.length with hlt|hge
  ·rw[List.getElem?_append_left hlt]at hi
   exact (s.obj i oi hi).keep le fun p hp hl=>hold _ (s.loc_lt hi hl hp)
  ·rw[List.getElem?_append_right hge]at hi
   have:i=h.length:=by
    rcases Nat.eq_or_lt_of_le hge with h1|h1
    ·exact h1.symm
    ·rw[List.getElem?_eq_none (by simp;omega)]at hi;cases hi
   subst this
   simp at hi
   subst hi
   exact x
 ·intro i p hp
  simp only[Gh.add]at hp
  split at hp
  ·simp;omega
  ·have:=s.dom i p hp;simp;omega
 ·intro i j oi oj p q hi hj li lj hp hq hpq
  simp only[Gh.add]at hp hq
  rcases Nat.lt_or_ge i h.length with hli|hgi<;>rcases Nat.lt_or_ge j h.length with hlj|hgj
  ·rw[if_neg (by omega)]at hp hq
   rw[List.getElem?_append_left hli]at hi
   rw[List.getElem?_append_left hlj]at hj
   exact s.apart i j oi oj p q hi hj li lj hp hq hpq
  ·rw[if_neg (by omega)]at hp
   rw[List.getElem?_append_left hli]at hi
   have h1:=s.loc_lt hi li hp
   have hjl:j<(h++[o]).length:=(List.getElem?_eq_some_iff.1 hj).1
   have:j=h.length:=by simp at hjl;omega
   rw[if_pos this]at hq
   cases hq
   simp at hpq
   omega
  ·rw[if_neg (by omega)]at hq
   rw[List.getElem?_append_left hlj]at hj
   have h1:=s.loc_lt hj lj hq
   have hil:i<(h++[o]).length:=(List.getElem?_eq_some_iff.1 hi).1
   have:i=h.length:=by simp at hil;omega
   rw[if_pos this]at hp
   cases hp
   simp at hpq
   omega
  ·have hil:i<(h++[o]).length:=(List.getElem?_eq_some_iff.1 hi).1
   have hjl:j<(h++[o]).length:=(List.getElem?_eq_some_iff.1 hj).1
   simp at hil hjl
   omega
 ·intro b off v e
  have e':G.F b off=some v:=e
  rw[World.cell?_alloc_lt w ob _ (ud s e')]
  exact s.frz b off v e'
 ·intro i oi p hi li hp off
  simp only[Gh.add]at hp ⊢
  rcases Nat.lt_or_ge i h.length with hlt|hge
  ·rw[if_neg (by omega)]at hp
   rw[List.getElem?_append_left hlt]at hi
   exact s.sep i oi p hi li hp off
  ·have hil:i<(h++[o]).length:=(List.getElem?_eq_some_iff.1 hi).1
   have:i=h.length:=by simp at hil;omega
   rw[if_pos this]at hp
   cases hp
   cases e:G.F w.heap.size off with
   | none=>rfl
   | some v=>have:=ud s e;omega
 ·intro b ⟨i,oi,p,hi,li,hp,hb⟩
  simp only[Gh.add]at hp
  rcases Nat.lt_or_ge i h.length with hlt|hge
  ·rw[if_neg (by omega)]at hp
   rw[List.getElem?_append_left hlt]at hi
   exact .inl ⟨i,oi,p,hi,li,hp,hb⟩
  ·have hil:i<(h++[o]).length:=(List.getElem?_eq_some_iff.1 hi).1
   have:i=h.length:=by simp at hil;omega
   rw[if_pos this]at hp
   cases hp
   exact .inr (by simp at hb;omega)
def dg (w:World) (b:Nat) (o:Obj):World:={ w with heap:=w.heap.setIfInBounds b o }
theorem pZ (w:World) (b:Nat) (o:Obj) (k:Nat) (h:k≠b):(dg w b o).heap[k]?=w.heap[k]?:=by
 simp only[dg];rw[Array.getElem?_setIfInBounds_ne (Ne.symm h)]
theorem kR (w:World) (b:Nat) (o:Obj) (h:b<w.heap.size):(dg w b o).heap[b]?=some o:=by
 simp[dg,h]
theorem y3 (w:World) (b:Nat) (o:Obj) (a:Addr) (h:a.block≠b):(dg w b o).cell? a=w.cell? a:=by
 unfold World.cell?;rw[pZ w b o _ h]
theorem tK {G:Gh}{h:ab}{w:World}(s:Sim G h w) {i:Nat}{o o':AObj}{p:Nat×Nat}{ob:Obj}(hi:h[i]?=some o) (hl:o.live=true) (hp:G.loc i=some p) (hl':o'.live=true)
  (x:ObjAt G (dg w p.1 ob) i o'):Sim G (h.set i o') (dg w p.1 ob)∧Evo G h w G (h.set i o') (dg w p.1 ob):=by
 have hlt:=s.loc_lt hi hl hp
 have hil:i<h.length:=(List.getElem?_eq_some_iff.1 hi).1
 have key:∀ k ok,(h.set i o')[k]?=some ok→k≠i→h[k]?=some ok:=fun k ok hk hne=>by
  rwa [List.getElem?_set_ne (Ne.symm hne)]at hk
 have keyl:∀ (k:Nat) (ok:AObj),(h.set i o')[k]?=some ok→ok.live=true→∃ ok':AObj,h[k]?=some ok'∧ok'.live=true:=fun k ok hk hlk=>by
  by_cases hne:k=i
  ·subst hne;exact⟨o,hi,hl⟩
  ·exact⟨ok,key k ok hk hne,hlk⟩
 refine⟨⟨?_,?_,?_,?_,?_,s.tab⟩,⟨Gh.le.refl G,by simp[dg],rfl,rfl,rfl,?_,?_,fun _ _ _ h=>.inl h⟩⟩
 ·intro k ok hk
  by_cases hne:k=i
  ·subst hne
   rw[List.getElem?_set_self hil]at hk
   cases hk
   exact x
  ·have hk':=key k ok hk hne
   refine (s.obj k ok hk').keep (Gh.le.refl G) fun q hq hlk=>pZ _ _ _ _ fun e=>?_
   exact hne (s.apart k i ok o q p hk' hi hlk hl hq hp e)
 ·intro k q hq
  simpa using s.dom k q hq
 ·intro a b oa ob' q r ha hb la lb hq hr e
  obtain⟨oa',ha',la'⟩:=keyl a oa ha la
  obtain⟨ob'',hb',lb'⟩:=keyl b ob' hb lb
  exact s.apart a b oa' ob'' q r ha' hb' la' lb' hq hr e
 ·intro b off v e
  rw[y3]
  ·exact s.frz b off v e
  ·intro hb
   simp only at hb
   have:=s.sep i o p hi hl hp off
   rw[← hb,e]at this
   cases this
 ·intro k ok q hk hlk hq off
  obtain⟨ok',hk',hlk'⟩:=keyl k ok hk hlk
  exact s.sep k ok' q hk' hlk' hq off
 ·intro b hb hno
  exact pZ _ _ _ _ fun e=>hno ⟨i,o,p,hi,hl,hp,e.symm⟩
 ·intro b ⟨k,ok,q,hk,hlk,hq,e⟩
  obtain⟨ok',hk',hlk'⟩:=keyl k ok hk hlk
  exact .inl ⟨k,ok',q,hk',hlk',hq,e⟩
theorem G4 {G:Gh}{h:ab}{w:World}(s:Sim G h w) (i:Nat):Sim G (h.set i .dead) w∧Evo G h w G (h.set i .dead) w:=by
 have keyl:∀ (k:Nat) (ok:AObj),(h.set i .dead)[k]?=some ok→ok.live=true→h[k]?=some ok:=fun k ok hk hlk=>by
  by_cases hne:k=i
  ·subst hne
   rw[List.getElem?_set]at hk
   simp at hk
   obtain⟨_,rfl⟩:=hk
   simp[AObj.live]at hlk
  ·rwa [List.getElem?_set_ne (Ne.symm hne)]at hk
 refine⟨⟨?_,?_,?_,s.frz,?_,s.tab⟩,⟨Gh.le.refl G,Nat.le_refl _,rfl,rfl,rfl,fun _ _ _=>rfl,?_,fun _ _ _ h=>.inl h⟩⟩
 ·intro k ok hk
  cases hl:ok.live with
  | false=>cases ok<;>simp_all [AObj.live,ObjAt]
  | true=>exact s.obj k ok (keyl k ok hk hl)
 ·intro k q hq;simpa using s.dom k q hq
 ·intro a b oa ob q r ha hb la lb hq hr e
  exact s.apart a b oa ob q r (keyl a oa ha la) (keyl b ob hb lb) la lb hq hr e
 ·intro k ok q hk hlk hq off
  exact s.sep k ok q (keyl k ok hk hlk) hlk hq off
 ·intro b ⟨k,ok,q,hk,hlk,hq,e⟩
  exact .inl ⟨k,ok,q,keyl k ok hk hlk,hlk,hq,e⟩
theorem P6 {G:Gh}{h:ab}{w:World}(s:Sim G h w) {i:Nat}{o:AObj}{p:Nat×Nat}(hi:h[i]?=some o) (hl:o.live=true) (hp:G.loc i=some p) (off c:Nat) (ob:Obj) (o':AObj) (hl':o'.live=true)
  (x:ObjAt (G.add h.length (p.1,off) c) (dg w p.1 ob) h.length o'):
  Sim (G.add h.length (p.1,off) c) (h.set i .dead++[o']) (dg w p.1 ob)∧Evo G h w (G.add h.length (p.1,off) c) (h.set i .dead++[o']) (dg w p.1 ob):=by
 have hlt:=s.loc_lt hi hl hp
 have hil:i<h.length:=(List.getElem?_eq_some_iff.1 hi).1
 have le:=Gh.le_add s.fresh (p.1,off) c
 have pp:(h.set i .dead).length=h.length:=by simp
 have keyl:∀ (k:Nat) (ok:AObj),(h.set i .dead++[o'])[k]?=some ok→ok.live=true→(k<h.length∧h[k]?=some ok∧k≠i)∨(k=h.length∧ok=o'):=fun k ok hk hlk=>by
  rcases Nat.lt_or_ge k h.length with hlt'|hge
  ·rw[List.getElem?_append_left (by simpa using hlt')]at hk
   by_cases hne:k=i
   ·subst hne
    rw[List.getElem?_set_self hil]at hk
    cases hk
    simp[AObj.live]at hlk
   ·rw[List.getElem?_set_ne (Ne.symm hne)]at hk
    exact .inl ⟨hlt',hk,hne⟩
  ·have hkl:k<(h.set i .dead++[o']).length:=(List.getElem?_eq_some_iff.1 hk).1
   have:k=h.length:=by simp at hkl;omega
   subst this
   rw[List.getElem?_append_right (by simp)]at hk
   simp at hk
   exact .inr ⟨rfl,hk.symm⟩
 have hloc:∀ k,k<h.length→(G.add h.length (p.1,off) c).loc k=G.loc k:=fun k hk=>by simp only[Gh.add];rw[if_neg (by omega)]
 have hnew:(G.add h.length (p.1,off) c).loc h.length=some (p.1,off):=by simp[Gh.add]
 refine⟨⟨?_,?_,?_,?_,?_,s.tab⟩,⟨le,by simp[dg],rfl,rfl,rfl,?_,?_,fun _ _ _ h=>.inl h⟩⟩
 ·intro k ok hk
  cases hlk:ok.live with
  | false=>cases ok<;>simp_all [AObj.live,ObjAt]
  | true=>
    rcases keyl k ok hk hlk with ⟨hkl,hk',hne⟩|⟨rfl,rfl⟩
    ·refine (s.obj k ok hk').keep le fun q hq hlk=>pZ _ _ _ _ fun e=>?_
     exact hne (s.apart k i ok o q p hk' hi hlk hl hq hp e)
    ·exact x
 ·intro k q hq
  simp only[Gh.add]at hq
  split at hq
  ·simp;omega
  ·have:=s.dom k q hq;simp;omega
 ·intro a b oa ob' q r ha hb la lb hq hr e
  rcases keyl a oa ha la with ⟨hal,ha',hna⟩|⟨rfl,rfl⟩<;>rcases keyl b ob' hb lb with ⟨hbl,hb',hnb⟩|⟨rfl,rfl⟩
  ·rw[hloc _ hal]at hq
   rw[hloc _ hbl]at hr
   exact s.apart a b oa ob' q r ha' hb' la lb hq hr e
  ·rw[hloc _ hal]at hq
   rw[hnew]at hr
   cases hr
   exact absurd (s.apart a i oa o q p ha' hi la hl hq hp e) hna
  ·rw[hloc _ hbl]at hr
   rw[hnew]at hq
   cases hq
   exact absurd (s.apart b i ob' o r p hb' hi lb hl hr hp e.symm) hnb
  ·rfl
 ·intro b off' v e
  rw[y3]
  ·exact s.frz b off' v e
  ·intro hb
   simp only at hb
   have:=s.sep i o p hi hl hp off'
   rw[← hb]at this
   have e':G.F b off'=some v:=e
   rw[e']at this
   cases this
 ·intro k ok q hk hlk hq off'
  rcases keyl k ok hk hlk with ⟨hkl,hk',hne⟩|⟨rfl,rfl⟩
  ·rw[hloc _ hkl]at hq
   exact s.sep k ok q hk' hlk hq off'
  ·rw[hnew]at hq
   cases hq
   exact s.sep i o p hi hl hp off'
 ·intro b hb hno
  exact pZ _ _ _ _ fun e=>hno ⟨i,o,p,hi,hl,hp,e.symm⟩
 ·intro b ⟨k,ok,q,hk,hlk,hq,e⟩
  rcases keyl k ok hk hlk with ⟨hkl,hk',hne⟩|⟨rfl,rfl⟩
  ·rw[hloc _ hkl]at hq
   exact .inl ⟨k,ok,q,hk',hlk,hq,e⟩
  ·rw[hnew]at hq
   cases hq
   exact .inl ⟨i,o,p,hi,hl,hp,e⟩
theorem Sim.drawn {G:Gh}{h:ab}{w:World}(s:Sim G h w) (n:Nat):Sim G h { w with drawn:=n }∧Evo G h w G h { w with drawn:=n }:=by
 refine⟨⟨fun i o hi=>(s.obj i o hi).keep (Gh.le.refl G) fun _ _ _=>rfl,s.dom,s.apart,s.frz,s.sep,s.tab⟩,⟨Gh.le.refl G,Nat.le_refl _,rfl,rfl,rfl,fun _ _ _=>rfl,fun _ h=>.inl h,fun _ _ _ h=>.inl h⟩⟩
end
section
variable [Tabs]
section
variable {P:Program}{G:Gh}{h:ab}{w:World}
def bO (o:Option AV) (K:AV→Prop):Prop:=match o with|some v=>K v|none=>False
def ifB (v:AV) (X Y:Prop):Prop:=match v with|.lit (.bool true)=>X|.lit (.bool false)=>Y|_=>False
def gj (op:BinOp) (k:IntKind) (a b:Int):Option Value:=
 match op with
 | .add=>some (.int k (k.wrap (a+b)))
 | .sub=>some (.int k (k.wrap (a-b)))
 | .mul=>some (.int k (k.wrap (a*b)))
 | .quo=>if b=0 then none else some (.int k (k.wrap (a.tdiv b)))
 | .rem=>if b=0 then none else some (.int k (a.tmod b))
 | .and=>some (.int k (k.wrap ((BitVec.ofInt k.bits a &&& BitVec.ofInt k.bits b).toNat:Int)))
 | .or=>some (.int k (k.wrap ((BitVec.ofInt k.bits a ||| BitVec.ofInt k.bits b).toNat:Int)))
 | .xor=>some (.int k (k.wrap ((BitVec.ofInt k.bits a ^^^ BitVec.ofInt k.bits b).toNat:Int)))
 | .andNot=>some (.int k (k.wrap ((BitVec.ofInt k.bits a &&& ~~~ BitVec.ofInt k.bits b).toNat:Int)))
 | .eql=>some (.bool (a==b))
 | .neq=>some (.bool (a != b))
 | .lss=>some (.bool (a<b))
 | .leq=>some (.bool (a≤b))
 | .gtr=>some (.bool (a > b))
 | .geq=>some (.bool (a≥b))
 | _=>none
def tG (op:BinOp) (x y:ByteArray):Option Value:=
 let eq:=x.toList==y.toList
 let lt:=Op.bytesLess x.toList y.toList
 match op with
 | .add=>if ((x.size+y.size:Nat):Int) > IntKind.i64.max then none else some (.string (x++y))
 | .eql=>some (.bool eq)
 | .neq=>some (.bool !eq)
 | .lss=>some (.bool lt)
 | .leq=>some (.bool (lt||eq))
 | .gtr=>some (.bool !(lt||eq))
 | .geq=>some (.bool !lt)
 | _=>none
def tv (op:BinOp) (k:FloatKind) (x y:Nat):Option Value:=
 let c:=k.format.order x y
 match op with
 | .eql=>some (.bool (c==some .eq))
 | .neq=>some (.bool (c != some .eq))
 | .lss=>some (.bool (c==some .lt))
 | .leq=>some (.bool (c==some .lt||c==some .eq))
 | .gtr=>some (.bool (c==some .gt))
 | .geq=>some (.bool (c==some .gt||c==some .eq))
 | .add=>(k.format.add x y).map (.float k)
 | .sub=>(k.format.sub x y).map (.float k)
 | .mul=>(k.format.mul x y).map (.float k)
 | .quo=>(k.format.div x y).map (.float k)
 | _=>none
def cp (op:BinOp) (x y:Value):Option Value:=
 match x,y with
 | .int k a,.int k' b=>
   match op with
   | .shl=>if b<0 then none else some (.int k (k.wrap (a*2^(min b.toNat k.bits))))
   | .shr=>if b<0 then none else some (.int k (a.fdiv (2^(min b.toNat k.bits))))
   | _=>if k=k' then gj op k a b else none
 | .string a,.string b=>tG op a b
 | .float k a,.float k' b=>if k=k' then tv op k a b else none
 | _,_=>none
def y8 (op:BinOp) (x y:AV) (K:AV→Prop):Prop:=
 match x,y with
 | .lit a,.lit b=>(match cp op a b with|some r=>K (.lit r)|none=>False)
 | _,_=>False
theorem Lj {op:BinOp}{a b r:Value}(h:cp op a b=some r):r.oneCell'=true:=by
 unfold cp at h
 split at h
 ·split at h
  ·split at h<;>simp at h;subst h;rfl
  ·split at h<;>simp at h;subst h;rfl
  ·split at h
   ·unfold gj at h
    split at h<;>(try split at h)<;>simp at h<;>subst h<;>rfl
   ·cases h
 ·unfold tG at h
  simp only at h
  split at h<;>(try split at h)<;>simp at h<;>subst h<;>rfl
 ·split at h
  ·unfold tv at h
   simp only at h
   split at h<;>simp at h<;>first|(subst h;rfl)|(obtain⟨_,_,rfl⟩:=h;rfl)
  ·cases h
 ·cases h
theorem JX {op:BinOp}{t:TypeId}{xo yo:Operand}{a b r:Value}(h:cp op a b=some r):
  (do eqGuard op t xo yo a b;binOp op t a b:Sem Value).run P w=.ok r w:=by
 unfold cp at h
 split at h
 ·rename_i k x k' y
  have hg:eqGuard op t xo yo (.int k x) (.int k' y)=pure ():=by unfold eqGuard;split<;>rfl
  rw[hg]
  split at h
  ·split at h
   ·cases h
   ·rename_i hb
    cases h
    simp[binOp,Op.shift,hb]
  ·split at h
   ·cases h
   ·rename_i hb
    cases h
    simp[binOp,Op.shift,hb]
  ·rename_i h1 h2
   split at h
   ·rename_i hk
    subst hk
    unfold gj at h
    cases op<;>simp at h<;>(try (obtain⟨hz,h⟩:=h))<;>(try subst h)<;>simp_all [binOp,Op.intArith,Op.intDiv,Op.intBits,Op.intCmp]
   ·cases h
 ·rename_i x y
  have hg:eqGuard op t xo yo (.string x) (.string y)=pure ():=by unfold eqGuard;split<;>rfl
  rw[hg]
  unfold tG at h
  cases op<;>simp at h<;>(try (obtain⟨hz,h⟩:=h))<;>(try subst h)<;>simp_all [binOp,Op.stringOp]
 ·rename_i k x k' y
  have hg:eqGuard op t xo yo (.float k x) (.float k' y)=pure ():=by unfold eqGuard;split<;>rfl
  rw[hg]
  split at h
  ·rename_i hk
   subst hk
   unfold tv at h
   cases op<;>simp at h<;>first|(subst h;simp_all [binOp,Op.floatCmp];done)|(obtain⟨r,hr,rfl⟩:=h;simp[binOp,Op.floatArith,hr])
  ·cases h
 ·cases h
theorem Fz {op:BinOp}{t:TypeId}{xo yo:Operand}{x y:AV}{a b:Value}{K:AV→Prop}(hx:Rep G x a) (hy:Rep G y b) (k:y8 op x y K):
  Yl P G w (do eqGuard op t xo yo a b;binOp op t a b) K:=by
 unfold y8 at k
 split at k
 ·simp only[Rep]at hx hy
  obtain⟨rfl,_⟩:=hx
  obtain⟨rfl,_⟩:=hy
  split at k
  ·rename_i r hr
   exact⟨_,r,JX hr,by simp[Rep,Lj hr],k⟩
  ·exact k.elim
 ·exact k.elim
theorem B6 {t:TypeId}(ht:P.underlying t=some .bool) (a b:Bool):(Op.equal t (.bool a) (.bool b)).run P w=.ok (a==b) w:=by
 have:∀ d,(Op.equalIn (d+1) t (.bool a) (.bool b)).run P w=.ok (a==b) w:=fun d=>by simp[Op.equalIn,run_underlying ht]
 exact this 9999
theorem uY {t e:TypeId}(ht:P.underlying t=some (.pointer e)) (a:Addr):(Op.equal t (.pointer (some a)) (.pointer none)).run P w=.ok false w:=by
 have:∀ d,(Op.equalIn (d+1) t (.pointer (some a)) (.pointer none)).run P w=.ok false w:=fun d=>by simp[Op.equalIn,run_underlying ht]
 exact this 9999
theorem uG {t e:TypeId}(ht:P.underlying t=some (.pointer e)):(Op.equal t (.pointer none) (.pointer none)).run P w=.ok true w:=by
 have:∀ d,(Op.equalIn (d+1) t (.pointer none) (.pointer none)).run P w=.ok true w:=fun d=>by simp[Op.equalIn,run_underlying ht]
 exact this 9999
def tc (op:BinOp) (x y:AV) (K:AV→Prop):Prop:=
 match x,y with
 | .lit (.bool a),.lit (.bool b)=>(match op with|.eql=>K (B (a==b))|.neq=>K (B (!(a==b)))|_=>False)
 | _,_=>False
theorem PQ {op:BinOp}{t:TypeId}{xo yo:Operand}{x y:AV}{a b:Value}{K:AV→Prop}(ht:P.underlying t=some .bool) (hx:Rep G x a) (hy:Rep G y b) (k:tc op x y K):
  Yl P G w (do eqGuard op t xo yo a b;binOp op t a b) K:=by
 unfold tc at k
 split at k
 ·rename_i p q
  simp only[Rep]at hx hy
  obtain⟨rfl,_⟩:=hx
  obtain⟨rfl,_⟩:=hy
  have hg:eqGuard op t xo yo (.bool p) (.bool q)=pure ():=by unfold eqGuard;split<;>rfl
  rw[hg]
  cases op<;>simp only at k
  case eql=>exact⟨_,.bool (p==q),by simp[binOp,B6 ht],by simp[Rep,Value.oneCell'],k⟩
  case neq=>exact⟨_,.bool (!(p==q)),by simp[binOp,B6 ht],by simp[Rep,Value.oneCell'],k⟩
 ·exact k.elim
def sN (op:BinOp) (x y:AV) (K:AV→Prop):Prop:=
 match x,y with
 | .ptr _ _,.lit (.pointer none)=>(match op with|.eql=>K (B false)|.neq=>K (B true)|_=>False)
 | .lit (.pointer none),.lit (.pointer none)=>(match op with|.eql=>K (B true)|.neq=>K (B false)|_=>False)
 | _,_=>False
theorem Pa {op:BinOp}{t e:TypeId}{xo yo:Operand}{x y:AV}{a b:Value}{K:AV→Prop}(ht:P.underlying t=some (.pointer e)) (hx:Rep G x a) (hy:Rep G y b) (k:sN op x y K):
  Yl P G w (do eqGuard op t xo yo a b;binOp op t a b) K:=by
 unfold sN at k
 split at k
 ·rename_i j off
  simp only[Rep]at hx hy
  obtain⟨bb,o,_,rfl⟩:=hx
  obtain⟨rfl,_⟩:=hy
  have hg:eqGuard op t xo yo (.pointer (some ⟨bb,o+off,none⟩)) (.pointer none)=pure ():=by unfold eqGuard;split<;>rfl
  rw[hg]
  cases op<;>simp only at k
  case eql=>exact⟨_,.bool false,by simp[binOp,uY ht],by simp[Rep,Value.oneCell'],k⟩
  case neq=>exact⟨_,.bool true,by simp[binOp,uY ht],by simp[Rep,Value.oneCell'],k⟩
 ·simp only[Rep]at hx hy
  obtain⟨rfl,_⟩:=hx
  obtain⟨rfl,_⟩:=hy
  have hg:eqGuard op t xo yo (.pointer none) (.pointer none)=pure ():=by unfold eqGuard;split<;>rfl
  rw[hg]
  cases op<;>simp only at k
  case eql=>exact⟨_,.bool true,by simp[binOp,uG ht],by simp[Rep,Value.oneCell'],k⟩
  case neq=>exact⟨_,.bool false,by simp[binOp,uG ht],by simp[Rep,Value.oneCell'],k⟩
 ·exact k.elim
def pUn (op:UnOp) (x:AV) (K:AV→Prop):Prop:=
 match op,x with
 | .neg,.lit (.int k n)=>K (.lit (.int k (k.wrap (0-n))))
 | .xor,.lit (.int k n)=>K (.lit (.int k (k.wrap ((BitVec.ofInt k.bits (if k.signed then -1 else k.max) ^^^ BitVec.ofInt k.bits n).toNat:Int))))
 | .not,.lit (.bool b)=>K (B !b)
 | .neg,.lit (.float k b)=>K (.lit (.float k (Op.negFloat k b)))
 | _,_=>False
theorem TH {op:UnOp}{x:AV}{a:Value}{K:AV→Prop}(hx:Rep G x a) (k:pUn op x K):Yl P G w (Op.unary op a) K:=by
 unfold pUn at k
 split at k
 ·simp only[Rep]at hx
  obtain⟨rfl,_⟩:=hx
  exact⟨_,_,by simp[Op.unary,Op.intArith];rfl,by simp[Rep,Value.oneCell'],k⟩
 ·simp only[Rep]at hx
  obtain⟨rfl,_⟩:=hx
  exact⟨_,_,by simp[Op.unary,Op.intBits];rfl,by simp[Rep,Value.oneCell'],k⟩
 ·simp only[Rep]at hx
  obtain⟨rfl,_⟩:=hx
  exact⟨_,_,by simp[Op.unary];rfl,by simp[Rep,Value.oneCell'],k⟩
 ·simp only[Rep]at hx
  obtain⟨rfl,_⟩:=hx
  exact⟨_,_,by simp[Op.unary];rfl,by simp[Rep,Value.oneCell'],k⟩
 ·exact k.elim
def jU (kd:IntKind) (x:AV) (K:AV→Prop):Prop:=match x with|.lit (.int _ n)=>K (.lit (.int kd (kd.wrap n)))|_=>False
def j2 (kd:FloatKind) (x:AV) (K:AV→Prop):Prop:=match x with|.lit (.int _ n)=>K (.lit (.float kd (kd.nearest n)))|_=>False
def kA (x:AV) (K:AV→Prop):Prop:=match x with|.lit (.string s)=>K (S s)|_=>False
theorem Jy {s d:TypeId}{ks kd:IntKind}(hs:P.underlying s=some (.int ks)) (hd:P.underlying d=some (.int kd)) {x:AV}{a:Value}{K:AV→Prop}(hx:Rep G x a) (k:jU kd x K):Yl P G w (convert s d a) K:=by
 unfold jU at k
 split at k
 ·simp only[Rep]at hx
  obtain⟨rfl,_⟩:=hx
  exact⟨_,_,by simp[convert,run_underlying hs,run_underlying hd,Conv.intToInt];rfl,by simp[Rep,Value.oneCell'],k⟩
 ·exact k.elim
theorem JZ {s d:TypeId}{ks:IntKind}{kd:FloatKind}(hs:P.underlying s=some (.int ks)) (hd:P.underlying d=some (.float kd)) {x:AV}{a:Value}{K:AV→Prop}(hx:Rep G x a) (k:j2 kd x K):Yl P G w (convert s d a) K:=by
 unfold j2 at k
 split at k
 ·simp only[Rep]at hx
  obtain⟨rfl,_⟩:=hx
  exact⟨_,_,by simp[convert,run_underlying hs,run_underlying hd,Conv.intToFloat];rfl,by simp[Rep,Value.oneCell'],k⟩
 ·exact k.elim
theorem KW {s d:TypeId}(hs:P.underlying s=some .string) (hd:P.underlying d=some .string) {x:AV}{a:Value}{K:AV→Prop}(hx:Rep G x a) (k:kA x K):Yl P G w (convert s d a) K:=by
 unfold kA at k
 split at k
 ·simp only[Rep]at hx
  obtain⟨rfl,_⟩:=hx
  exact⟨_,_,by simp[convert,run_underlying hs,run_underlying hd];rfl,by simp[Rep,Value.oneCell'],k⟩
 ·exact k.elim
def C7 (v:AV) (K:AV→Prop):Prop:=match v with|.ptr i o=>K (.ptr i o)|.cptr cs=>K (.cptr cs)|.fn (.func f) fi ca=>K (.fn (.func f) fi ca)|_=>False
def eu (off:Nat) (v:AV) (K:AV→Prop):Prop:=match v with|.ptr i o=>K (.ptr i (o+off))|.cptr cs=>K (.cptr (cs.drop off))|_=>False
theorem CZ {t:TypeId}{fs:Array Field}{f:Nat}{fd:Field}{i:TypeInfo}(ht:P.underlying t=some (.struct fs)) (hf:fs[f]?=some fd) (hi:P.info? fd.type=some i) (hz:i.size≠0)
  {v:AV} {x:Value} {K:AV→Prop} (hx:Rep G v x) (k:eu fd.offset v K):Yl P G w (Instr.fieldAt t x f) K:=by
 unfold eu at k
 split at k
 ·simp only[Rep]at hx
  obtain⟨b,o,h1,rfl⟩:=hx
  refine⟨_,_,by simp[Instr.fieldAt,run_underlying ht,hf,Instr.sureAddr,fieldPlace,sizeOf,typeInfo,hi,hz];rfl,?_,k⟩
  simp only[Rep]
  exact⟨b,o,h1,by rw[dW,Nat.add_assoc]⟩
 ·simp only[Rep]at hx
  obtain⟨b,o,rfl,h1⟩:=hx
  refine⟨_,_,by simp[Instr.fieldAt,run_underlying ht,hf,Instr.sureAddr,fieldPlace,sizeOf,typeInfo,hi,hz];rfl,?_,k⟩
  simp only[Rep]
  exact⟨b,o+fd.offset,by rw[dW],h1.drop _⟩
 ·exact k.elim
def pK (h:ab) (n:Nat):AV→Option (List AV)
 | .ptr i o=>match h[i]? with
   | some (.cells cs)=>if o+n≤cs.length then some ((cs.drop o).take n) else none
   | _=>none
 | .cptr cs=>if n≤cs.length then some (cs.take n) else none
 | _=>none
theorem HO (s:Sim G h w) {n:Nat}{v:AV}{x:Value}(hx:Rep G v x) {l:List AV}(e:pK h n v=some l):
  ∃ b o vs,x=.pointer (some ⟨b,o,none⟩)∧l.length=n∧RepL G l vs∧∀ j u,vs[j]?=some u→w.cell? ⟨b,o+j,none⟩=some u:=by
 unfold pK at e
 split at e
 ·rename_i i o
  split at e
  ·rename_i cs hcs
   split at e
   ·rename_i hle
    cases e
    simp only[Rep]at hx
    obtain⟨b,o',h1,rfl⟩:=hx
    obtain⟨b2,o2,arr,el,lo,hi,e1,e2,e3,e4,e5,e6⟩:=s.obj i _ hcs
    rw[h1]at e1
    cases e1
    refine⟨b,o'+o,(arr.toList.drop (o'+o)).take n,rfl,by simp;omega,?_,?_⟩
    ·refine g6 (by simp;omega) fun j a ha=>?_
     rw[List.getElem?_take]at ha ⊢
     split at ha
     ·rename_i hj
      rw[if_pos hj]
      rw[List.getElem?_drop]at ha ⊢
      obtain⟨v,h2,h3⟩:=e6 (o+j) a ha
      exact⟨v,by rw[Array.getElem?_toList,← h2];congr 1;omega,h3⟩
     ·cases ha
    ·intro j u hu
     rw[List.getElem?_take]at hu
     split at hu
     ·rw[List.getElem?_drop,Array.getElem?_toList]at hu
      simp[World.cell?,e2,hu]
     ·cases hu
   ·cases e
  ·cases e
 ·rename_i cs
  split at e
  ·rename_i hle
   cases e
   simp only[Rep]at hx
   obtain⟨b,o,rfl,h1⟩:=hx
   have hat:=(h1.take n)
   have:∀ j,j<n→∃ u,G.F b (o+j)=some u∧∀ a,cs[j]?=some a→Rep G a u:=fun j hj=>by
    have hl:j<cs.length:=by omega
    obtain⟨u,h2,h3⟩:=h1.at j cs[j] (by simp[hl])
    exact⟨u,h2,fun a ha=>by simp[hl]at ha;subst ha;exact h3⟩
   refine⟨b,o,(List.range n).map fun j=>(G.F b (o+j)).getD undef,rfl,by simp;omega,?_,?_⟩
   ·refine g6 (by simp;omega) fun j a ha=>?_
    rw[List.getElem?_take]at ha
    split at ha
    ·rename_i hj
     obtain⟨u,h2,h3⟩:=this j hj
     exact⟨u,by simp[hj,h2],h3 a ha⟩
    ·cases ha
   ·intro j u hu
    by_cases hj:j<n
    ·obtain⟨u',h2,_⟩:=this j hj
     simp[hj,h2]at hu
     subst hu
     exact s.frz b (o+j) _ h2
    ·simp[hj]at hu
  ·cases e
 ·cases e
def kS (n:Nat) (v:AV) (h:ab) (K:AV→Prop):Prop:=match pK h n v with|some l=>K (.agg l)|none=>False
def kP (v:AV) (h:ab) (K:AV→Prop):Prop:=match pK h 1 v with|some [a]=>K a|_=>False
def j9:TypeDesc→Bool
 | .struct _=>true
 | .array _ _=>true
 | _=>false
theorem py {t:TypeId}{d:TypeDesc}(h:P.underlying t=some d):(isAgg t).run P w=.ok (j9 d) w:=by
 unfold isAgg j9
 simp only[Sem.run_bind,run_underlying h,Result.andThen_ok]
 cases d<;>rfl
theorem xW (s:Sim G h w) {t:TypeId}{d:TypeDesc}{i:TypeInfo}(ht:P.underlying t=some d) (hd:j9 d=true) (hi:P.info? t=some i) {v:AV}{x:Value}{K:AV→Prop}(hx:Rep G v x) (k:kS i.size v h K):
  Yl P G w (Instr.loadAt t x) K:=by
 unfold kS at k
 split at k
 ·rename_i l hl
  obtain⟨b,o,vs,rfl,h1,h2,h3⟩:=HO s hx hl
  have hlen:vs.length=i.size:=by rw[h2.length,h1]
  have hc:=run_loadCells_list (P:=P) w ⟨b,o,none⟩ vs (fun j v hj=>by rw[dW];exact h3 j v hj)
  rw[hlen]at hc
  refine⟨_,.agg vs.toArray,?_,?_,k⟩
  ·simp[Instr.loadAt,Instr.sureAddr,loadVar,py ht,hd,sizeOf,typeInfo,hi,hc]
  ·simp only[Rep];exact⟨vs,rfl,h2⟩
 ·exact k.elim
theorem xS (s:Sim G h w) {t:TypeId}{d:TypeDesc}(ht:P.underlying t=some d) (hd:j9 d=false) {v:AV}{x:Value}{K:AV→Prop}(hx:Rep G v x) (k:kP v h K):
  Yl P G w (Instr.loadAt t x) K:=by
 unfold kP at k
 split at k
 ·rename_i a hl
  obtain⟨b,o,vs,rfl,h1,h2,h3⟩:=HO s hx hl
  simp only[RepL]at h2
  obtain⟨u,ws,rfl,h4,rfl⟩:=h2
  have hc:=h3 0 u (by simp)
  rw[Nat.add_zero]at hc
  refine⟨a,u,?_,h4,k⟩
  simp[Instr.loadAt,Instr.sureAddr,loadVar,py ht,hd,hc]
 ·exact k.elim
def nq (off n:Nat) (v:AV) (K:AV→Prop):Prop:=match v with|.agg cs=>K (.agg ((cs.drop off).take n))|_=>False
def m9 (off:Nat) (v:AV) (K:AV→Prop):Prop:=match v with|.agg cs=>(match cs[off]? with|some a=>K a|none=>False)|_=>False
theorem MV {t:TypeId}{d:TypeDesc}{i:TypeInfo}{off:Nat}(ht:P.underlying t=some d) (hd:j9 d=true) (hi:P.info? t=some i) {v:AV}{x:Value}{K:AV→Prop}(hx:Rep G v x) (k:nq off i.size v K):
  Yl P G w (do part t (← asAgg x) off) K:=by
 unfold nq at k
 split at k
 ·simp only[Rep]at hx
  obtain⟨vs,rfl,h1⟩:=hx
  refine⟨_,.agg ((vs.drop off).take i.size).toArray,?_,?_,k⟩
  ·simp[asAgg,part,py ht,hd,sizeOf,typeInfo,hi,List.extract_eq_take_drop]
  ·simp only[Rep];exact⟨_,rfl,(h1.drop off).take _⟩
 ·exact k.elim
theorem NW {t:TypeId}{d:TypeDesc}{off:Nat}(ht:P.underlying t=some d) (hd:j9 d=false) {v:AV}{x:Value}{K:AV→Prop}(hx:Rep G v x) (k:m9 off v K):
  Yl P G w (do part t (← asAgg x) off) K:=by
 unfold m9 at k
 split at k
 ·simp only[Rep]at hx
  obtain⟨vs,rfl,h1⟩:=hx
  split at k
  ·rename_i a ha
   obtain⟨u,h2,h3⟩:=h1.at _ a ha
   refine⟨a,u,?_,h3,k⟩
   simp[asAgg,part,py ht,hd,h2]
  ·exact k.elim
 ·exact k.elim
end
end
section
variable [Tabs]
section
variable {P:Program}{G:Gh}{h:ab}{w:World}
def asI:AV→Option Int
 | .lit (.int _ n)=>some n
 | _=>none
theorem JL {v:AV}{x:Value}{n:Int}(hx:Rep G v x) (e:asI v=some n):∃ k,x=.int k n:=by
 unfold asI at e
 split at e
 ·cases e
  simp only[Rep]at hx
  exact⟨_,hx.1⟩
 ·cases e
def bAt (s:ByteArray) (i:Int):Int:=(((s.data[i.toNat]?).getD 0).toNat:Int)
def jg (v i:AV) (K:AV→Prop):Prop:=match v,i with|.lit (.string s),.lit (.int _ n)=>(0≤n∧n<s.size)∧K (.lit (.int .u8 (bAt s n)))|_,_=>False
theorem KB {t:TypeId}(ht:P.underlying t=some .string) {v i:AV}{x y:Value}{K:AV→Prop}(hx:Rep G v x) (hi:Rep G i y) (k:jg v i K):Yl P G w (Instr.index t x y) K:=by
 unfold jg at k
 split at k
 ·rename_i s kk n
  simp only[Rep]at hx hi
  obtain⟨rfl,_⟩:=hx
  obtain⟨rfl,_⟩:=hi
  obtain⟨⟨h0,h1⟩,k⟩:=k
  have hn:n.toNat<s.size:=by omega
  have hn':n.toNat<s.data.size:=hn
  refine⟨_,.int .u8 (bAt s n),?_,by simp[Rep,Value.oneCell'],k⟩
  have e:s[n.toNat]?=some (s.data[n.toNat]'hn'):=by
   show (if hh:n.toNat<s.size then some _ else none)=_
   rw[dif_pos hn];rfl
  have e2:s.data[n.toNat]?=some (s.data[n.toNat]'hn'):=Array.getElem?_eq_getElem hn'
  simp only[Instr.index,asIntOf,Sem.run_bind,Sem.run_pure,Result.andThen_ok,run_underlying ht,h0,if_true,e,bAt,e2,Option.getD_some]
 ·exact k.elim
def dB (size:Nat) (v i:AV) (K:AV→Prop):Prop:=
 match asI i with
 | none=>False
 | some n=>match v with
   | .sl j off len sz=>(0≤n∧n<len∧sz=size)∧K (.ptr j (off+n.toNat*size))
   | .snap m cs=>(0≤n∧n<m)∧K (.cptr (cs.drop (n.toNat*size)))
   | .full m cs=>(0≤n∧n<m)∧K (.cptr (cs.drop (n.toNat*size)))
   | _=>False
theorem uS {t e:TypeId}{ei:TypeInfo}(ht:P.underlying t=some (.slice e)) (he:P.info? e=some ei) {v i:AV}{x y:Value}{K:AV→Prop}(hx:Rep G v x) (hi:Rep G i y) (k:dB ei.size v i K):
  Yl P G w (Instr.indexAt t x y) K:=by
 unfold dB at k
 split at k
 ·exact k.elim
 ·rename_i n hn
  obtain⟨kk,rfl⟩:=JL hi hn
  split at k
  ·rename_i j off len sz
   obtain⟨⟨h0,h1,rfl⟩,k⟩:=k
   simp only[Rep]at hx
   obtain⟨b,o,c,ad,h2,h3,h4,h5,rfl⟩:=hx
   obtain rfl:=h5 (by omega)
   refine⟨_,.pointer (some ⟨b,o+(off+n.toNat*ei.size),none⟩),?_,by simp only[Rep];exact⟨b,o,h2,rfl⟩,k⟩
   simp[Instr.indexAt,asIntOf,run_underlying ht,h0,h1,sizeOf,typeInfo,he,dW,Nat.add_assoc]
  ·rename_i m cs
   obtain⟨⟨h0,h1⟩,k⟩:=k
   simp only[Rep]at hx
   rcases hx with ⟨rfl,_,_⟩|⟨b,o,c,h2,rfl,h3⟩
   ·omega
   ·refine⟨_,.pointer (some ⟨b,o+n.toNat*ei.size,none⟩),?_,by simp only[Rep];exact⟨b,_,rfl,h3.drop _⟩,k⟩
    simp[Instr.indexAt,asIntOf,run_underlying ht,h0,h1,sizeOf,typeInfo,he,dW]
  ·rename_i m cs
   obtain⟨⟨h0,h1⟩,k⟩:=k
   simp only[Rep]at hx
   rcases hx with ⟨rfl,_,_⟩|⟨b,o,rfl,h3⟩
   ·omega
   ·refine⟨_,.pointer (some ⟨b,o+n.toNat*ei.size,none⟩),?_,by simp only[Rep];exact⟨b,_,rfl,h3.drop _⟩,k⟩
    simp[Instr.indexAt,asIntOf,run_underlying ht,h0,h1,sizeOf,typeInfo,he,dW]
  ·exact k.elim
def cT (len size:Nat) (v i:AV) (K:AV→Prop):Prop:=
 match asI i with
 | none=>False
 | some n=>match v with
   | .ptr j off=>(0≤n∧n<len)∧K (.ptr j (off+n.toNat*size))
   | .cptr cs=>(0≤n∧n<len)∧K (.cptr (cs.drop (n.toNat*size)))
   | _=>False
theorem tD {t e:TypeId}{len:Nat}{ei:TypeInfo}(ht:P.underlying t=some (.array len e)) (he:P.info? e=some ei) {v i:AV}{x y:Value}{K:AV→Prop}(hx:Rep G v x) (hi:Rep G i y) (k:cT len ei.size v i K):
  Yl P G w (Instr.indexAt t x y) K:=by
 unfold cT at k
 split at k
 ·exact k.elim
 ·rename_i n hn
  obtain⟨kk,rfl⟩:=JL hi hn
  split at k
  ·rename_i j off
   obtain⟨⟨h0,h1⟩,k⟩:=k
   simp only[Rep]at hx
   obtain⟨b,o,h2,rfl⟩:=hx
   refine⟨_,.pointer (some ⟨b,o+(off+n.toNat*ei.size),none⟩),?_,by simp only[Rep];exact⟨b,o,h2,rfl⟩,k⟩
   simp[Instr.indexAt,asIntOf,run_underlying ht,h0,h1,sizeOf,typeInfo,he,dW,Nat.add_assoc,Instr.sureAddr]
  ·rename_i cs
   obtain⟨⟨h0,h1⟩,k⟩:=k
   simp only[Rep]at hx
   obtain⟨b,o,rfl,h3⟩:=hx
   refine⟨_,.pointer (some ⟨b,o+n.toNat*ei.size,none⟩),?_,by simp only[Rep];exact⟨b,_,rfl,h3.drop _⟩,k⟩
   simp[Instr.indexAt,asIntOf,run_underlying ht,h0,h1,sizeOf,typeInfo,he,dW,Instr.sureAddr]
  ·exact k.elim
def jl (o:Option AV) (d:Int):Option Int:=match o with|none=>some d|some v=>asI v
def gN (v:AV) (lo hi:Option AV) (K:AV→Prop):Prop:=
 match v with
 | .lit (.string s)=>(match jl lo 0,jl hi s.size with
   | some l,some h=>(0≤l∧l≤h∧h≤s.size)∧K (S (s.extract l.toNat h.toNat))
   | _,_=>False)
 | _=>False
def lm (G:Gh):Option AV→Option Value→Prop
 | none,none=>True
 | some v,some x=>Rep G v x
 | _,_=>False
theorem lp {v:AV}{x:Value}{n:Int}{y:Nat}{c:BoundsCode}(hx:Rep G v x) (e:asI v=some n) (h0:0≤n) (h1:n≤y):(Instr.sliceBound x y c).run P w=.ok n.toNat w:=by
 obtain⟨k,rfl⟩:=JL hx e
 simp[Instr.sliceBound,asIntOf,h0,h1]
theorem fJ {is:Bool}{len cap:Nat}{lo hi:Option AV}{xl xh:Option Value}{l h:Int}(hl:lm G lo xl) (hh:lm G hi xh) (el:jl lo 0=some l) (eh:jl hi len=some h) (h0:0≤l) (h1:l≤h) (h2:h≤cap):
  (Instr.sliceBounds is len cap xl xh none).run P w=.ok (l.toNat,h.toNat,cap) w:=by
 have hhn:h≤(h.toNat:Int):=by omega
 cases lo with
 | none=>
   cases xl with
   | some _=>exact hl.elim
   | none=>
     simp only[jl,Option.some.injEq]at el
     subst el
     cases hi with
     | none=>
       cases xh with
       | some _=>exact hh.elim
       | none=>
         simp only[jl,Option.some.injEq]at eh
         subst eh
         simp[Instr.sliceBounds]
     | some v=>
       cases xh with
       | none=>exact hh.elim
       | some x=>
         simp only[jl]at eh
         simp[Instr.sliceBounds,lp (P:=P) (w:=w) hh eh (by omega) h2]
 | some u=>
   cases xl with
   | none=>exact hl.elim
   | some z=>
     simp only[jl]at el
     cases hi with
     | none=>
       cases xh with
       | some _=>exact hh.elim
       | none=>
         simp only[jl,Option.some.injEq]at eh
         subst eh
         simp[Instr.sliceBounds,lp (P:=P) (w:=w) hl el h0 h1]
     | some v=>
       cases xh with
       | none=>exact hh.elim
       | some x=>
         simp only[jl]at eh
         simp[Instr.sliceBounds,lp (P:=P) (w:=w) hh eh (by omega) h2,lp (P:=P) (w:=w) (y:=h.toNat) hl el h0 (by omega)]
theorem gU {t:TypeId}{d:TypeDesc}(ht:P.underlying t=some d) (hd:∀ n e,d≠.array n e) (x:Value) (a b c:Option Value):(Instr.sliceAt t x a b c).run P w=(Instr.slice t x a b c).run P w:=by
 unfold Instr.sliceAt
 simp only[Sem.run_bind,run_underlying ht,Result.andThen_ok]
theorem JN {t:TypeId}(ht:P.underlying t=some .string) {v:AV}{lo hi:Option AV}{x:Value}{xl xh:Option Value}{K:AV→Prop}(hx:Rep G v x) (hl:lm G lo xl) (hh:lm G hi xh) (k:gN v lo hi K):
  Yl P G w (Instr.sliceAt t x xl xh none) K:=by
 unfold gN at k
 split at k
 ·rename_i s
  simp only[Rep]at hx
  obtain⟨rfl,_⟩:=hx
  split at k
  ·rename_i l h el eh
   obtain⟨⟨h0,h1,h2⟩,k⟩:=k
   refine⟨_,.string (s.extract l.toNat h.toNat),?_,by simp[Rep,Value.oneCell'],k⟩
   rw[gU ht (by simp)]
   simp[Instr.slice,run_underlying ht,fJ (P:=P) (w:=w) (is:=false) hl hh el eh h0 h1 h2]
  ·exact k.elim
 ·exact k.elim
def gK (size:Nat) (v:AV) (lo hi:Option AV) (K:AV→Prop):Prop:=
 match v with
 | .sl i off len sz=>(match jl lo 0,jl hi len with
   | some l,some h=>(0≤l∧l≤h∧h≤len∧sz=size)∧K (.sl i (off+l.toNat*size) (h.toNat-l.toNat) size)
   | _,_=>False)
 | .snap n cs=>(match jl lo 0,jl hi n with
   | some l,some h=>(0≤l∧l≤h∧h≤n)∧K (.snap (h.toNat-l.toNat) ((cs.drop (l.toNat*size)).take ((h.toNat-l.toNat)*size)))
   | _,_=>False)
 | .full n cs=>(match jl lo 0,jl hi n with
   | some l,some h=>(0≤l∧l≤h∧h≤n)∧K (.snap (h.toNat-l.toNat) ((cs.drop (l.toNat*size)).take ((h.toNat-l.toNat)*size)))
   | _,_=>False)
 | _=>False
theorem Ke {t e:TypeId}{ei:TypeInfo}(ht:P.underlying t=some (.slice e)) (he:P.info? e=some ei) {v:AV}{lo hi:Option AV}{x:Value}{xl xh:Option Value}{K:AV→Prop}(hx:Rep G v x)
  (hl:lm G lo xl) (hh:lm G hi xh) (k:gK ei.size v lo hi K):Yl P G w (Instr.sliceAt t x xl xh none) K:=by
 have cut:∀ (n c:Nat) (cs:List AV) (b o:Nat) (l h:Int),RepAt G cs b o→n≤c→0≤l→l≤h→h≤n→
   Rep G (.snap (h.toNat-l.toNat) ((cs.drop (l.toNat*ei.size)).take ((h.toNat-l.toNat)*ei.size))) (.slice (if c=l.toNat then some ⟨b,o,none⟩ else (some ⟨b,o,none⟩:Option Addr).map (·.add (l.toNat*ei.size))) (h.toNat-l.toNat) (c-l.toNat)):=by
  intro n c cs b o l h h3 hnc h0 h1 h2
  simp only[Rep]
  by_cases hc:c=l.toNat
  ·rw[if_pos hc]
   have e0:h.toNat-l.toNat=0:=by omega
   exact .inr ⟨b,o,c-l.toNat,by omega,rfl,by rw[e0];simp[RepAt]⟩
  ·rw[if_neg hc]
   exact .inr ⟨b,o+l.toNat*ei.size,c-l.toNat,by omega,by simp[dW],(h3.drop _).take _⟩
 unfold gK at k
 split at k
 ·rename_i i off len sz
  split at k
  ·rename_i l h el eh
   obtain⟨⟨h0,h1,h2,rfl⟩,k⟩:=k
   simp only[Rep]at hx
   obtain⟨b,o,c,ad,h3,h4,h5,h6,rfl⟩:=hx
   have hb:=fJ (P:=P) (w:=w) (is:=true) (cap:=c) hl hh el eh h0 h1 (by omega)
   refine⟨_,_,by rw[gU ht (by simp)];simp[Instr.slice,run_underlying ht,hb,sizeOf,typeInfo,he];rfl,?_,k⟩
   simp only[Rep]
   have hlc:l.toNat≤c:=by omega
   have hcap:off+l.toNat*ei.size+(c-l.toNat)*ei.size≤G.cap i:=by
    rw[Nat.add_assoc,← Nat.add_mul,Nat.add_sub_cancel' hlc];exact h4
   by_cases hc:c=l.toNat
   ·rw[if_pos hc]
    exact⟨b,o,c-l.toNat,ad,h3,hcap,by omega,fun hp=>by omega,rfl⟩
   ·rw[if_neg hc]
    refine⟨b,o,c-l.toNat,ad+l.toNat*ei.size,h3,hcap,by omega,fun hp=>?_,by simp[dW]⟩
    have:=h6 (by omega)
    omega
  ·exact k.elim
 ·rename_i n cs
  split at k
  ·rename_i l h el eh
   obtain⟨⟨h0,h1,h2⟩,k⟩:=k
   simp only[Rep]at hx
   rcases hx with ⟨rfl,rfl,za,rfl⟩|⟨b,o,c,h2',rfl,h3⟩
   ·have hb:=fJ (P:=P) (w:=w) (is:=true) (cap:=0) hl hh el eh h0 h1 (by omega)
    refine⟨_,_,by rw[gU ht (by simp)];simp[Instr.slice,run_underlying ht,hb,sizeOf,typeInfo,he];rfl,?_,k⟩
    have:l=0:=by omega
    have:h=0:=by omega
    subst_vars
    simp[Rep,RepAt]
   ·have hb:=fJ (P:=P) (w:=w) (is:=true) (cap:=c) hl hh el eh h0 h1 (by omega)
    refine⟨_,_,by rw[gU ht (by simp)];simp[Instr.slice,run_underlying ht,hb,sizeOf,typeInfo,he];rfl,?_,k⟩
    exact cut n c cs b o l h h3 h2' h0 h1 h2
  ·exact k.elim
 ·rename_i n cs
  split at k
  ·rename_i l h el eh
   obtain⟨⟨h0,h1,h2⟩,k⟩:=k
   simp only[Rep]at hx
   rcases hx with ⟨rfl,rfl,za,rfl⟩|⟨b,o,rfl,h3⟩
   ·have hb:=fJ (P:=P) (w:=w) (is:=true) (cap:=0) hl hh el eh h0 h1 (by omega)
    refine⟨_,_,by rw[gU ht (by simp)];simp[Instr.slice,run_underlying ht,hb,sizeOf,typeInfo,he];rfl,?_,k⟩
    have:l=0:=by omega
    have:h=0:=by omega
    subst_vars
    simp[Rep,RepAt]
   ·have hb:=fJ (P:=P) (w:=w) (is:=true) (cap:=n) hl hh el eh h0 h1 (by omega)
    refine⟨_,_,by rw[gU ht (by simp)];simp[Instr.slice,run_underlying ht,hb,sizeOf,typeInfo,he];rfl,?_,k⟩
    exact cut n n cs b o l h h3 (Nat.le_refl _) h0 h1 h2
  ·exact k.elim
 ·exact k.elim
def jW (v:AV) (K:AV→Prop):Prop:=match v with|.sl _ _ _ _=>K (.full 0 [])|.snap _ _=>K (.full 0 [])|.full _ _=>K (.full 0 [])|_=>False
theorem Lm {t e:TypeId}{ei:TypeInfo}(ht:P.underlying t=some (.slice e)) (he:P.info? e=some ei) {v:AV}{x:Value}{K:AV→Prop}(hx:Rep G v x) (k1 k2:IntKind) (k:jW v K):
  Yl P G w (Instr.sliceAt t x none (some (.int k1 0)) (some (.int k2 0))) K:=by
 have key:∀ (a:Option Addr) (len cap:Nat),K (.full 0 [])→Yl P G w (Instr.sliceAt t (.slice a len cap) none (some (.int k1 0)) (some (.int k2 0))) K:=by
  intro a len cap k
  refine⟨_,.slice a 0 0,by rw[gU ht (by simp)];simp[Instr.slice,run_underlying ht,Instr.sliceBounds,Instr.sliceBound,asIntOf,sizeOf,typeInfo,he],?_,k⟩
  simp only[Rep]
  exact .inl ⟨trivial,trivial,_,rfl⟩
 unfold jW at k
 split at k
 ·simp only[Rep]at hx
  obtain⟨b,o,c,ad,_,_,_,_,rfl⟩:=hx
  exact key _ _ _ k
 ·simp only[Rep]at hx
  rcases hx with ⟨_,_,za,rfl⟩|⟨b,o,c,_,rfl,_⟩
  ·exact key _ _ _ k
  ·exact key _ _ _ k
 ·simp only[Rep]at hx
  rcases hx with ⟨_,_,za,rfl⟩|⟨b,o,rfl,_⟩
  ·exact key _ _ _ k
  ·exact key _ _ _ k
 ·exact k.elim
def Um (v:AV) (h:ab) (K:AV→Prop):Prop:=
 match v with
 | .lit (.string s)=>K (I s.size)
 | .sl _ _ len _=>K (I len)
 | .snap n _=>K (I n)
 | .full n _=>K (I n)
 | .map i=>(match h[i]? with|some (.amap es _)=>K (I es.length)|_=>False)
 | _=>False
def Vc:TypeDesc→Bool
 | .string=>true
 | .slice _=>true
 | .map _ _=>true
 | _=>false
def Bn:TypeDesc→AV→Bool
 | .string,.lit (.string _)=>true
 | .slice _,.sl _ _ _ _=>true
 | .slice _,.snap _ _=>true
 | .slice _,.full _ _=>true
 | .map _ _,.map _=>true
 | _,_=>false
theorem Sa (s:Sim G h w) {t ty:TypeId}{d:TypeDesc}(ht:P.underlying t=some d) {v:AV}{x:Value}{K:AV→Prop}(hx:Rep G v x) (hd:Bn d v=true) (k:Um v h K):Yl P G w (Builtin.len_ #[t] ty #[x]) K:=by
 unfold Um at k
 split at k
 ·cases d<;>simp[Bn]at hd
  simp only[Rep]at hx
  obtain⟨rfl,_⟩:=hx
  exact⟨_,_,by simp[Builtin.len_,run_underlying ht];rfl,by simp[Rep,Value.oneCell',goInt],k⟩
 ·cases d<;>simp[Bn]at hd
  simp only[Rep]at hx
  obtain⟨b,o,c,ad,_,_,_,_,rfl⟩:=hx
  exact⟨_,_,by simp[Builtin.len_,run_underlying ht];rfl,by simp[Rep,Value.oneCell',goInt],k⟩
 ·cases d<;>simp[Bn]at hd
  simp only[Rep]at hx
  rcases hx with ⟨rfl,_,za,rfl⟩|⟨b,o,c,_,rfl,_⟩<;>exact⟨_,_,by simp[Builtin.len_,run_underlying ht];rfl,by simp[Rep,Value.oneCell',goInt],k⟩
 ·cases d<;>simp[Bn]at hd
  simp only[Rep]at hx
  rcases hx with ⟨rfl,_,za,rfl⟩|⟨b,o,rfl,_⟩<;>exact⟨_,_,by simp[Builtin.len_,run_underlying ht];rfl,by simp[Rep,Value.oneCell',goInt],k⟩
 ·rename_i i
  cases d<;>simp[Bn]at hd
  split at k
  ·rename_i es clock hes
   simp only[Rep]at hx
   obtain⟨b,h1,rfl⟩:=hx
   obtain⟨b',arr,e1,e2,e3⟩:=s.obj _ _ hes
   rw[h1]at e1
   cases e1
   have hl:arr.size=es.length:=by simpa using e3.length
   refine⟨_,.int .i64 es.length,?_,by simp[Rep,Value.oneCell'],k⟩
   simp[Builtin.len_,run_underlying ht,getObj,Sem.run,e2,goInt,hl]
  ·exact k.elim
 ·exact k.elim
def gw (i:Nat) (v:AV) (K:AV→Prop):Prop:=match v with|.tup vs=>(match vs[i]? with|some a=>K a|none=>False)|_=>False
theorem Hw {i:Nat}{v:AV}{x:Value}{K:AV→Prop}(hx:Rep G v x) (k:gw i v K):Yl P G w (Instr.extract x i) K:=by
 unfold gw at k
 split at k
 ·simp only[Rep]at hx
  obtain⟨vs,rfl,h1⟩:=hx
  split at k
  ·rename_i a ha
   obtain⟨u,h2,h3⟩:=h1.at _ a ha
   exact⟨a,u,by simp[Instr.extract,h2],h3,k⟩
  ·exact k.elim
 ·exact k.elim
def y5 (x y:AV) (K:AV→Prop):Prop:=match x,y with|.lit (.int k a),.lit (.int _ b)=>K (.lit (.int k (if b > a then b else a)))|_,_=>False
def zu (x y:AV) (K:AV→Prop):Prop:=match x,y with|.lit (.int k a),.lit (.int _ b)=>K (.lit (.int k (if b<a then b else a)))|_,_=>False
theorem SM {ts:Array TypeId}{t:TypeId}{x y:AV}{a b:Value}{K:AV→Prop}(hx:Rep G x a) (hy:Rep G y b) (k:y5 x y K):Yl P G w (Builtin.max_ ts t #[a,b]) K:=by
 unfold y5 at k
 split at k
 ·simp only[Rep]at hx hy
  obtain⟨rfl,_⟩:=hx
  obtain⟨rfl,_⟩:=hy
  exact⟨_,_,by simp[Builtin.max_,Builtin.max2];rfl,by simp[Rep,Value.oneCell'],k⟩
 ·exact k.elim
theorem SY {ts:Array TypeId}{t:TypeId}{x y:AV}{a b:Value}{K:AV→Prop}(hx:Rep G x a) (hy:Rep G y b) (k:zu x y K):Yl P G w (Builtin.min_ ts t #[a,b]) K:=by
 unfold zu at k
 split at k
 ·simp only[Rep]at hx hy
  obtain⟨rfl,_⟩:=hx
  obtain⟨rfl,_⟩:=hy
  exact⟨_,_,by simp[Builtin.min_,Builtin.min2];rfl,by simp[Rep,Value.oneCell'],k⟩
 ·exact k.elim
def yc (t:TypeId) (v:AV) (K:AV→Prop):Prop:=K (.iface t v)
theorem NE {t:TypeId}{d:TypeDesc}(ht:P.underlying t=some d) (hd:∀ m,d≠.interface m) {v:AV}{x:Value}{K:AV→Prop}(hx:Rep G v x) (k:yc t v K):Yl P G w (Instr.makeInterface t x) K:=by
 refine⟨_,.iface t x,?_,by simp only[Rep];exact⟨x,rfl,hx⟩,k⟩
 unfold Instr.makeInterface
 simp only[Sem.run_bind,run_underlying ht,Result.andThen_ok]
 cases d<;>first|rfl|exact absurd rfl (hd _)
end
end
section
variable [Tabs]
section
variable {P:Program}{G:Gh}{h:ab}{w:World}
def splice {α:Type}(l:List α) (off:Nat) (xs:List α):List α:=l.take off++xs++l.drop (off+xs.length)
theorem fe {α:Type}{l xs:List α}{off:Nat}(h:off+xs.length≤l.length):(splice l off xs).length=l.length:=by
 simp[splice];omega
theorem c5 {α:Type}{l xs:List α}{off:Nat}(h:off+xs.length≤l.length) (j:Nat):(splice l off xs)[j]?=if j<off then l[j]? else if j<off+xs.length then xs[j-off]? else l[j]?:=by
 have ht:(l.take off).length=off:=by simp;omega
 unfold splice
 by_cases h1:j<off
 ·rw[if_pos h1,List.append_assoc,List.getElem?_append_left (by omega),List.getElem?_take,if_pos h1]
 ·rw[if_neg h1]
  by_cases h2:j<off+xs.length
  ·rw[if_pos h2,List.append_assoc,List.getElem?_append_right (by omega),ht,List.getElem?_append_left (by omega)]
  ·rw[if_neg h2,List.getElem?_append_right (by simp;omega),List.getElem?_drop]
   congr 1
   simp
   omega
theorem RepL.splice {G:Gh}{l xs:List AV}{vs us:List Value}{off:Nat}(h:RepL G l vs) (k:RepL G xs us):RepL G (splice l off xs) (splice vs off us):=by
 unfold AL.splice
 rw[show us.length=xs.length from k.length]
 exact ((h.take off).append k).append (h.drop _)
theorem tE (off:Nat):∀ (xs:List Value) (k:Nat) (arr:Array Value),off+k+xs.length≤arr.size→
  ((xs.zipIdx k).foldl (fun (cs:Array Value) (x:Value×Nat)=>cs.setIfInBounds (off+x.2) x.1) arr).toList=splice arr.toList (off+k) xs
 | [],k,arr,_=>by simp[splice]
 | x::xs,k,arr,hl=>by
   simp only[List.length_cons]at hl
   simp only[List.zipIdx_cons,List.foldl_cons]
   rw[tE off xs (k+1) _ (by simp;omega)]
   apply List.ext_getElem?
   intro j
   rw[c5 (by simp;omega),c5 (by simp;omega)]
   simp only[Array.toList_setIfInBounds,List.getElem?_set,List.length_cons,Array.length_toList]
   by_cases h1:j<off+k
   ·rw[if_pos (by omega),if_pos h1,if_neg (by omega)]
   ·rw[if_neg h1]
    by_cases h2:j=off+k
    ·subst h2
     rw[if_pos (by omega),if_pos rfl,if_pos (by omega),if_pos (by omega)]
     simp
    ·rw[if_neg (by omega),if_neg (show ¬ off+k=j by omega)]
     by_cases h3:j<off+k+(xs.length+1)
     ·rw[if_pos (by omega),if_pos h3]
      rw[show j-(off+k)=(j-(off+(k+1)))+1 by omega,List.getElem?_cons_succ]
     ·rw[if_neg (by omega),if_neg h3]
def Ax:List AV→List (Nat×Nat×AV)→Option (List AV)
 | cs,[]=>some cs
 | cs,(off,n,v)::rest=>if (!v.isTup&&(v.cells.length==n&&decide (off+n≤cs.length)))=true then Ax (splice cs off v.cells) rest else none
def vC (place:Nat→Option (Nat×Nat)):List (Nat×AV)→Option (List (Nat×Nat×AV))
 | []=>some []
 | (i,v)::rest=>match place i,vC place rest with
   | some (off,n),some ps=>some ((off,n,v)::ps)
   | _,_=>none
theorem LJ {place:Nat→Option (Nat×Nat)}:∀ {ps:List (Nat×AV)}{xs:List (Nat×Value)}{qs:List (Nat×Nat×AV)}{cs:List AV}{arr:Array Value}{l:List AV},
  vC place ps=some qs→ps.map (·.1)=xs.map (·.1)→RepL G (ps.map (·.2)) (xs.map (·.2))→RepL G cs arr.toList→Ax cs qs=some l→
  ∃ arr':Array Value,Instr.fill place arr xs=some arr'∧RepL G l arr'.toList
 | [],xs,qs,cs,arr,l,hp,hk,hr,hc,e=>by
   have:xs=[]:=by simpa using hk.symm
   subst this
   simp only[vC,Option.some.injEq]at hp
   subst hp
   simp only[Ax,Option.some.injEq]at e
   subst e
   exact⟨arr,by simp[Instr.fill],hc⟩
 | (i,v)::ps,[],qs,cs,arr,l,hp,hk,hr,hc,e=>by simp at hk
 | (i,v)::ps,(i',x)::xs,qs,cs,arr,l,hp,hk,hr,hc,e=>by
   simp only[List.map_cons,List.cons.injEq]at hk
   obtain⟨rfl,hk⟩:=hk
   simp only[List.map_cons,RepL]at hr
   obtain⟨x',xs',hx,hr1,hr2⟩:=hr
   simp only[List.cons.injEq]at hx
   obtain⟨rfl,rfl⟩:=hx
   simp only[vC]at hp
   split at hp
   ·rename_i off n qs' h1 h2
    cases hp
    simp only[Ax]at e
    split at e
    ·rename_i hcond
     simp only[Bool.and_eq_true,Bool.not_eq_true',beq_iff_eq,decide_eq_true_eq]at hcond
     obtain⟨ht,hn,hle⟩:=hcond
     have hv:=hr1.cells ht
     have hlen:x.cells.size=n:=by have:=hv.length;simp at this;omega
     have hcl:arr.size=cs.length:=by have:=hc.length;simpa using this
     have key:=tE off x.cells.toList 0 arr (by simp;omega)
     have:=LJ (place:=place) (arr:=x.cells.zipIdx.foldl (fun cs (c,j)=>cs.setIfInBounds (off+j) c) arr) h2 hk hr2 (by
      have e1:(x.cells.zipIdx.foldl (fun (cs:Array Value) (x:Value×Nat)=>cs.setIfInBounds (off+x.2) x.1) arr).toList=splice arr.toList off x.cells.toList:=by
       rw[← Array.foldl_toList]
       have:x.cells.zipIdx.toList=x.cells.toList.zipIdx 0:=by simp
       rw[this]
       simpa using key
      exact (by rw[e1];exact hc.splice hv:RepL G (splice cs off v.cells) (x.cells.zipIdx.foldl (fun (cs:Array Value) (x:Value×Nat)=>cs.setIfInBounds (off+x.2) x.1) arr).toList)) e
     obtain⟨arr',h3,h4⟩:=this
     refine⟨arr',?_,h4⟩
     simp only[Instr.fill,h1]
     rw[if_neg (by simp;omega)]
     exact h3
    ·cases e
   ·cases hp
def mj (zs:List AV) (ps:List (Nat×Nat×AV)) (K:AV→Prop):Prop:=match Ax zs ps with|some cs=>K (.agg cs)|none=>False
def g8 (P:Program):List Field→Option (List (Nat×Nat))
 | []=>some []
 | f::fs=>match P.info? f.type,g8 P fs with
   | some i,some l=>some ((f.offset,i.size)::l)
   | _,_=>none
theorem rF:∀ {fs:List Field}{l:List (Nat×Nat)},g8 P fs=some l→(fs.mapM fun f=>(do pure (f.offset,← sizeOf f.type):Sem (Nat×Nat))).run P w=.ok l w
 | [],l,e=>by simp only[g8,Option.some.injEq]at e;subst e;simp
 | f::fs,l,e=>by
   simp only[g8]at e
   split at e
   ·rename_i i l' h1 h2
    cases e
    have ih:=rF h2
    simp only[List.mapM_cons,Sem.run_bind]
    have hs:(sizeOf f.type).run P w=.ok i.size w:=by simp[sizeOf,typeInfo,h1]
    simp only[bind_pure_comp]at ih
    simp only[bind_pure_comp,Sem.run_map,Sem.run_bind,hs,Result.andThen_ok,Sem.run_pure,ih]
   ·cases e
theorem NL {t:TypeId}{fs:Array Field}{i:TypeInfo}{z:Value}{l:List (Nat×Nat)}{ps:List (Nat×AV)}{qs:List (Nat×Nat×AV)}{xs:Array (Nat×Value)}{K:AV→Prop}(ht:P.underlying t=some (.struct fs)) (hi:P.info? t=some i)
  (hz:i.zero=some z) (hzo:okV z=true) (hl:g8 P fs.toList=some l) (hp:vC (fun j=>l[j]?) ps=some qs) (hk:ps.map (·.1)=xs.toList.map (·.1)) (hr:RepL G (ps.map (·.2)) (xs.toList.map (·.2)))
  (k:mj (ofV z).cells qs K):Yl P G w (Instr.build t xs) K:=by
 unfold mj at k
 split at k
 ·rename_i cs hcs
  have hzc:RepL G (ofV z).cells z.cells.toList:=(oB G z hzo).cells (by
   unfold ofV Bm;split<;>(try split)<;>rfl)
  obtain⟨arr',h1,h2⟩:=LJ hp hk hr hzc hcs
  refine⟨_,.agg arr',?_,by simp only[Rep];exact⟨arr'.toList,by simp,h2⟩,k⟩
  have hf:=rF (w:=w) hl
  have hm:(fs.mapM fun f=>(do pure (f.offset,← sizeOf f.type):Sem (Nat×Nat))).run P w=.ok l.toArray w:=by
   rw[Array.mapM_eq_mapM_toList]
   simp only[Sem.run_map,hf,Result.andThen_ok]
  have h1':Instr.fill (fun (x:Nat)=>l.toArray[x]?) z.cells xs.toList=some arr':=by
   have:(fun (x:Nat)=>l.toArray[x]?)=(fun (x:Nat)=>l[x]?):=by funext x;simp
   rw[this];exact h1
  simp only[Instr.build,Sem.run_bind,zeroValue,typeInfo,run_program,Result.andThen_ok,hi,hz,Sem.run_pure,run_underlying ht,hm,h1']
 ·exact k.elim
end
end
section
variable [Tabs]
section
variable {P:Program}{G:Gh}{h:ab}{w:World}
def Gh.freeze (G:Gh) (b:Nat) (vs:List Value):Gh:={ G with F:=fun c o=>if c=b then vs[o]? else G.F c o }
theorem JP (s:Sim G h w) (vs:Array Value) (t:TypeId):
  Sim (G.freeze w.heap.size vs.toList) h (w.alloc (.cells vs t))∧Evo G h w (G.freeze w.heap.size vs.toList) h (w.alloc (.cells vs t)):=by
 have hF:∀ o,G.F w.heap.size o=none:=fun o=>by
  cases e:G.F w.heap.size o with
  | none=>rfl
  | some v=>have:=ud s e;omega
 have le:G.le (G.freeze w.heap.size vs.toList):=⟨fun _ _ e=>e,fun _ _ _=>rfl,fun b o v e=>by
  simp only[Gh.freeze]
  split
  ·rename_i hb;subst hb;rw[hF]at e;cases e
  ·exact e⟩
 have hold:∀ b,b<w.heap.size→(w.alloc (.cells vs t)).heap[b]?=w.heap[b]?:=fun b hb=>by
  show (w.heap.push _)[b]?=_
  rw[Array.getElem?_push,if_neg (by omega)]
 refine⟨⟨fun i o hi=>(s.obj i o hi).keep le fun p hp hl=>hold _ (s.loc_lt hi hl hp),s.dom,s.apart,?_,?_,Tabs.mono le.F s.tab⟩,⟨le,by simp,rfl,rfl,rfl,fun b hb _=>hold b hb,fun b hb=>.inl hb,fun b o v e=>by
  simp only[Gh.freeze]at e
  split at e
  ·rename_i hb;subst hb;exact .inr (.inr (Nat.le_refl _))
  ·exact .inl e⟩⟩
 ·intro b o v e
  simp only[Gh.freeze]at e
  split at e
  ·rename_i hb
   subst hb
   rw[World.cell?_alloc_new]
   simpa using e
  ·rw[World.cell?_alloc_lt w _ _ (ud s e)]
   exact s.frz b o v e
 ·intro i o p hi hl hp off
  simp only[Gh.freeze]
  have:=s.loc_lt hi hl hp
  rw[if_neg (by omega)]
  exact s.sep i o p hi hl hp off
theorem EV (le:G.le (G.freeze w.heap.size vs)) {cs:List AV}(r:RepL G cs vs):RepAt (G.freeze w.heap.size vs) cs w.heap.size 0:=
 jQ fun j a e=>by
  obtain⟨v,h1,h2⟩:=r.at j a e
  exact⟨v,by simp[Gh.freeze,h1],Rep.mono le a v h2⟩
def PO (cs:List AV) (h:ab) (K:QT):Prop:=K (.ptr h.length 0) (h++[.cells cs])
theorem LC (s:Sim G h w) {cs:List AV}{vs:Array Value}{t:TypeId}(r:RepL G cs vs.toList) {K:QT}(k:PO cs h K):
  ∃ r' h' G',Rep G' r' (.pointer (some ⟨w.heap.size,0,none⟩))∧K r' h'∧Sim G' h' (w.alloc (.cells vs t))∧Evo G h w G' h' (w.alloc (.cells vs t)):=by
 have hl:=r.length
 have le:=Gh.le_add s.fresh (w.heap.size,0) vs.size
 have x:ObjAt (G.add h.length (w.heap.size,0) vs.size) (w.alloc (.cells vs t)) h.length (.cells cs):=by
  refine⟨w.heap.size,0,vs,t,0,0,by simp[Gh.add],?_,by omega,?_,?_,?_⟩
  ·show (w.heap.push _)[w.heap.size]?=_
   simp
  ·simp[Gh.add];simp at hl;omega
  ·simp[Gh.add]
  ·intro j a e
   obtain⟨v,h1,h2⟩:=r.at j a e
   exact⟨v,by simpa using h1,Rep.mono le a v h2⟩
 obtain⟨s',ev⟩:=lO s (.cells vs t) (.cells cs) vs.size x
 exact⟨_,_,_,by simp only[Rep];exact⟨w.heap.size,0,by simp[Gh.add],rfl⟩,k,s',ev⟩
def fQ (n size:Nat) (vs:List AV) (K:AV→Prop):Prop:=(vs.length=n∧(vs.all fun v=>!v.isTup&&v.cells.length==size)=true)∧K (.full n (vs.flatMap (·.cells)))
theorem sC (size:Nat):∀ {vs:List AV}{xs:List Value},RepL G vs xs→(vs.all fun v=>!v.isTup&&v.cells.length==size)=true→RepL G (vs.flatMap (·.cells)) (xs.flatMap fun x=>x.cells.toList)∧(vs.flatMap (·.cells)).length=vs.length*size
 | [],xs,r,_=>by simp only[RepL]at r;subst r;simp[RepL]
 | v::vs,xs,r,ha=>by
   simp only[RepL]at r
   obtain⟨x,xs',rfl,r1,r2⟩:=r
   simp only[List.all_cons,Bool.and_eq_true,Bool.not_eq_true',beq_iff_eq]at ha
   obtain⟨h1,h2⟩:=sC size r2 ha.2
   simp only[List.flatMap_cons,List.length_append,List.length_cons,Nat.succ_mul]
   exact⟨(r1.cells ha.1.1).append h1,by omega⟩
theorem Ik (size:Nat):∀ (vs:List AV) (xs:List Value) (k:Nat) (arr:Array Value),RepL G vs xs→(vs.all fun v=>!v.isTup&&v.cells.length==size)=true→(k+vs.length)*size≤arr.size→
  ∃ arr':Array Value,Instr.fill (fun i=>some (i*size,size)) arr ((xs.zipIdx k).map fun p=>(p.2,p.1))=some arr'∧arr'.toList=splice arr.toList (k*size) (xs.flatMap fun x=>x.cells.toList)
 | [],xs,k,arr,r,ha,hl=>by
   simp only[RepL]at r
   subst r
   exact⟨arr,by simp[Instr.fill],by simp[splice]⟩
 | v::vs,xs,k,arr,r,ha,hl=>by
   simp only[RepL]at r
   obtain⟨x,xs',rfl,r1,r2⟩:=r
   simp only[List.all_cons,Bool.and_eq_true,Bool.not_eq_true',beq_iff_eq]at ha
   obtain⟨⟨ht,hn⟩,ha⟩:=ha
   have hc:=r1.cells ht
   have hsz:x.cells.size=size:=by have:=hc.length;simp at this;omega
   have hmul:(k+(v::vs).length)*size=k*size+size+vs.length*size:=by
    simp only[List.length_cons]
    rw[Nat.add_mul,Nat.succ_mul];omega
   have key:=tE (k*size) x.cells.toList 0 arr (by simp;omega)
   have e1:(x.cells.zipIdx.foldl (fun (cs:Array Value) (x:Value×Nat)=>cs.setIfInBounds (k*size+x.2) x.1) arr).toList=splice arr.toList (k*size) x.cells.toList:=by
    rw[← Array.foldl_toList]
    have:x.cells.zipIdx.toList=x.cells.toList.zipIdx 0:=by simp
    rw[this]
    simpa using key
   have hsz2:(x.cells.zipIdx.foldl (fun (cs:Array Value) (x:Value×Nat)=>cs.setIfInBounds (k*size+x.2) x.1) arr).size=arr.size:=by
    have:=congrArg List.length e1
    rw[fe (by simp;omega)]at this
    simpa using this
   obtain⟨arr',h1,h2⟩:=Ik size vs xs' (k+1) (x.cells.zipIdx.foldl (fun (cs:Array Value) (x:Value×Nat)=>cs.setIfInBounds (k*size+x.2) x.1) arr) r2 ha (by rw[hsz2,Nat.add_mul,Nat.succ_mul];omega)
   refine⟨arr',?_,?_⟩
   ·simp only[List.zipIdx_cons,List.map_cons,Instr.fill]
    rw[if_neg (by simp;omega)]
    exact h1
   ·rw[h2,e1]
    have hf:(xs'.flatMap fun x=>x.cells.toList).length=vs.length*size:=by
     obtain⟨q1,q2⟩:=sC (G:=G) size r2 ha
     rw[q1.length,q2]
    apply List.ext_getElem?
    intro j
    have hx:x.cells.toList.length=size:=by simpa using hsz
    have hle:k*size+(x.cells.toList++xs'.flatMap fun x=>x.cells.toList).length≤arr.toList.length:=by simp[hf,hx];simp at hx;omega
    have hle1:k*size+x.cells.toList.length≤arr.toList.length:=by simp at hle ⊢;omega
    rw[c5 (by rw[fe hle1];simp[hf,Nat.add_mul];simp at hle;omega),List.flatMap_cons,c5 hle]
    rw[c5 hle1]
    simp only[List.length_append,hf,hx,Nat.add_mul,Nat.one_mul]
    by_cases c1:j<k*size
    ·rw[if_pos (by omega),if_pos c1,if_pos c1]
    ·rw[if_neg c1,if_neg c1]
     by_cases c2:j<k*size+size
     ·rw[if_pos c2,if_pos c2,if_pos (by omega),List.getElem?_append_left (by omega)]
     ·rw[if_neg c2,if_neg c2]
      by_cases c3:j<k*size+size+vs.length*size
      ·rw[if_pos c3,if_pos (by omega),List.getElem?_append_right (by omega),hx]
       congr 1
       omega
      ·rw[if_neg c3,if_neg (by omega)]
theorem Bt (s:Sim G h w) {t e:TypeId}{i:TypeInfo}{z:Value}{n:Nat}{vs:List AV}{xs:List Value}{ps:Array (Nat×Value)}{K:AV→Prop}(ht:P.underlying t=some (.slice e)) (hi:P.info? e=some i)
  (hz:i.zero=some z) (hp:ps.toList=xs.zipIdx.map fun p=>(p.2,p.1)) (hr:RepL G vs xs) (hn:n*i.size≤2^24) (k:fQ n i.size vs K):
  Ye P G h w (Instr.buildSlice t n ps) fun r h'=>K r∧h'=h:=by
 obtain⟨⟨rfl,ha⟩,k⟩:=k
 let zs:Array Value:=if vs.length*i.size=0 then #[] else z.cells
 obtain⟨arr',h1,h2⟩:=Ik i.size vs xs 0 ((Array.range (vs.length*i.size)).map (zs[·%zs.size]!)) hr ha (by simp)
 obtain⟨hf1,hf2⟩:=sC i.size hr ha
 have harr:arr'.toList=xs.flatMap fun x=>x.cells.toList:=by
  rw[h2]
  have:(xs.flatMap fun x=>x.cells.toList).length=vs.length*i.size:=by rw[hf1.length,hf2]
  simp[splice,this]
 obtain⟨s',ev⟩:=JP s arr' e
 refine⟨_,.slice (some ⟨w.heap.size,0,none⟩) vs.length vs.length,h,_,w.alloc (.cells arr' e),?_,?_,⟨k,rfl⟩,s',ev⟩
 ·simp only[Instr.buildSlice,Sem.run_bind,run_underlying ht,Result.andThen_ok,sizeOf,typeInfo,run_program,hi,Sem.run_pure]
  rw[if_neg (by omega)]
  rw[← hp]at h1
  by_cases h0:vs.length*i.size=0
  ·rw[if_pos h0]
   simp only[zs,if_pos h0]at h1
   simp only[Sem.run_bind,Sem.run_pure,Result.andThen_ok,h1,newRow,run_newObj]
   rfl
  ·rw[if_neg h0]
   simp only[zs,if_neg h0]at h1
   simp only[Sem.run_bind,Sem.run_pure,Result.andThen_ok,zeroValue,typeInfo,run_program,hi,hz,h1,newRow,run_newObj]
   rfl
 ·simp only[Rep]
  exact .inr ⟨w.heap.size,0,rfl,EV ev.le (by rw[harr];exact hf1)⟩
end
end
section
variable [Tabs]
section
variable {P:Program}{G:Gh}{h:ab}{w:World}
theorem CL (w:World) (b:Nat) (x y:Obj):dg (dg w b x) b y=dg w b y:=by
 unfold dg
 simp[Array.setIfInBounds_setIfInBounds]
theorem nY (w:World) (b:Nat) (x:Obj) (h:w.heap[b]?=some x):dg w b x=w:=by
 unfold dg
 have:w.heap.setIfInBounds b x=w.heap:=by
  apply Array.ext_getElem?
  intro i
  rw[Array.getElem?_setIfInBounds]
  split
  ·rename_i hb
   subst hb
   split
   ·exact h.symm
   ·rename_i hn;rw[Array.getElem?_eq_none (by omega)]at h;cases h
  ·rfl
 rw[this]
theorem No (w:World) (b o:Nat) (arr:Array Value) (el:TypeId) (lo hi:Nat) (v:Value) (hb:w.heap[b]?=some (.cells arr el (lo,hi))) (hf:∀ k,k<arr.size→¬(lo≤k∧k<hi)) (ho:o<arr.size) (h1:v.oneCell'=true):
  (store ⟨b,o,none⟩ v).run P w=.ok () (dg w b (.cells (arr.setIfInBounds o v) el (lo,hi))):=by
 have hc:w.cell? ⟨b,o,none⟩=some arr[o]:=by simp[World.cell?,hb,ho]
 have hz:w.frozen? ⟨b,o,none⟩=false:=by
  have:=hf o ho
  simp only[World.frozen?,hb]
  simp only[Bool.and_eq_false_iff,decide_eq_false_iff_not]
  omega
 rw[run_store P w _ v _ h1,hc]
 simp only[hz,Bool.false_eq_true,if_false]
 congr 1
 unfold World.setCell dg
 congr 1
 apply Array.ext_getElem?
 intro i
 simp only[Array.getElem?_modify,Array.getElem?_setIfInBounds]
 have hbl:b<w.heap.size:=(Array.getElem?_eq_some_iff.1 hb).1
 by_cases hi':b=i
 ·subst hi'
  rw[hb]
  simp[hbl]
 ·simp[hi']
theorem qu (b o:Nat) (el:TypeId) (lo hi:Nat):∀ (vs:List Value) (i:Nat) (arr:Array Value) (w:World),w.heap[b]?=some (.cells arr el (lo,hi))→(∀ k,k<arr.size→¬(lo≤k∧k<hi))→o+i+vs.length≤arr.size→(∀ v∈vs,v.oneCell'=true)→
  ∃ arr':Array Value,(storeCells ⟨b,o,none⟩ vs i).run P w=.ok () (dg w b (.cells arr' el (lo,hi)))∧arr'.toList=splice arr.toList (o+i) vs
 | [],i,arr,w,hb,hf,hl,h1=>⟨arr,by simp[storeCells,nY w b _ hb],by simp[splice]⟩
 | v::vs,i,arr,w,hb,hf,hl,h1=>by
   simp only[List.length_cons]at hl
   have hs:=No (P:=P) w b (o+i) arr el lo hi v hb hf (by omega) (h1 v (by simp))
   have hbl:b<w.heap.size:=(Array.getElem?_eq_some_iff.1 hb).1
   obtain⟨arr',h2,h3⟩:=qu b o el lo hi vs (i+1) (arr.setIfInBounds (o+i) v) (dg w b (.cells (arr.setIfInBounds (o+i) v) el (lo,hi))) (kR w b _ hbl) (by simpa using hf) (by simp;omega) (fun x hx=>h1 x (by simp[hx]))
   refine⟨arr',?_,?_⟩
   ·simp only[storeCells,Sem.run_bind,dW,hs,Result.andThen_ok,h2,CL]
   ·rw[h3]
    apply List.ext_getElem?
    intro j
    rw[c5 (by simp;omega),c5 (by simp;omega)]
    simp only[Array.toList_setIfInBounds,List.getElem?_set,List.length_cons,Array.length_toList]
    by_cases c1:j<o+i
    ·rw[if_pos (by omega),if_pos c1,if_neg (by omega)]
    ·rw[if_neg c1]
     by_cases c2:j=o+i
     ·subst c2
      rw[if_pos (by omega),if_pos rfl,if_pos (by omega),if_pos (by omega)]
      simp
     ·rw[if_neg (by omega),if_neg (show ¬ o+i=j by omega)]
      by_cases c3:j<o+i+(vs.length+1)
      ·rw[if_pos (by omega),if_pos c3]
       rw[show j-(o+i)=(j-(o+(i+1)))+1 by omega,List.getElem?_cons_succ]
      ·rw[if_neg (by omega),if_neg c3]
theorem zL {vs:List Value}:∀ {az:List AV},RepL G az vs→az.all AV.one=true→∀ v∈vs,v.oneCell'=true
 | [],r,_=>by simp only[RepL]at r;subst r;simp
 | a::az,r,ha=>by
   simp only[RepL]at r
   obtain⟨x,xs,rfl,r1,r2⟩:=r
   simp only[List.all_cons,Bool.and_eq_true]at ha
   intro v hv
   simp only[List.mem_cons]at hv
   rcases hv with rfl|hv
   ·exact r1.one ha.1
   ·exact zL r2 ha.2 v hv
def qU (n:Nat) (v u:AV) (h:ab) (K:ab→Prop):Prop:=
 match v with
 | .ptr i o=>(match h[i]? with
   | some (.cells cs)=>(u.isTup=false∧u.cells.length=n∧u.cells.all AV.one=true∧o+n≤cs.length)∧K (h.set i (.cells (splice cs o u.cells)))
   | _=>False)
 | _=>False
theorem oh (s:Sim G h w) {i:Nat}{cs:List AV}(hi:h[i]?=some (.cells cs)):∃ b o arr el lo hi',G.loc i=some (b,o)∧w.heap[b]?=some (.cells arr el (lo,hi'))∧(∀ k,k<arr.size→¬(lo≤k∧k<hi'))∧
   cs.length≤G.cap i∧o+G.cap i≤arr.size∧∀ (j:Nat) (a:AV),cs[j]?=some a→∃ v,arr[o+j]?=some v∧Rep G a v:=s.obj i _ hi
theorem NN (s:Sim G h w) {t:TypeId}{i:TypeInfo}(hi:P.info? t=some i) {v u:AV}{x y:Value}{K:ab→Prop}(hx:Rep G v x) (hy:Rep G u y) (k:qU i.size v u h K):
  ∃ h' G' w',(Instr.storeAt t x y).run P w=.ok () w'∧K h'∧Sim G' h' w'∧Evo G h w G' h' w':=by
 unfold qU at k
 split at k
 ·rename_i j off
  split at k
  ·rename_i cs hcs
   obtain⟨⟨ht,hn,ho,hle⟩,k⟩:=k
   simp only[Rep]at hx
   obtain⟨b,o,h1,rfl⟩:=hx
   obtain⟨b',o',arr,el,lo,hi',e1,e2,e3,e4,e5,e6⟩:=oh s hcs
   rw[h1]at e1
   cases e1
   have hc:=hy.cells ht
   have hlen:y.cells.size=i.size:=by have:=hc.length;simp at this;omega
   have hlen':y.cells.toList.length=i.size:=by simpa using hlen
   obtain⟨arr',h2,h3⟩:=qu (P:=P) b (o+off) el lo hi' y.cells.toList 0 arr w e2 e3 (by omega) (zL hc ho)
   have hsz:arr'.size=arr.size:=by
    have:=congrArg List.length h3
    rw[fe (by simp;omega)]at this
    simpa using this
   have x:ObjAt G (dg w b (.cells arr' el (lo,hi'))) j (.cells (splice cs off u.cells)):=by
    refine⟨b,o,arr',el,lo,hi',h1,kR w b _ (Array.getElem?_eq_some_iff.1 e2).1,by rw[hsz];exact e3,by rw[fe (by omega)];exact e4,by rw[hsz];exact e5,?_⟩
    intro q a ha
    rw[c5 (by omega)]at ha
    have hget:arr'[o+q]?=arr'.toList[o+q]?:=by simp
    rw[hget,h3,c5 (by simp;omega)]
    by_cases c1:q<off
    ·rw[if_pos c1]at ha
     rw[if_pos (by omega)]
     simpa using e6 q a ha
    ·rw[if_neg c1]at ha
     rw[if_neg (by omega)]
     by_cases c2:q<off+u.cells.length
     ·rw[if_pos c2]at ha
      rw[if_pos (by omega)]
      obtain⟨v,h4,h5⟩:=hc.at _ a ha
      exact⟨v,by rw[← h4];congr 1;omega,h5⟩
     ·rw[if_neg c2]at ha
      rw[if_neg (by omega)]
      simpa using e6 q a ha
   obtain⟨s',ev⟩:=tK s hcs rfl h1 rfl x
   refine⟨_,_,_,?_,k,s',ev⟩
   simp only[Instr.storeAt,Instr.sureAddr,Sem.run_bind,Sem.run_pure,Result.andThen_ok,storeVar,sizeOf,typeInfo,run_program,hi]
   rw[if_neg (by simp;omega)]
   exact h2
  ·exact k.elim
 ·exact k.elim
def da (h:ab) (size:Nat):AV→Option (Nat×List AV)
 | .snap n cs=>if cs.length=n*size then some (n,cs) else none
 | .full n cs=>if cs.length=n*size then some (n,cs) else none
 | .sl i off len sz=>match h[i]? with
   | some (.cells cs)=>if sz=size∧off+len*size≤cs.length then some (len,(cs.drop off).take (len*size)) else none
   | _=>none
 | .lit (.string s)=>if size=1 then some (s.size,s.data.toList.map fun b=>.lit (.int .u8 b.toNat)) else none
 | _=>none
theorem vw (G:Gh):∀ l:List UInt8,RepL G (l.map fun b=>.lit (.int .u8 b.toNat)) (l.map fun b=>Value.int .u8 b.toNat)
 | []=>by simp[RepL]
 | b::l=>by simp only[List.map_cons,RepL];exact⟨_,_,rfl,by simp[Rep,Value.oneCell'],vw G l⟩
theorem qW (s:Sim G h w) {b o n:Nat}{cs:List AV}(r:RepAt G cs b o) (hn:cs.length=n):∃ vs:List Value,vs.length=n∧RepL G cs vs∧∀ j u,vs[j]?=some u→w.cell? ⟨b,o+j,none⟩=some u:=by
 refine⟨(List.range n).map fun j=>(G.F b (o+j)).getD undef,by simp,?_,?_⟩
 ·refine g6 (by simp;omega) fun j a ha=>?_
  obtain⟨u,h2,h3⟩:=r.at j a ha
  have:j<n:=by have:=(List.getElem?_eq_some_iff.1 ha).1;omega
  exact⟨u,by simp[this,h2],h3⟩
 ·intro j u hu
  by_cases hj:j<n
  ·obtain⟨u',h2,_⟩:=r.at j cs[j] (by simp)
   simp[hj,h2]at hu
   subst hu
   exact s.frz b (o+j) _ h2
  ·simp[hj]at hu
theorem lg (s:Sim G h w) {size:Nat}{v:AV}{x:Value}(hx:Rep G v x) {m:Nat}{xs:List AV}(e:da h size v=some (m,xs)):
  ∃ vs:List Value,vs.length=m*size∧RepL G xs vs∧(Builtin.lenOf x).run P w=.ok m w∧(Builtin.firstCells size m x).run P w=.ok vs.toArray w:=by
 have row:∀ (b o c:Nat) (vs:List Value),vs.length=m*size→(∀ j u,vs[j]?=some u→w.cell? ⟨b,o+j,none⟩=some u)→
   (Builtin.firstCells size m (.slice (some ⟨b,o,none⟩) m c)).run P w=.ok vs.toArray w:=fun b o c vs hl hv=>by
  have:=run_loadCells_list (P:=P) w ⟨b,o,none⟩ vs (fun j v hj=>by rw[dW];exact hv j v hj)
  rw[hl]at this
  simpa [Builtin.firstCells] using this
 unfold da at e
 split at e
 ·rename_i n cs
  split at e
  ·rename_i hl
   cases e
   simp only[Rep]at hx
   rcases hx with ⟨rfl,rfl,za,rfl⟩|⟨b,o,c,h1,rfl,h2⟩
   ·exact⟨[],by simp,by simp[RepL],by cases za<;>simp[Builtin.lenOf],by cases za<;>simp[Builtin.firstCells,loadCells,loadCellsFrom]⟩
   ·obtain⟨vs,h3,h4,h5⟩:=qW s h2 hl
    exact⟨vs,h3,h4,by simp[Builtin.lenOf],row _ _ _ _ h3 h5⟩
  ·cases e
 ·rename_i n cs
  split at e
  ·rename_i hl
   cases e
   simp only[Rep]at hx
   rcases hx with ⟨rfl,rfl,za,rfl⟩|⟨b,o,rfl,h2⟩
   ·exact⟨[],by simp,by simp[RepL],by cases za<;>simp[Builtin.lenOf],by cases za<;>simp[Builtin.firstCells,loadCells,loadCellsFrom]⟩
   ·obtain⟨vs,h3,h4,h5⟩:=qW s h2 hl
    exact⟨vs,h3,h4,by simp[Builtin.lenOf],row _ _ _ _ h3 h5⟩
  ·cases e
 ·rename_i i off len sz
  split at e
  ·rename_i cs hcs
   split at e
   ·rename_i hc
    obtain⟨rfl,hle⟩:=hc
    cases e
    simp only[Rep]at hx
    obtain⟨b,o,c,ad,h1,h2,h3,h4,rfl⟩:=hx
    obtain⟨b',o',arr,el,lo,hi',e1,e2,e3,e4,e5,e6⟩:=oh s hcs
    rw[h1]at e1
    cases e1
    rcases Nat.eq_zero_or_pos c with hc0|hc0
    ·have:m=0:=by omega
     subst this
     refine⟨[],by simp,by simp[RepL],by simp[Builtin.lenOf],?_⟩
     have:=row b ad c [] (by simp) (by simp)
     simpa using this
    ·obtain rfl:=h4 hc0
     have hsz:off+m*sz≤G.cap i:=by omega
     refine⟨(arr.toList.drop (o+off)).take (m*sz),by simp;omega,?_,by simp[Builtin.lenOf],row _ _ _ _ (by simp;omega) ?_⟩
     ·refine g6 (by simp;omega) fun j a ha=>?_
      rw[List.getElem?_take]at ha ⊢
      split at ha
      ·rename_i hj
       rw[if_pos hj]
       rw[List.getElem?_drop]at ha ⊢
       obtain⟨v,h5,h6⟩:=e6 (off+j) a ha
       exact⟨v,by rw[Array.getElem?_toList,← h5];congr 1;omega,h6⟩
      ·cases ha
     ·intro j u hu
      rw[List.getElem?_take]at hu
      split at hu
      ·rw[List.getElem?_drop,Array.getElem?_toList]at hu
       simp[World.cell?,e2,hu]
      ·cases hu
   ·cases e
  ·cases e
 ·rename_i s'
  split at e
  ·rename_i h1
   subst h1
   cases e
   simp only[Rep]at hx
   obtain⟨rfl,_⟩:=hx
   refine⟨s'.data.toList.map fun b=>Value.int .u8 b.toNat,by simp,vw G _,by simp[Builtin.lenOf],?_⟩
   have:(s'.extract 0 s'.size)=s':=by
    apply ByteArray.ext
    simp
   simp only[Builtin.firstCells,this,Sem.run_pure]
   congr 1
   apply Array.toList_inj.1
   simp
  ·cases e
 ·cases e
