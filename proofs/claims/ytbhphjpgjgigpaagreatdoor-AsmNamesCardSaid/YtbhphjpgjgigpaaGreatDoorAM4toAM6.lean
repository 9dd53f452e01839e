import Derived.Test.YtbhphjpgjgigpaaGreatDoorAM1toAM3
import Derived.Test.YtbhphjpgjgigpaaGreatDoorAL24toAL26
import Derived.ScopeJumps
set_option linter.all false
set_option autoImplicit true
set_option relaxedAutoImplicit true
set_option maxRecDepth 100000
namespace Go.Proofs.YtbhphjpgjgigpaaGreatDoor.AL
noncomputable section
section
variable [Tabs]
section
variable {P:Program}{G G':Gh}{h:ab}{w:World}
mutual
def cl:AV→Bool
 | .lit _=>true
 | .ptr _ _=>false
 | .cptr l=>clL l
 | .sl _ _ _ _=>false
 | .snap _ l=>clL l
 | .full _ l=>clL l
 | .map _=>false
 | .fn _ a b=>clL a&&clL b
 | .iface _ v=>cl v
 | .agg l=>clL l
 | .tup l=>clL l
 | .sym _=>true
def clL:List AV→Bool
 | []=>true
 | a::az=>cl a&&clL az
end
mutual
theorem Rep.cl (le:∀ b o v,G.F b o=some v→G'.F b o=some v):∀ (a:AV) (x:Value),AL.cl a=true→Rep G a x→Rep G' a x
 | .lit v,x,_,h=>by simpa [Rep] using h
 | .ptr j off,x,hc,h=>by simp[AL.cl]at hc
 | .cptr l,x,hc,h=>by
   simp only[Rep,AL.cl]at h hc ⊢
   obtain⟨b,o,h1,h2⟩:=h
   exact⟨b,o,h1,RepAt.cl le l b o hc h2⟩
 | .sl _ _ _ _,x,hc,h=>by simp[AL.cl]at hc
 | .snap n l,x,hc,h=>by
   simp only[Rep,AL.cl]at h hc ⊢
   rcases h with h|⟨b,o,c,h1,h2,h3⟩
   ·exact .inl h
   ·exact .inr ⟨b,o,c,h1,h2,RepAt.cl le l b o hc h3⟩
 | .full n l,x,hc,h=>by
   simp only[Rep,AL.cl]at h hc ⊢
   rcases h with h|⟨b,o,h2,h3⟩
   ·exact .inl h
   ·exact .inr ⟨b,o,h2,RepAt.cl le l b o hc h3⟩
 | .map j,x,hc,h=>by simp[AL.cl]at hc
 | .fn f fi ca,x,hc,h=>by
   simp only[Rep,AL.cl,Bool.and_eq_true]at h hc ⊢
   obtain⟨vs,ws,h1,h2,h3⟩:=h
   exact⟨vs,ws,h1,RepL.cl le fi vs hc.1 h2,RepL.cl le ca ws hc.2 h3⟩
 | .iface t v,x,hc,h=>by
   simp only[Rep,AL.cl]at h hc ⊢
   obtain⟨y,h1,h2⟩:=h
   exact⟨y,h1,Rep.cl le v y hc h2⟩
 | .agg l,x,hc,h=>by
   simp only[Rep,AL.cl]at h hc ⊢
   obtain⟨vs,h1,h2⟩:=h
   exact⟨vs,h1,RepL.cl le l vs hc h2⟩
 | .tup l,x,hc,h=>by
   simp only[Rep,AL.cl]at h hc ⊢
   obtain⟨vs,h1,h2⟩:=h
   exact⟨vs,h1,RepL.cl le l vs hc h2⟩
 | .sym j,x,_,h=>by simpa [Rep] using h
theorem RepL.cl (le:∀ b o v,G.F b o=some v→G'.F b o=some v):∀ (az:List AV) (vs:List Value),clL az=true→RepL G az vs→RepL G' az vs
 | [],vs,_,h=>by simpa [RepL] using h
 | a::az,vs,hc,h=>by
   simp only[RepL,clL,Bool.and_eq_true]at h hc ⊢
   obtain⟨v,ws,h1,h2,h3⟩:=h
   exact⟨v,ws,h1,Rep.cl le a v hc.1 h2,RepL.cl le az ws hc.2 h3⟩
theorem RepAt.cl (le:∀ b o v,G.F b o=some v→G'.F b o=some v):∀ (az:List AV) (b o:Nat),clL az=true→RepAt G az b o→RepAt G' az b o
 | [],b,o,_,_=>by simp[RepAt]
 | a::az,b,o,hc,h=>by
   simp only[RepAt,clL,Bool.and_eq_true]at h hc ⊢
   obtain⟨⟨v,h1,h2⟩,h3⟩:=h
   exact⟨⟨v,le _ _ _ h1,Rep.cl le a v hc.1 h2⟩,RepAt.cl le az b (o+1) hc.2 h3⟩
end
theorem ACall.frame {f:FuncId}{args:List AV}{K:AV→Prop}(hc:clL args=true) (c:ACall P f args [] fun r _=>cl r=true∧K r) {Q:QT}(k:∀ r,K r→Q r h):ACall P f args h Q:=by
 refine⟨c.1,fun G w vs s hr=>?_⟩
 have s0:Sim { loc:=fun _=>none,cap:=fun _=>0,F:=G.F } [] w:={ obj:=(fun i o e=>by simp at e),dom:=(fun i p e=>by cases e),apart:=(fun i j oi oj p q e=>by simp at e),frz:=s.frz,sep:=(fun i o p e=>by simp at e),tab:=s.tab }
 have hr0:RepL { loc:=fun _=>none,cap:=fun _=>0,F:=G.F } args vs:=RepL.cl (G:=G) (G':={ loc:=fun _=>none,cap:=fun _=>0,F:=G.F }) (fun _ _ _ h=>h) args vs hc hr
 refine (c.2 _ w vs s0 hr0).mono fun e w1 ⟨r,v,h1,G1,he,hrep,⟨hcl,hk⟩,s1,ev⟩=>?_
 have no:∀ b,¬ DV { loc:=fun _=>none,cap:=fun _=>0,F:=G.F } [] b:=fun b ⟨i,o,p,e,_⟩=>by simp at e
 have leF:∀ b o v,G.F b o=some v→G1.F b o=some v:=ev.le.F
 have le:G.le { loc:=G.loc,cap:=G.cap,F:=G1.F }:=⟨fun _ _ e=>e,fun _ _ _=>rfl,leF⟩
 have hold:∀ b,b<w.heap.size→w1.heap[b]?=w.heap[b]?:=fun b hb=>ev.frame b hb (no b)
 refine⟨r,v,h,{ loc:=G.loc,cap:=G.cap,F:=G1.F },he,Rep.cl (G:=G1) (G':={ loc:=G.loc,cap:=G.cap,F:=G1.F }) (fun _ _ _ h=>h) r v hcl hrep,k r hk,⟨?_,s.dom,s.apart,s1.frz,?_,s1.tab⟩,⟨le,ev.size,ev.os,ev.tape,ev.output,fun b hb _=>hold b hb,fun b hb=>.inl hb,?_⟩⟩
 ·intro i o hi
  exact (s.obj i o hi).keep le fun p hp hl=>hold _ (s.loc_lt hi hl hp)
 ·intro i o p hi hl hp off
  show G1.F p.1 off=none
  cases e:G1.F p.1 off with
  | none=>rfl
  | some v=>
    rcases ev.fz _ _ _ e with h|h|h
    ·have:=s.sep i o p hi hl hp off;rw[this]at h;cases h
    ·exact (no _ h).elim
    ·have:=s.loc_lt hi hl hp;omega
 ·intro b o v e
  rcases ev.fz _ _ _ e with h|h|h
  ·exact .inl h
  ·exact (no _ h).elim
  ·exact .inr (.inr h)
def vEq:Value→Value→Bool
 | .int j a,.int k b=>decide (j=k)&&decide (a=b)
 | .string a,.string b=>decide (a.data.toList=b.data.toList)
 | .bool a,.bool b=>a==b
 | .float j a,.float k b=>decide (j=k)&&decide (a=b)
 | .nilIface,.nilIface=>true
 | _,_=>false
theorem Ui:∀ {a b:Value},vEq a b=true→a=b:=by
 intro a b h
 unfold vEq at h
 split at h
 ·simp at h;obtain⟨rfl,rfl⟩:=h;rfl
 ·simp only[decide_eq_true_eq]at h
  rename_i x y
  obtain⟨⟨x⟩⟩:=x;obtain⟨⟨y⟩⟩:=y
  simp at h;subst h;rfl
 ·simp at h;subst h;rfl
 ·simp at h;obtain⟨rfl,rfl⟩:=h;rfl
 ·rfl
 ·cases h
mutual
def avq:AV→AV→Bool
 | .lit a,.lit b=>vEq a b
 | .cptr a,.cptr b=>zB a b
 | .snap n a,.snap m b=>decide (n=m)&&zB a b
 | .full n a,.full m b=>decide (n=m)&&zB a b
 | .agg a,.agg b=>zB a b
 | .tup a,.tup b=>zB a b
 | _,_=>false
def zB:List AV→List AV→Bool
 | [],[]=>true
 | a::az,b::bs=>avq a b&&zB az bs
 | _,_=>false
end
mutual
theorem Qc:∀ (a b:AV),avq a b=true→a=b
 | .lit a,b,h=>by
   cases b<;>simp only[avq]at h<;>first|cases h|rw[Ui h]
 | .cptr a,b,h=>by
   cases b<;>simp only[avq]at h<;>first|cases h|rw[nU _ _ h]
 | .snap n a,b,h=>by
   cases b<;>simp only[avq,Bool.and_eq_true,decide_eq_true_eq]at h<;>first|cases h;done|rw[h.1,nU _ _ h.2]
 | .full n a,b,h=>by
   cases b<;>simp only[avq,Bool.and_eq_true,decide_eq_true_eq]at h<;>first|cases h;done|rw[h.1,nU _ _ h.2]
 | .agg a,b,h=>by
   cases b<;>simp only[avq]at h<;>first|cases h|rw[nU _ _ h]
 | .tup a,b,h=>by
   cases b<;>simp only[avq]at h<;>first|cases h|rw[nU _ _ h]
 | .ptr _ _,b,h=>by simp[avq]at h
 | .sl _ _ _ _,b,h=>by simp[avq]at h
 | .map _,b,h=>by simp[avq]at h
 | .fn _ _ _,b,h=>by simp[avq]at h
 | .iface _ _,b,h=>by simp[avq]at h
 | .sym _,b,h=>by simp[avq]at h
theorem nU:∀ (a b:List AV),zB a b=true→a=b
 | [],b,h=>by cases b<;>simp[zB]at h ⊢
 | a::az,b,h=>by
   cases b with
   | nil=>simp[zB]at h
   | cons b bs=>
     simp only[zB,Bool.and_eq_true]at h
     rw[Qc a b h.1,nU az bs h.2]
end
def MY (want r:AV) (t:HT):Bool:=match want,r with
 | .snap n cs,.sl i off len sz=>decide (n=len)&&(match t.get i with
   | some (.cells az)=>decide (off+len*sz≤az.length)&&zB cs ((az.drop off).take (len*sz))
   | _=>false)
 | .snap n cs,.full m az=>decide (n=m)&&zB cs az
 | a,b=>avq a b
theorem Ta {want r:AV}{t:HT}{n:Nat}(hr:HR t n h) (k:MY want r t=true):∃ r2 h2,Conv r h r2 h2∧r2=want:=by
 unfold MY at k
 split at k
 ·simp only[Bool.and_eq_true,decide_eq_true_eq]at k
  obtain⟨rfl,k⟩:=k
  split at k
  ·rename_i az hg
   simp only[Bool.and_eq_true,decide_eq_true_eq]at k
   refine⟨_,_,.frz _ az (hr.at_ _ _ hg) (.refl _ _),?_⟩
   simp only[fz]
   rw[if_pos ⟨trivial,k.1⟩,nU _ _ k.2]
  ·cases k
 ·simp only[Bool.and_eq_true,decide_eq_true_eq]at k
  obtain⟨rfl,k⟩:=k
  exact⟨_,_,.wk (.full _ _) (.refl _ _),by rw[nU _ _ k]⟩
 ·exact⟨_,_,.refl _ _,(Qc _ _ k).symm⟩
theorem rX {tb:nO}{sp:Ej}(ht:mB tb) (hs:JK P sp) {d:Nat}{f:FuncId}{args:List AV}(want:AV) (hc:clL args=true) (hw:cl want=true)
  (k:N3 P tb sp d f args .leaf 0 (fun r t _=>MY want r t)=true) {Q:QT} (q:Q want h):ACall P f args h Q:=by
 refine ACall.frame (K:=fun r=>r=want) hc (ACall.conv ?_) fun r hr=>by rw[hr];exact q
 refine (L6 ht hs d f args .leaf 0 [] _ (HR.none rfl) k).mono fun r h ⟨t,n,hr,k⟩=>?_
 obtain⟨r2,h2,c,e⟩:=Ta hr k
 exact⟨r2,h2,c,by rw[e];exact hw,e⟩
theorem xM:JK P fun _ _ _ _ _=>none:=fun f args t n h K _ k=>by cases k
end
end
section
variable [Tabs]
section
variable {P:Program}{h0 h h':ab}{M:List Nat}{L L':Own}{K:AV→Prop}{KH:QT}
def AccE (sz:Nat) (v:AV) (n:Nat) (cs:List AV) (E:Own):Prop:=(n=0∧cs=[]∧v=.full 0 []∧E=[])∨(cs.length=n*sz∧∃ j,v=.sl j 0 n sz∧E=[(j,true,.cells cs)])
theorem AccE.none (sz:Nat):AccE sz (.full 0 []) 0 [] []:=.inl ⟨rfl,rfl,rfl,rfl⟩
theorem AccE.len {sz n:Nat}{v:AV}{cs:List AV}{E:Own}(a:AccE sz v n cs E):cs.length=n*sz:=by
 rcases a with ⟨rfl,rfl,_,_⟩|⟨h,_⟩
 ·simp
 ·exact h
theorem St.perm (s:St h0 M h L) (p:L.Perm L'):St h0 M h L':=
 ⟨s.fr,fun e he=>s.at_ e (p.mem_iff.2 he),fun e he=>s.own e (p.mem_iff.2 he),(p.map _).nodup s.nd⟩
theorem St.swap {A B:Own}(s:St h0 M h (A++(B++L))):St h0 M h (B++(A++L)):=s.perm (by
 rw[← List.append_assoc,← List.append_assoc];exact (List.perm_append_comm).append_right L)
theorem AccE.rd {sz n:Nat}{v:AV}{cs:List AV}{E:Own}(a:AccE sz v n cs E) (s:St h0 M h (E++L)):Rd h sz v n cs:=by
 rcases a with ⟨rfl,rfl,rfl,rfl⟩|⟨hl,j,rfl,rfl⟩
 ·exact⟨rfl,by simp[da]⟩
 ·have:=Rd.sl (sz:=sz) (n:=n) (o:=0) (s.get (i:=j) (by simp;exact .inl ⟨rfl,rfl⟩)) (by omega)
  rwa [List.drop_zero,List.take_of_length_le (by omega)]at this
theorem AccE.rest {sz n:Nat}{v:AV}{cs:List AV}{E:Own}(a:AccE sz v n cs E) (s:St h0 M h (E++L)):St h0 M h L:=s.sub (List.sublist_append_right _ _)
theorem AccE.app {sz n bytes m:Nat}{v x:AV}{cs xs:List AV}{E:Own}(a:AccE sz v n cs E) (s:St h0 M h (E++L)) (r:Rd h sz x m xs) (h1:xs.all AV.one=true) (hb:(n+m)*bytes≤1099511627776)
  (k:∀ v' E' h',AccE sz v' (n+m) (cs++xs) E'→St h0 M h' (E'++L)→KH v' h'):bL sz bytes v x h KH:=by
 have hx:=r.len
 rcases a with ⟨rfl,rfl,rfl,rfl⟩|⟨hl,j,rfl,rfl⟩
 ·refine ov s r (by simpa using hb) (fun h0=>?_) fun i h' hm s'=>?_
  ·subst h0
   have:xs=[]:=by simpa using hx
   subst this
   exact k _ [] _ (.none _) s
  ·have:=k (.sl i 0 m sz) [(i,true,.cells xs)] h' (.inr ⟨by simpa using hx,i,by simp,by simp⟩) s'
   exact this
 ·refine Sd s r .head h1 (by omega) hb fun i h' s'=>?_
  exact k _ [(i,true,.cells (cs++xs))] h' (.inr ⟨by simp[hl,hx,Nat.add_mul],i,rfl,rfl⟩) s'
theorem AccE.conv {sz n:Nat}{v:AV}{cs:List AV}{E:Own}(a:AccE sz v n cs E) (s:St h0 M h (E++L)) {Q:QT}(k:∀ h',St h0 M h' L→Q (.snap n cs) h'):∃ r2 h2,Conv v h r2 h2∧Q r2 h2:=by
 rcases a with ⟨rfl,rfl,rfl,rfl⟩|⟨hl,j,rfl,rfl⟩
 ·exact dT (k h s)
 ·exact mN (s.get (.head _)) hl (k _ (s.kill .head))
end
end
section
variable [Tabs]
section
variable {P:Program}{n:Nat}{pl:E9}
theorem NY {c rest:Code}{l:Nat}{env:Env}{h:ab}{K:Exit→Env→ab→Prop}(hf:findLabel c l=some rest) (J:Nat→Env→ab→Prop)
  (first:AWp P n c env h fun e env' h'=>match e with|.goto l'=>l'=l∧∃ k env2,J k env2 h'∧(∀ s a,get env2 s=some a→get env' s=some a)|e=>K e env' h')
  (pass:∀ k env h,J k env h→AWp P n rest env h fun e env' h'=>match e with|.goto l'=>l'=l∧∃ m env2,m<k∧J m env2 h'∧(∀ s a,get env2 s=some a→get env' s=some a)|e=>K e env' h'):AWp P n (.scope c) env h K:=by
 intro G w a s hn r
 let R:Nat→Act→World→Prop:=fun k a' w'=>∃ env' h' G',J k env' h'∧Sim G' h' w'∧Evo G h w G' h' w'∧EnvRep G' env' a'.tmps∧a'.tmps.size=n∧a'.defers=a.defers
 refine wp_scope_jumps l (fun a' w'=>∃ k,R k a' w') (fun a' w'=>x2 (fun k=>R k a' w')) hf ?_ ?_
 ·refine Go.wp_mono (first G w a s hn r) fun e a2 w2 p=>?_
  obtain⟨env2,h2,G2,hk,s2,ev2,r2,hn2,hd2⟩:=p
  cases e with
  | goto l'=>
    obtain⟨rfl,m,env3,hJ3,hsub⟩:=hk
    exact⟨rfl,m,env3,h2,G2,hJ3,s2,ev2,fun s a e=>r2 s a (hsub s a e),hn2,hd2⟩
  | _=>exact⟨env2,h2,G2,hk,s2,ev2,r2,hn2,hd2⟩
 ·intro a1 w1 hI
  obtain⟨env1,h1,G1,hJ,s1,ev1,r1,hn1,hd1⟩:=sV hI
  refine Go.wp_mono (pass _ _ _ hJ G1 w1 a1 s1 hn1 r1) fun e a2 w2 p=>?_
  obtain⟨env2,h2,G2,hk,s2,ev2,r2,hn2,hd2⟩:=p
  cases e with
  | goto l'=>
    obtain⟨rfl,m,env3,hm,hJ3,hsub⟩:=hk
    have hR:R m a2 w2:=⟨env3,h2,G2,hJ3,s2,ev1.trans ev2,fun s a e=>r2 s a (hsub s a e),hn2,hd2.trans hd1⟩
    exact⟨rfl,⟨m,hR⟩,Nat.lt_of_le_of_lt (xk hR) hm⟩
  | _=>exact⟨env2,h2,G2,hk,s2,ev1.trans ev2,r2,hn2,hd2.trans hd1⟩
def Iw (P:Program) (n:Nat) (pl:E9) (c rest:Code) (l:Nat) (ws ks:List Nat) (env:Env) (h:ab) (K:Exit→Env→ab→Prop):Prop:=
 den P n pl c env h fun e env' h'=>match e with
  | .goto l'=>if l'=l then dH (zH env' ks) fun vs0=>bG vs0 h' fun vs h next=>den P n pl rest (kD vs 0 ks++gJ ws env) h fun e env2 h2=>match e with
    | .goto l'=>if l'=l then dH (zH env2 ks) fun vs'=>next vs' h2 else False
    | e=>K e env2 h2
    else False
  | e=>K e env' h'
theorem Hi {c rest:Code}{l:Nat}{ws ks:List Nat}{env:Env}{h:ab}{K:Exit→Env→ab→Prop}(hf:findLabel c l=some rest) (h1:(c7 c).all ws.contains=true) (h2:(c7 rest).all ws.contains=true) (h3:ks.all ws.contains=true)
  (k:Iw P n pl c rest l ws ks env h K):AWp P n (.scope c) env h K:=by
 have w1:∀ s,s∈c7 c→s∈ws:=fun s hs=>by have:=List.all_eq_true.1 h1 s hs;simpa using this
 have w2:∀ s,s∈c7 rest→s∈ws:=fun s hs=>by have:=List.all_eq_true.1 h2 s hs;simpa using this
 have w3:∀ s,s∈ks→s∈ws:=fun s hs=>by have:=List.all_eq_true.1 h3 s hs;simpa using this
 let Bd:List AV→ab→(NT)→Prop:=fun vs h next=>den P n pl rest (kD vs 0 ks++gJ ws env) h fun e env2 h2=>match e with
     | .goto l'=>if l'=l then dH (zH env2 ks) fun vs'=>next vs' h2 else False
     | e=>K e env2 h2
 refine NY hf (fun k env' h'=>∃ vs,env'=kD vs 0 ks++gJ ws env∧∃ Jl:Nat→NT,Jl k vs h'∧∀ k vs h,Jl k vs h→Bd vs h fun vs' h'=>∃ m,m<k∧Jl m vs' h') ?_ ?_
 ·refine (F9 c _ _ _ (BS c _ _ _ (fun e env2 h2=>(match e with|.goto l'=>if l'=l then dH (zH env2 ks) fun vs0=>bG vs0 h2 Bd else False|e=>K e env2 h2)∧Keep (c7 c) env env2) (fun e env2 h2 hk q=>⟨q,hk⟩) k)).mono fun e env2 h2 q=>?_
  obtain⟨q,hkeep⟩:=q
  cases e with
  | goto l'=>
    simp only at q ⊢
    split at q
    ·rename_i hl
     obtain⟨vs,hv,⟨Jl,⟨k0,hJ0⟩,hr⟩⟩:=de q
     refine⟨hl,k0,kD vs 0 ks++gJ ws env,⟨vs,rfl,Jl,hJ0,hr⟩,fun s a e=>?_⟩
     rcases rV (pre:=[]) (by simp) hv e with e|e
     ·exact e
     ·have hs:=kr e
      rw[hkeep s (fun m=>hs (w1 s m)),← sL hs env];exact e
    ·exact q.elim
  | _=>exact q
 ·rintro k env' h' ⟨vs,rfl,Jl,hJ,hr⟩
  refine (F9 rest _ _ _ (BS rest _ _ _ (fun e env2 h2=>(match e with|.goto l'=>if l'=l then dH (zH env2 ks) fun vs'=>∃ m,m<k∧Jl m vs' h2 else False|e=>K e env2 h2)∧Keep (c7 rest) (kD vs 0 ks++gJ ws env) env2) (fun e env2 h2 hk q=>⟨q,hk⟩) (hr k vs h' hJ))).mono fun e env2 h2 q=>?_
  obtain⟨q,hkeep⟩:=q
  cases e with
  | goto l'=>
    simp only at q ⊢
    split at q
    ·rename_i hl
     obtain⟨vs',hv',m,hm,hJ'⟩:=de q
     refine⟨hl,m,kD vs' 0 ks++gJ ws env,hm,⟨vs',rfl,Jl,hJ',hr⟩,fun s a e=>?_⟩
     rcases rV (pre:=[]) (by simp) hv' e with e|e
     ·exact e
     ·have hs:=kr e
      rw[hkeep s (fun m=>hs (w2 s m)),oG (fun m=>hs (w3 s m))]
      exact e
    ·exact q.elim
  | _=>exact q
def UH (P:Program) (pl:E9) (fn:Func) (A c rest:Code) (l:Nat) (ws ks:List Nat) (args:List AV) (h:ab) (Q:QT):Prop:=
 den P fn.ntmps pl A (eo 0 args) h fun e env' h'=>match e with
  | .normal=>Iw P fn.ntmps pl c rest l ws ks env' h' fun e env' h'=>match e with
    | .normal=>Cu P fn.results.toList env' h' Q
    | .ret=>Cu P fn.results.toList env' h' Q
    | _=>False
  | _=>False
theorem Cv {f:FuncId}{fn:Func}{A c rest:Code}{l:Nat}{ws ks:List Nat}{args:List AV}{h:ab}{Q:QT}(hf:P.funcs[f]?=some fn) (hb:fn.body=some (.seq A (.scope c))) (hl:findLabel c l=some rest)
  (h1:(c7 c).all ws.contains=true) (h2:(c7 rest).all ws.contains=true) (h3:ks.all ws.contains=true)
  (hname : (fn.name == "runtime.NumGoroutine") = false) (hn : args.length ≤ fn.ntmps) (k : UH P pl fn A c rest l ws ks args h Q) : ACall P f args h Q := by
 refine⟨⟨fn,hf,hname,by simp[hb]⟩,fun G w vs s r=>?_⟩
 refine calls_of_wp hf hb ?_
 have hl':=r.length
 have hre:EnvRep G (eo 0 args) (vs.toArray++Array.replicate (fn.ntmps-vs.toArray.size) undef):=fun k a e=>by
  obtain⟨_,h1⟩:=pA args 0 k a e
  obtain⟨v,h2,h3⟩:=r.at _ _ h1
  have hk:k<vs.length:=(List.getElem?_eq_some_iff.1 h2).1
  exact⟨v,by rw[Array.getElem?_append_left (by simpa using hk)];simpa using h2,h3⟩
 have W0:AWp P fn.ntmps (.seq A (.scope c)) (eo 0 args) h fun e env' h'=>match e with|.normal=>Cu P fn.results.toList env' h' Q|.ret=>Cu P fn.results.toList env' h' Q|_=>False:=by
  refine FG ((F9 A _ _ _ k).mono fun e env' h' q=>?_)
  cases e with
  | normal=>exact Hi hl h1 h2 h3 q
  | _=>exact q.elim
 have W:=W0 G w { tmps:=vs.toArray++Array.replicate (fn.ntmps-vs.toArray.size) undef,defers:=[] } s (by simp;omega) hre
 refine wp_mono W fun e a w' ⟨env',h',G',hk,s',ev,r',hn',hd'⟩=>?_
 cases e with
 | normal=>
   obtain⟨v,x,q1,q2,q3⟩:=mL s' r' hk
   exact⟨hd',x,q1,v,x,h',G',rfl,q2,q3,s',ev⟩
 | ret=>
   obtain⟨v,x,q1,q2,q3⟩:=mL s' r' hk
   exact⟨hd',x,q1,v,x,h',G',rfl,q2,q3,s',ev⟩
 | exit id=>exact hk.elim
 | goto l=>exact hk.elim
 | panic ch=>exact hk.elim
 | outgrown=>exact hk.elim
