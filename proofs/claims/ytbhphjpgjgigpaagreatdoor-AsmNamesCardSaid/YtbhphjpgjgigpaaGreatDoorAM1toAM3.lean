import Derived.Test.YtbhphjpgjgigpaaGreatDoorAL13toAL19
import Derived.IntWalk
set_option linter.all false
set_option autoImplicit true
set_option relaxedAutoImplicit true
set_option maxRecDepth 100000
namespace Go.Proofs.YtbhphjpgjgigpaaGreatDoor.AL
noncomputable section
section
variable [Tabs]
section
variable {P:Program}{G:Gh}{h:ab}{w:World}
mutual
def fz (i:Nat) (cs:List AV):AV→AV
 | .sl j off len sz=>if j=i∧off+len*sz≤cs.length then .snap len ((cs.drop off).take (len*sz)) else .sl j off len sz
 | .ptr j off=>if j=i then .cptr (cs.drop off) else .ptr j off
 | .cptr l=>.cptr (fzL i cs l)
 | .snap n l=>.snap n (fzL i cs l)
 | .full n l=>.full n (fzL i cs l)
 | .fn f fi ca=>.fn f (fzL i cs fi) (fzL i cs ca)
 | .iface t v=>.iface t (fz i cs v)
 | .agg l=>.agg (fzL i cs l)
 | .tup l=>.tup (fzL i cs l)
 | v=>v
def fzL (i:Nat) (cs:List AV):List AV→List AV
 | []=>[]
 | a::az=>fz i cs a::fzL i cs az
end
theorem My {i:Nat}{cs l:List AV}:fzL i cs l=[]↔l=[]:=by cases l<;>simp[fzL]
structure Frz (G G':Gh) (i:Nat) (cs:List AV):Prop where
 le:G.le G'
 sl:∀ off len sz x,off+len*sz≤cs.length→Rep G (.sl i off len sz) x→Rep G' (.snap len ((cs.drop off).take (len*sz))) x
 ptr:∀ off x,Rep G (.ptr i off) x→Rep G' (.cptr (cs.drop off)) x
mutual
theorem Frz.rep {G G':Gh}{i:Nat}{cs:List AV}(z:Frz G G' i cs):∀ (a:AV) (x:Value),Rep G a x→Rep G' (fz i cs a) x
 | .lit v,x,h=>Rep.mono z.le _ _ h
 | .ptr j off,x,h=>by
   simp only[fz]
   split
   ·rename_i e;subst e;exact z.ptr off x h
   ·exact Rep.mono z.le _ _ h
 | .cptr l,x,h=>by
   simp only[Rep,fz]at h ⊢
   obtain⟨b,o,h1,h2⟩:=h
   exact⟨b,o,h1,Frz.repAt z l b o h2⟩
 | .sl j off len sz,x,h=>by
   simp only[fz]
   split
   ·rename_i e;obtain⟨rfl,e⟩:=e;exact z.sl off len sz x e h
   ·exact Rep.mono z.le _ _ h
 | .snap n l,x,h=>by
   simp only[Rep,fz]at h ⊢
   rcases h with ⟨h1,h2,h3⟩|⟨b,o,c,h1,h2,h3⟩
   ·exact .inl ⟨h1,by rw[My];exact h2,h3⟩
   ·exact .inr ⟨b,o,c,h1,h2,Frz.repAt z l b o h3⟩
 | .full n l,x,h=>by
   simp only[Rep,fz]at h ⊢
   rcases h with ⟨h1,h2,h3⟩|⟨b,o,h2,h3⟩
   ·exact .inl ⟨h1,by rw[My];exact h2,h3⟩
   ·exact .inr ⟨b,o,h2,Frz.repAt z l b o h3⟩
 | .map j,x,h=>Rep.mono z.le _ _ h
 | .fn f fi ca,x,h=>by
   simp only[Rep,fz]at h ⊢
   obtain⟨vs,ws,h1,h2,h3⟩:=h
   exact⟨vs,ws,h1,Frz.repL z fi vs h2,Frz.repL z ca ws h3⟩
 | .iface t v,x,h=>by
   simp only[Rep,fz]at h ⊢
   obtain⟨y,h1,h2⟩:=h
   exact⟨y,h1,Frz.rep z v y h2⟩
 | .agg l,x,h=>by
   simp only[Rep,fz]at h ⊢
   obtain⟨vs,h1,h2⟩:=h
   exact⟨vs,h1,Frz.repL z l vs h2⟩
 | .tup l,x,h=>by
   simp only[Rep,fz]at h ⊢
   obtain⟨vs,h1,h2⟩:=h
   exact⟨vs,h1,Frz.repL z l vs h2⟩
 | .sym j,x,h=>Rep.mono z.le _ _ h
theorem Frz.repL {G G':Gh}{i:Nat}{cs:List AV}(z:Frz G G' i cs):∀ (az:List AV) (vs:List Value),RepL G az vs→RepL G' (fzL i cs az) vs
 | [],vs,h=>by simpa [RepL,fzL] using h
 | a::az,vs,h=>by
   simp only[RepL,fzL]at h ⊢
   obtain⟨v,ws,h1,h2,h3⟩:=h
   exact⟨v,ws,h1,Frz.rep z a v h2,Frz.repL z az ws h3⟩
theorem Frz.repAt {G G':Gh}{i:Nat}{cs:List AV}(z:Frz G G' i cs):∀ (az:List AV) (b o:Nat),RepAt G az b o→RepAt G' (fzL i cs az) b o
 | [],b,o,_=>by simp[RepAt,fzL]
 | a::az,b,o,h=>by
   simp only[RepAt,fzL]at h ⊢
   obtain⟨⟨v,h1,h2⟩,h3⟩:=h
   exact⟨⟨v,z.le.F _ _ _ h1,Frz.rep z a v h2⟩,Frz.repAt z az b (o+1) h3⟩
end
theorem CQ {w:World}{b k:Nat}{arr:Array Value}{el:TypeId}{fr:Nat×Nat}(e:w.heap[b]?=some (.cells arr el fr)):w.cell? ⟨b,k,none⟩=arr[k]?:=by
 simp[World.cell?,e]
theorem L5 (s:Sim G h w) {i:Nat}{cs:List AV}(hi:h[i]?=some (.cells cs)):
  ∃ G',Sim G' (h.set i .dead) w∧Evo G h w G' (h.set i .dead) w∧Frz G G' i cs:=by
 obtain⟨b,o,arr,el,lo,hi',e1,e2,e3,e4,e5,e6⟩:=s.obj i _ hi
 obtain⟨sk,ek⟩:=G4 s i
 have hsep:∀ off,G.F b off=none:=s.sep i _ _ hi rfl e1
 have le:G.le { G with F:=fun c k=>if c=b then arr[k]? else G.F c k }:=⟨fun _ _ e=>e,fun _ _ _=>rfl,fun c k v e=>by
  show (if c=b then arr[k]? else G.F c k)=some v
  split
  ·rename_i hc;subst hc;rw[hsep]at e;cases e
  ·exact e⟩
 have hlive:∀ (k:Nat) (ok:AObj) (p:Nat×Nat),(h.set i .dead)[k]?=some ok→ok.live=true→G.loc k=some p→p.1≠b:=fun k ok p hk hl hp hb=>by
  by_cases hne:k=i
  ·subst hne
   rw[List.getElem?_set]at hk
   simp at hk
   obtain⟨_,rfl⟩:=hk
   simp[AObj.live]at hl
  ·have hk':h[k]?=some ok:=by rwa [List.getElem?_set_ne (Ne.symm hne)]at hk
   exact hne (s.apart k i ok _ p (b,o) hk' hi hl rfl hp e1 hb)
 refine⟨{ G with F:=fun c k=>if c=b then arr[k]? else G.F c k },⟨?_,sk.dom,sk.apart,?_,?_,?_⟩,⟨le,Nat.le_refl _,rfl,rfl,rfl,fun _ _ _=>rfl,ek.own,fun c k v e=>by
  have e':(if c=b then arr[k]? else G.F c k)=some v:=e
  split at e'
  ·rename_i hc;subst hc;exact .inr (.inl ⟨i,_,_,hi,rfl,e1,rfl⟩)
  ·exact .inl e'⟩,le,?_,?_⟩
 ·intro k ok hk
  exact (sk.obj k ok hk).keep le fun p hp hl=>rfl
 ·intro c k v e
  have e':(if c=b then arr[k]? else G.F c k)=some v:=e
  split at e'
  ·rename_i hc;subst hc;rw[CQ e2];exact e'
  ·exact s.frz c k v e'
 ·intro k ok p hk hl hp off
  show (if p.1=b then arr[off]? else G.F p.1 off)=none
  rw[if_neg (hlive k ok p hk hl hp)]
  exact sk.sep k ok p hk hl hp off
 ·exact Tabs.mono le.F s.tab
 ·intro off len sz x hb hr
  simp only[Rep]at hr ⊢
  obtain⟨b',o',c,ad,h1,h2,h3,h4,rfl⟩:=hr
  rw[e1]at h1;cases h1
  refine .inr ⟨b,ad,c,h3,rfl,?_⟩
  rcases Nat.eq_zero_or_pos c with rfl|hc
  ·have:len=0:=by omega
   subst this
   simp[RepAt]
  ·rw[h4 hc]
   refine jQ fun j a hj=>?_
   rw[List.getElem?_take]at hj
   split at hj
   ·rw[List.getElem?_drop]at hj
    obtain⟨v,v1,v2⟩:=e6 _ a hj
    refine⟨v,?_,Rep.mono le a v v2⟩
    show (if b=b then arr[o+off+j]? else _)=some v
    rw[if_pos rfl,← v1];congr 1;omega
   ·cases hj
 ·intro off x hr
  simp only[Rep]at hr ⊢
  obtain⟨b',o',h1,rfl⟩:=hr
  rw[e1]at h1;cases h1
  refine⟨b,o+off,rfl,?_⟩
  refine jQ fun j a hj=>?_
  rw[List.getElem?_drop]at hj
  obtain⟨v,v1,v2⟩:=e6 _ a hj
  refine⟨v,?_,Rep.mono le a v v2⟩
  show (if b=b then arr[o+off+j]? else _)=some v
  rw[if_pos rfl,← v1];congr 1;omega
def Wk (r r2:AV):Prop:=∀ (G:Gh) (x:Value),Rep G r x→Rep G r2 x
theorem Wk.refl (r:AV):Wk r r:=fun _ _ h=>h
theorem Wk.full (n:Nat) (cs:List AV):Wk (.full n cs) (.snap n cs):=fun G x h=>by
 simp only[Rep]at h ⊢
 rcases h with h|⟨b,o,h2,h3⟩
 ·exact .inl h
 ·exact .inr ⟨b,o,n,Nat.le_refl _,h2,h3⟩
def WkL:List AV→List AV→Prop
 | [],bs=>bs=[]
 | a::az,bs=>∃ b cs,bs=b::cs∧Wk a b∧WkL az cs
theorem WkL.nil:WkL [] []:=rfl
theorem WkL.cons {a b:AV}{az bs:List AV}(h:Wk a b) (k:WkL az bs):WkL (a::az) (b::bs):=⟨b,bs,rfl,h,k⟩
theorem WkL.refl:∀ l:List AV,WkL l l
 | []=>rfl
 | a::az=>.cons (.refl a) (.refl az)
theorem WkL.rep {G:Gh}:∀ {az bs:List AV}{vs:List Value},WkL az bs→RepL G az vs→RepL G bs vs
 | [],bs,vs,h,r=>by simp only[WkL]at h;subst h;exact r
 | a::az,bs,vs,h,r=>by
   obtain⟨b,cs,rfl,h1,h2⟩:=h
   simp only[RepL]at r ⊢
   obtain⟨v,ws,rfl,r1,r2⟩:=r
   exact⟨v,ws,rfl,h1 _ _ r1,WkL.rep h2 r2⟩
theorem Wk.agg {az bs:List AV}(h:WkL az bs):Wk (.agg az) (.agg bs):=fun G x r=>by
 simp only[Rep]at r ⊢
 obtain⟨vs,rfl,r⟩:=r
 exact⟨vs,rfl,h.rep r⟩
theorem Wk.tup {az bs:List AV}(h:WkL az bs):Wk (.tup az) (.tup bs):=fun G x r=>by
 simp only[Rep]at r ⊢
 obtain⟨vs,rfl,r⟩:=r
 exact⟨vs,rfl,h.rep r⟩
inductive Conv:AV→ab→QT where
 | refl (r:AV) (h:ab):Conv r h r h
 | frz {r:AV} {h:ab} {r2:AV} {h2:ab} (i:Nat) (cs:List AV) (hi:h[i]?=some (.cells cs)) (k:Conv (fz i cs r) (h.set i .dead) r2 h2):Conv r h r2 h2
 | wk {r r1:AV} {h:ab} {r2:AV} {h2:ab} (e:Wk r r1) (k:Conv r1 h r2 h2):Conv r h r2 h2
theorem Conv.ok {r:AV}{h:ab}{r2:AV}{h2:ab}(c:Conv r h r2 h2):∀ {G:Gh}{w:World}{v:Value},Sim G h w→Rep G r v→∃ G',Sim G' h2 w∧Evo G h w G' h2 w∧Rep G' r2 v:=by
 induction c with
 | refl r h=>exact fun s hr=>⟨_,s,Evo.refl _ _ _,hr⟩
 | frz i cs hi k ih=>
   intro G w v s hr
   obtain⟨G',s',ev,z⟩:=L5 s hi
   obtain⟨G2,s2,ev2,hr2⟩:=ih s' (z.rep _ _ hr)
   exact⟨G2,s2,ev.trans ev2,hr2⟩
 | wk e k ih=>
   intro G w v s hr
   exact ih s (e _ _ hr)
theorem ACall.conv {f:FuncId}{args:List AV}{K:QT}(c:ACall P f args h fun r h'=>∃ r2 h2,Conv r h' r2 h2∧K r2 h2):ACall P f args h K:=
 ⟨c.1,fun G w vs s hr=>(c.2 G w vs s hr).mono fun e w' ⟨r,v,h',G',he,h1,⟨r2,h2,cv,hk⟩,h3,h4⟩=>by
  obtain⟨G2,s2,ev2,hr2⟩:=cv.ok h3 h1
  exact⟨r2,v,h2,G2,he,hr2,hk,s2,h4.trans ev2⟩⟩
theorem ACall.frzArg {f:FuncId}{args:List AV}{Q:QT}{i:Nat}{cs:List AV}(hi:h[i]?=some (.cells cs)) (c:ACall P f (fzL i cs args) (h.set i .dead) Q):ACall P f args h Q:=
 ⟨c.1,fun G w vs s hr=>by
  obtain⟨G',s',ev,z⟩:=L5 s hi
  exact (c.2 G' w vs s' (z.repL _ _ hr)).mono fun e w' ⟨r,v,h',G2,a,b,q,d,e2⟩=>⟨r,v,h',G2,a,b,q,d,ev.trans e2⟩⟩
end
end
section
variable [Tabs]
abbrev Str:=List UInt8
abbrev T (l:Str):AV:=.lit (.string ⟨⟨l⟩⟩)
abbrev U8 (c:UInt8):AV:=.lit (.int .u8 c.toNat)
theorem u8i {x c:UInt8}:((x.toNat:Int)=(c.toNat:Int))↔x=c:=by
 constructor
 ·intro h;exact UInt8.toNat_inj.1 (by omega)
 ·rintro rfl;rfl
structure Fr (M:List Nat) (h h':ab):Prop where
 len:h.length≤h'.length
 at_:∀ j,j<h.length→j∉M→h'[j]?=h[j]?
theorem Fr.refl (M:List Nat) (h:ab):Fr M h h:=⟨Nat.le_refl _,fun _ _ _=>rfl⟩
theorem Fr.mono {M N:List Nat}{h h':ab}(f:Fr M h h') (s:∀ j∈M,j<h.length→j∈N):Fr N h h':=⟨f.len,fun j hj hn=>f.at_ j hj fun hm=>hn (s j hm hj)⟩
theorem Fr.trans {M N:List Nat}{h h1 h2:ab}(f:Fr M h h1) (g:Fr N h1 h2) (s:∀ j∈N,j<h.length→j∈M):Fr M h h2:=
 ⟨Nat.le_trans f.len g.len,fun j hj hn=>by rw[g.at_ j (Nat.lt_of_lt_of_le hj f.len) fun hm=>hn (s j hm hj),f.at_ j hj hn]⟩
theorem Fr.push (M:List Nat) (h:ab) (o:AObj):Fr M h (h++[o]):=⟨by simp,fun j hj _=>by rw[List.getElem?_append_left hj]⟩
theorem Fr.set {M:List Nat}(h:ab) {i:Nat}(o:AObj) (hi:i∈M):Fr M h (h.set i o):=⟨by simp,fun j _ hn=>by rw[List.getElem?_set_ne];exact fun e=>hn (e ▸ hi)⟩
theorem hQ {h:ab}{i:Nat}{o:AObj}(e:h[i]?=some o):i<h.length:=(List.getElem?_eq_some_iff.1 e).1
theorem Fr.get {M:List Nat}{h h':ab}(f:Fr M h h') {i:Nat}{o:AObj}(e:h[i]?=some o) (hn:i∉M):h'[i]?=some o:=by rw[f.at_ i (hQ e) hn];exact e
abbrev Own:=List (Nat×Bool×AObj)
structure St (h0:ab) (M:List Nat) (h:ab) (L:Own):Prop where
 fr:Fr M h0 h
 at_:∀ e∈L,h[e.1]?=some e.2.2
 own:∀ e∈L,e.2.1=true→e.1<h0.length→e.1∈M
 nd:(L.map (·.1)).Nodup
inductive Sub:Own→(Nat×Bool×AObj)→Own→(Nat×Bool×AObj)→Prop where
 | head {L:Own} {e e':Nat×Bool×AObj}:Sub (e::L) e (e'::L) e'
 | tail {L L':Own} {a e e':Nat×Bool×AObj} (s:Sub L e L' e'):Sub (a::L) e (a::L') e'
theorem Sub.mem {L L':Own}{e e':Nat×Bool×AObj}(s:Sub L e L' e'):e∈L:=by
 induction s with
 | head=>simp
 | tail s ih=>simp[ih]
theorem Sub.mem' {L L':Own}{e e':Nat×Bool×AObj}(s:Sub L e L' e'):∀ x∈L',x=e'∨(x∈L∧((L.map (·.1)).Nodup→x.1≠e.1)):=by
 induction s with
 | head=>
   rename_i M a a'
   intro x hx
   simp only[List.mem_cons]at hx ⊢
   rcases hx with rfl|hx
   ·exact .inl rfl
   ·refine .inr ⟨.inr hx,fun nd h=>?_⟩
    simp only[List.map_cons,List.nodup_cons,List.mem_map,not_exists]at nd
    exact nd.1 x ⟨hx,h⟩
 | tail s ih=>
   rename_i M M' a a1 a1'
   intro x hx
   simp only[List.mem_cons]at hx ⊢
   rcases hx with rfl|hx
   ·refine .inr ⟨.inl rfl,fun nd h=>?_⟩
    simp only[List.map_cons,List.nodup_cons,List.mem_map,not_exists]at nd
    exact nd.1 _ ⟨s.mem,h.symm⟩
   ·rcases ih x hx with h|⟨h,k⟩
    ·exact .inl h
    ·refine .inr ⟨.inr h,fun nd=>k ?_⟩
     simp only[List.map_cons,List.nodup_cons]at nd
     exact nd.2
theorem Sub.map {L L':Own}{e e':Nat×Bool×AObj}(s:Sub L e L' e') (h:e'.1=e.1):L'.map (·.1)=L.map (·.1):=by
 induction s with
 | head=>simp[h]
 | tail s ih=>simp[ih h]
theorem Sub.nd {L L':Own}{e e':Nat×Bool×AObj}(s:Sub L e L' e') (nd:(L.map (·.1)).Nodup) (hn:∀ x∈L,x.1≠e'.1):(L'.map (·.1)).Nodup:=by
 induction s with
 | head=>
   simp only[List.map_cons,List.nodup_cons,List.mem_map,not_exists]at nd ⊢
   exact⟨fun x hx=>hn x (by simp[hx.1]) hx.2,nd.2⟩
 | tail s ih=>
   rename_i M M' a a1 a1'
   simp only[List.map_cons,List.nodup_cons,List.mem_map,not_exists]at nd ⊢
   refine⟨fun x hx=>?_,ih nd.2 fun x hx=>hn x (by simp[hx])⟩
   rcases s.mem' x hx.1 with rfl|⟨h,_⟩
   ·exact hn a (by simp) hx.2.symm
   ·exact nd.1 x ⟨h,hx.2⟩
section
variable {P:Program}{h0 h:ab}{M:List Nat}{L L':Own}
theorem St.start (h:ab):St h [] h []:=⟨Fr.refl _ _,by simp,by simp,by simp⟩
theorem St.start1 {h:ab}{i:Nat}{o:AObj}(e:h[i]?=some o):St h [i] h [(i,true,o)]:=⟨Fr.refl _ _,by simpa using e,by simp,by simp⟩
theorem St.startr {h:ab}{i:Nat}{o:AObj}(e:h[i]?=some o):St h [] h [(i,false,o)]:=⟨Fr.refl _ _,by simpa using e,by simp,by simp⟩
theorem St.get {i:Nat}{b:Bool}{o:AObj}(s:St h0 M h L) (e:(i,b,o)∈L):h[i]?=some o:=s.at_ _ e
theorem St.drop1 {e:Nat×Bool×AObj}(s:St h0 M h (e::L)):St h0 M h L:=
 ⟨s.fr,fun x hx=>s.at_ x (by simp[hx]),fun x hx=>s.own x (by simp[hx]),by have:=s.nd;simp only[List.map_cons,List.nodup_cons]at this;exact this.2⟩
theorem St.know {i:Nat}{o:AObj}(s:St h0 M h L) (e:h[i]?=some o) (hn:∀ x∈L,x.1≠i):St h0 M h ((i,false,o)::L):=
 ⟨s.fr,fun x hx=>(List.mem_cons.1 hx).elim (fun h=>by subst h;exact e) (s.at_ x),fun x hx=>(List.mem_cons.1 hx).elim (fun h=>by subst h;exact fun h=>by cases h) (s.own x),by
  simp only[List.map_cons,List.nodup_cons,List.mem_map,not_exists];exact⟨fun x hx=>hn x hx.1 hx.2,s.nd⟩⟩
theorem St.push (s:St h0 M h L) (o:AObj):St h0 M (h++[o]) ((h.length,true,o)::L) where
 fr:=s.fr.trans (Fr.push [] h o) (by simp)
 at_ e he:=by
  rcases List.mem_cons.1 he with rfl|he
  ·simp
  ·rw[List.getElem?_append_left (hQ (s.at_ e he))];exact s.at_ e he
 own e he ht hl:=by
  rcases List.mem_cons.1 he with rfl|he
  ·have:=s.fr.len;simp at hl;omega
  ·exact s.own e he ht hl
 nd:=by
  simp only[List.map_cons,List.nodup_cons,List.mem_map,not_exists]
  exact⟨fun x hx=>by have:=hQ (s.at_ x hx.1);omega,s.nd⟩
theorem St.turn {i:Nat}{o o':AObj}(s:St h0 M h L) (u:Sub L (i,true,o) L' (i,true,o')):St h0 M (h.set i o') L' where
 fr:=⟨by simpa using s.fr.len,fun j hj hn=>by
  rw[List.getElem?_set_ne,s.fr.at_ j hj hn]
  intro e;subst e
  exact hn (s.own _ u.mem rfl hj)⟩
 at_ e he:=by
  rcases u.mem' e he with rfl|⟨h1,h2⟩
  ·exact List.getElem?_set_self (hQ (s.at_ _ u.mem))
  ·rw[List.getElem?_set_ne (Ne.symm (h2 s.nd))];exact s.at_ e h1
 own e he:=by
  rcases u.mem' e he with rfl|⟨h1,h2⟩
  ·exact fun _ hl=>s.own (i,true,o) u.mem rfl hl
  ·exact s.own e h1
 nd:=by rw[u.map rfl];exact s.nd
theorem St.call {h':ab}(s:St h0 M h L) (f:Fr [] h h'):St h0 M h' L where
 fr:=s.fr.trans f (by simp)
 at_ e he:=f.get (s.at_ e he) (by simp)
 own:=s.own
 nd:=s.nd
theorem St.call1 {h':ab}{i:Nat}{o o':AObj}(s:St h0 M h L) (f:Fr [i] h h') (e:h'[i]?=some o') (u:Sub L (i,true,o) L' (i,true,o')):St h0 M h' L' where
 fr:=s.fr.trans f fun j hj hl=>by simp at hj;subst hj;exact s.own _ u.mem rfl hl
 at_ x hx:=by
  rcases u.mem' x hx with rfl|⟨h1,h2⟩
  ·exact e
  ·exact f.get (s.at_ x h1) (by simpa using h2 s.nd)
 own x hx:=by
  rcases u.mem' x hx with rfl|⟨h1,h2⟩
  ·exact fun _ hl=>s.own (i,true,o) u.mem rfl hl
  ·exact s.own x h1
 nd:=by rw[u.map rfl];exact s.nd
inductive Del:Own→(Nat×Bool×AObj)→Own→Prop where
 | head {L:Own} {e:Nat×Bool×AObj}:Del (e::L) e L
 | tail {L L':Own} {a e:Nat×Bool×AObj} (s:Del L e L'):Del (a::L) e (a::L')
theorem Del.mem {L L':Own}{e:Nat×Bool×AObj}(d:Del L e L'):e∈L:=by
 induction d with
 | head=>simp
 | tail d ih=>simp[ih]
theorem Del.sub {L L':Own}{e:Nat×Bool×AObj}(d:Del L e L'):L'.Sublist L:=by
 induction d with
 | head=>exact List.sublist_cons_self _ _
 | tail d ih=>exact ih.cons_cons _
theorem Del.ne {L L':Own}{e:Nat×Bool×AObj}(d:Del L e L'):(L.map (·.1)).Nodup→∀ x∈L',x.1≠e.1:=by
 induction d with
 | head=>
   intro nd x hx h
   simp only[List.map_cons,List.nodup_cons,List.mem_map,not_exists]at nd
   exact nd.1 x ⟨hx,h⟩
 | tail d ih=>
   intro nd x hx h
   simp only[List.map_cons,List.nodup_cons,List.mem_map,not_exists]at nd
   rcases List.mem_cons.1 hx with rfl|hx
   ·exact nd.1 _ ⟨d.mem,h.symm⟩
   ·exact ih nd.2 x hx h
theorem St.sub (s:St h0 M h L) (hs:L'.Sublist L):St h0 M h L':=
 ⟨s.fr,fun e he=>s.at_ e (hs.mem he),fun e he=>s.own e (hs.mem he),(hs.map _).nodup s.nd⟩
theorem St.kill {i:Nat}{o:AObj}(s:St h0 M h L) (d:Del L (i,true,o) L'):St h0 M (h.set i .dead) L' where
 fr:=⟨by simpa using s.fr.len,fun j hj hn=>by
  rw[List.getElem?_set_ne,s.fr.at_ j hj hn]
  intro e;subst e
  exact hn (s.own _ d.mem rfl hj)⟩
 at_ e he:=by
  rw[List.getElem?_set_ne (Ne.symm (d.ne s.nd e he))];exact s.at_ e (d.sub.mem he)
 own e he:=s.own e (d.sub.mem he)
 nd:=(d.sub.map _).nodup s.nd
def inI (n:Int):Prop:=-9223372036854775808≤n∧n≤9223372036854775807
theorem tV {n:Int}(h:-9223372036854775808≤n∧n≤9223372036854775807):IntKind.i64.wrap n=n:=IntWalk.i64_in n h
variable {K:AV→Prop}
theorem ee {op:BinOp}{x y r:Value}(e:cp op x y=some r) (k:K (.lit r)):ah op (.lit x) (.lit y) K:=⟨by simp only[y8,e];exact k⟩
theorem aH {a b:Int}(h:-9223372036854775808≤a+b∧a+b≤9223372036854775807) (k:K (I (a+b))):ah .add (I a) (I b) K:=ee (by simp only[cp,gj,if_true,tV h]) k
theorem dD {a b:Int}(h:-9223372036854775808≤a-b∧a-b≤9223372036854775807) (k:K (I (a-b))):ah .sub (I a) (I b) K:=ee (by simp only[cp,gj,if_true,tV h]) k
theorem xm {a b:Int}(h:-9223372036854775808≤a*b∧a*b≤9223372036854775807) (k:K (I (a*b))):ah .mul (I a) (I b) K:=ee (by simp only[cp,gj,if_true,tV h]) k
theorem pa {kd:IntKind}{a b:Int}(h:b≠0) (k:K (.lit (.int kd (a.tmod b)))):ah .rem (.lit (.int kd a)) (.lit (.int kd b)) K:=ee (by simp only[cp,gj,if_true,if_neg h]) k
theorem mi {a b:Int}(h:b≠0) (h1:-9223372036854775808≤a.tdiv b∧a.tdiv b≤9223372036854775807) (k:K (I (a.tdiv b))):ah .quo (I a) (I b) K:=ee (by simp only[cp,gj,if_true,if_neg h,tV h1]) k
theorem LA {kd:IntKind}{a b:Int}(k:K (.lit (.int kd (kd.wrap (a-b))))):ah .sub (.lit (.int kd a)) (.lit (.int kd b)) K:=ee (by simp only[cp,gj,if_true]) k
theorem SD {kd:IntKind}{a b:Int}(k:K (.lit (.int kd (kd.wrap (a*b))))):ah .mul (.lit (.int kd a)) (.lit (.int kd b)) K:=ee (by simp only[cp,gj,if_true]) k
theorem mM {kd:IntKind}{a b:Int}(k:K (.lit (.int kd (kd.wrap ((BitVec.ofInt kd.bits a &&& BitVec.ofInt kd.bits b).toNat:Int))))):ah .and (.lit (.int kd a)) (.lit (.int kd b)) K:=ee (by simp only[cp,gj,if_true]) k
theorem qY {kd:IntKind}{a b:Int}(k:K (.lit (.int kd (kd.wrap ((BitVec.ofInt kd.bits a ||| BitVec.ofInt kd.bits b).toNat:Int))))):ah .or (.lit (.int kd a)) (.lit (.int kd b)) K:=ee (by simp only[cp,gj,if_true]) k
theorem iJ {kd kb:IntKind}{a b:Int}(h:0≤b) (k:K (.lit (.int kd (kd.wrap (a*2^(min b.toNat kd.bits)))))):ah .shl (.lit (.int kd a)) (.lit (.int kb b)) K:=ee (by simp only[cp,if_neg (show ¬ b<0 by omega)]) k
theorem sb {kd kb:IntKind}{a b:Int}(h:0≤b) (k:K (.lit (.int kd (a.fdiv (2^(min b.toNat kd.bits)))))):ah .shr (.lit (.int kd a)) (.lit (.int kb b)) K:=ee (by simp only[cp,if_neg (show ¬ b<0 by omega)]) k
theorem aB {kd:IntKind}{a b:Int}(k:K (B (decide (a=b)))):ah .eql (.lit (.int kd a)) (.lit (.int kd b)) K:=ee (r:=.bool (a==b)) (by simp only[cp,gj,if_true]) (by rw[show (a==b)=decide (a=b) from rfl];exact k)
theorem cE {kd:IntKind}{a b:Int}(k:K (B (decide (a≠b)))):ah .neq (.lit (.int kd a)) (.lit (.int kd b)) K:=ee (r:=.bool (a != b)) (by simp only[cp,gj,if_true]) (by rw[show (a != b)=decide (a≠b) by by_cases h:a=b<;>simp[h]];exact k)
theorem aP {kd:IntKind}{a b:Int}(k:K (B (decide (a<b)))):ah .lss (.lit (.int kd a)) (.lit (.int kd b)) K:=ee (by simp only[cp,gj,if_true]) k
theorem mf {kd:IntKind}{a b:Int}(k:K (B (decide (a≤b)))):ah .leq (.lit (.int kd a)) (.lit (.int kd b)) K:=ee (by simp only[cp,gj,if_true]) k
theorem cO {kd:IntKind}{a b:Int}(k:K (B (decide (b<a)))):ah .gtr (.lit (.int kd a)) (.lit (.int kd b)) K:=ee (by simp only[cp,gj,if_true]) k
theorem cy {kd:IntKind}{a b:Int}(k:K (B (decide (b≤a)))):ah .geq (.lit (.int kd a)) (.lit (.int kd b)) K:=ee (by simp only[cp,gj,if_true]) k
theorem D7 (l:Str):(⟨⟨l⟩⟩:ByteArray).toList=l:=by rw[ByteArray.toList_eq]
theorem bi {l m:Str}(k:K (B (decide (l=m)))):ah .eql (T l) (T m) K:=ee (r:=.bool (l==m)) (by simp only[cp,tG,D7]) (by rw[show (l==m)=decide (l=m) by by_cases h:l=m<;>simp[h]];exact k)
theorem tL {l m:Str}(k:K (B (decide (l≠m)))):ah .neq (T l) (T m) K:=ee (r:=.bool !(l==m)) (by simp only[cp,tG,D7]) (by rw[show (!(l==m))=decide (l≠m) by by_cases h:l=m<;>simp[h]];exact k)
theorem dS {l m:Str}(h:l.length+m.length≤9223372036854775807) (k:K (T (l++m))):ah .add (T l) (T m) K:=ee (r:=.string ⟨⟨l++m⟩⟩) (by
 simp only[cp,tG,ByteArray.size]
 rw[if_neg (by simp[IntKind.max,IntKind.bits,IntKind.signed];omega)]
 congr 2) k
theorem dA {b:Bool}(k:K (B !b)):qUn .not (B b) K:=⟨k⟩
theorem KN {a:Int}(h:-9223372036854775808≤-a∧-a≤9223372036854775807) (k:K (I (-a))):qUn .neg (I a) K:=⟨by simp only[pUn];rw[show (0-a)=-a by omega,tV h];exact k⟩
theorem eG {ks kd:IntKind}{n:Int}(k:K (.lit (.int kd (kd.wrap n)))):cz kd (.lit (.int ks n)) K:=⟨k⟩
theorem AE {kd:IntKind}{a b:Int}(k:K (.lit (.int kd (max a b)))):x3 (.lit (.int kd a)) (.lit (.int kd b)) K:=⟨by
 simp only[y5];rw[show (if b > a then b else a)=max a b by omega];exact k⟩
theorem Lh {kd:IntKind}{a b:Int}(k:K (.lit (.int kd (min a b)))):BE (.lit (.int kd a)) (.lit (.int kd b)) K:=⟨by
 simp only[zu];rw[show (if b<a then b else a)=min a b by omega];exact k⟩
theorem ag {b:Bool}{X Y:Prop}(x:b=true→X) (y:b=false→Y):ifB (B b) X Y:=by
 cases b with
 | true=>exact x rfl
 | false=>exact y rfl
theorem gd {v:AV}{X Y Z:Prop}(k:ifB v X Y) (hv:∃ b,v=B b):AL.ifT v X Y Z:=by
 obtain⟨b,rfl⟩:=hv;exact k
theorem bD {l:Str}(k:K (I (l.length:Nat))):bZ (T l) K:=⟨k⟩
theorem dy {n:Nat}{cs:List AV}(k:K (I (n:Nat))):bh (.snap n cs) K:=⟨k⟩
theorem ep {n:Nat}{cs:List AV}(k:K (I (n:Nat))):bh (.full n cs) K:=⟨k⟩
theorem O6 {i o n z:Nat}(k:K (I (n:Nat))):bh (.sl i o n z) K:=⟨k⟩
theorem ax {i:Nat}{vs:List AV}{a:AV}(e:vs[i]?=some a) (k:K a):am i (.tup vs) K:=⟨by simp only[gw,e];exact k⟩
theorem Ul {l:Str}{i:Nat}(h:i<l.length):bAt ⟨⟨l⟩⟩ (i:Int)=(l[i].toNat:Int):=by
 simp[bAt,h]
theorem fK {l:Str}{i:Int}(h0:0≤i) (h1:i.toNat<l.length) (k:K (U8 l[i.toNat])):aV (T l) (I i) K:=⟨by
 simp only[jg]
 refine⟨⟨h0,by simp[ByteArray.size];omega⟩,?_⟩
 have:=Ul h1
 rw[Int.toNat_of_nonneg h0]at this
 rw[this];exact k⟩
theorem co {l:Str}{i:Nat}(h1:i<l.length) (k:K (U8 l[i])):aV (T l) (I (i:Nat)) K:=fK (by omega) (by simpa using h1) (by simpa using k)
theorem ta (l:Str) (a b:Nat):(⟨⟨l⟩⟩:ByteArray).extract a b=⟨⟨(l.drop a).take (b-a)⟩⟩:=by
 apply ByteArray.ext
 simp[ByteArray.data_extract,List.extract_eq_take_drop]
theorem JI {l:Str}{a b:Int}(h0:0≤a) (h1:a≤b) (h2:b≤l.length) (k:K (T ((l.drop a.toNat).take (b.toNat-a.toNat)))):aM (T l) (some (I a)) (some (I b)) K:=⟨by
 simp only[gN,jl,asI];exact⟨⟨h0,h1,h2⟩,by rw[ta];exact k⟩⟩
theorem mK {l:Str}{b:Int}(h1:0≤b) (h2:b≤l.length) (k:K (T (l.take b.toNat))):aM (T l) none (some (I b)) K:=⟨by
 simp only[gN,jl,asI];exact⟨⟨by omega,h1,h2⟩,by rw[ta];simpa using k⟩⟩
theorem gm {l:Str}{a:Int}(h1:0≤a) (h2:a≤l.length) (k:K (T (l.drop a.toNat))):aM (T l) (some (I a)) none K:=⟨by
 simp only[gN,jl,asI];exact⟨⟨by omega,h2,by simp[ByteArray.size]⟩,by
  rw[ta];simp only[ByteArray.size,Int.toNat_natCast]
  rw[show (⟨l⟩:Array UInt8).size=l.length from rfl,List.take_of_length_le (by simp)];exact k⟩⟩
theorem aq {i o:Nat}(k:K (.ptr i o)):aJ (.ptr i o) K:=⟨k⟩
theorem an {n i o:Nat}(k:K (.ptr i (o+n))):ae n (.ptr i o) K:=⟨k⟩
theorem UO {cs:List AV}{o:Nat}{a:AV}(e:cs[o]?=some a):(cs.drop o).take 1=[a]:=by
 have h:=(List.getElem?_eq_some_iff.1 e).1
 rw[List.drop_eq_getElem_cons h]
 simp[(List.getElem?_eq_some_iff.1 e).2]
theorem aj {i o:Nat}{b:Bool}{cs:List AV}{a:AV}(s:St h0 M h L) (e:(i,b,.cells cs)∈L) (e2:cs[o]?=some a) (k:K a):ai (.ptr i o) h K:=⟨by
 have h:=(List.getElem?_eq_some_iff.1 e2).1
 simp only[kP,pK,s.get e]
 rw[if_pos (by omega),UO e2];exact k⟩
theorem aW {i o n:Nat}{b:Bool}{cs:List AV}(s:St h0 M h L) (e:(i,b,.cells cs)∈L) (e2:o+n≤cs.length) (k:K (.agg ((cs.drop o).take n))):aD n (.ptr i o) h K:=⟨by
 simp only[kS,pK,s.get e,if_pos e2];exact k⟩
theorem aO {zs cs:List AV}{ps:List (Nat×Nat×AV)}(e:Ax zs ps=some cs) (k:K (.agg cs)):au zs ps K:=⟨by simp only[mj,e];exact k⟩
theorem aG {n m:Nat}{vs:List AV}(e:vs.length=n) (e2:(vs.all fun v=>!v.isTup&&v.cells.length==m)=true) (k:K (.full n (vs.flatMap (·.cells)))):ap n m vs K:=⟨⟨⟨e,e2⟩,k⟩⟩
variable {KH:QT}{KS:ab→Prop}
theorem bk {cs:List AV}(s:St h0 M h L) (k:∀ i h',St h0 M h' ((i,true,.cells cs)::L)→KH (.ptr i 0) h'):gR cs h KH:=⟨k _ _ (s.push _)⟩
theorem dF {v:AV}(s:St h0 M h L) (e:v.isTup=false) (k:∀ i h',St h0 M h' ((i,true,.cells v.cells)::L)→KH (.ptr i 0) h'):lP v h KH:=⟨⟨e,k _ _ (s.push _)⟩⟩
theorem SI {v:AV}(s:St h0 M h L) (e:v.isTup=false) (k:∀ i h',St h0 M h' ((i,true,.cells v.cells)::L)→St h [] h' [(i,true,.cells v.cells)]→KH (.ptr i 0) h'):lP v h KH:=⟨⟨e,k _ _ (s.push _) ((St.start h).push _)⟩⟩
theorem aF {i o n:Nat}{cs:List AV}{u:AV}(s:St h0 M h L) (e:Sub L (i,true,.cells cs) L' (i,true,.cells (splice cs o u.cells))) (e1:u.isTup=false) (e2:u.cells.length=n) (e3:u.cells.all AV.one=true) (e4:o+n≤cs.length)
  (k:∀ h',St h0 M h' L'→KS h'):aw n (.ptr i o) u h KS:=⟨by
 simp only[qU,s.get e.mem];exact⟨⟨e1,e2,e3,e4⟩,k _ (s.turn e)⟩⟩
theorem Es {l:Str}(s:St h0 M h L) (k:∀ i h',St h0 M h' ((i,true,.siter ⟨⟨l⟩⟩ 0)::L)→KH (.ptr i 0) h'):qI (T l) h KH:=⟨k _ _ (s.push _)⟩
theorem vz (s:St h0 M h L) (k:∀ i h',St h0 M h' ((i,true,.amap [] 0)::L)→KH (.map i) h'):np h KH:=⟨k _ _ (s.push _)⟩
theorem aR {vs:List AV}{Bd:List AV→ab→(NT)→Prop}(J:Nat→NT) (n:Nat) (h1:J n vs h) (h2:∀ k vs h,J k vs h→Bd vs h fun vs' h'=>∃ m,m<k∧J m vs' h'):bG vs h Bd:=
 ⟨⟨J,⟨n,h1⟩,h2⟩⟩
end
theorem za {p:Prop}[Decidable p]:(decide p=true)=p:=decide_eq_true_eq
theorem zb {p:Prop}[Decidable p]:decide p=false↔¬p:=decide_eq_false_iff_not
theorem zc (b:Bool):((!b)=true)=(b=false):=Bool.not_eq_true' b
theorem zd (b:Bool):((!b)=false)=(b=true):=Bool.not_eq_false' b
theorem ze (b:Bool):(!!b)=b:=Bool.not_not b
theorem zf {a b:Int}:¬a<b↔b≤a:=Int.not_lt
theorem zg {a b:Int}:¬a≤b↔b<a:=Int.not_le
theorem zh {α:Type}(a b:α):(a≠b)=¬(a=b):=ne_eq a b
theorem zi {p:Prop}:¬¬p↔p:=Classical.not_not
theorem zj {n:Nat}:0<(n:Int)↔0<n:=Int.natCast_pos
theorem zk {n m:Nat}:(n:Int)<(m:Int)↔n<m:=Int.ofNat_lt
theorem nle {n m:Nat}(h:Nat.ble n m=true):n≤m:=Nat.le_of_ble_eq_true h
theorem zl {n m:Nat}:(n:Int)≤(m:Int)↔n≤m:=Int.ofNat_le
end
section
variable [Tabs]
section
variable {P:Program}{h0 h h':ab}{M:List Nat}{L L':Own}{K:AV→Prop}{KH:QT}
def Pt (h:ab) (p:AV) (l:List AV):Prop:=
 (∃ i o cs,p=.ptr i o∧h[i]?=some (.cells cs)∧o+l.length≤cs.length∧(cs.drop o).take l.length=l)∨(∃ cs,p=.cptr cs∧l.length≤cs.length∧cs.take l.length=l)
theorem Pt.load {p:AV}{l:List AV}(t:Pt h p l) {n:Nat}(hn:n≤l.length):pK h n p=some (l.take n):=by
 rcases t with ⟨i,o,cs,rfl,e,hl,hc⟩|⟨cs,rfl,hl,hc⟩
 ·simp only[pK,e]
  rw[if_pos (by omega),← hc,List.take_take,Nat.min_eq_left hn]
 ·simp only[pK]
  rw[if_pos (by omega),← hc,List.take_take,Nat.min_eq_left hn]
theorem Fy {p:AV}{l:List AV}{n:Nat}(t:Pt h p l) (hn:n≤l.length) (k:∀ q,Pt h q (l.drop n)→K q):ae n p K:=by
 rcases t with ⟨i,o,cs,rfl,e,hl,hc⟩|⟨cs,rfl,hl,hc⟩
 ·refine⟨k _ (.inl ⟨i,o+n,cs,rfl,e,by simp;omega,?_⟩)⟩
  rw[← hc];simp only[List.length_drop,List.drop_take,List.drop_drop,List.length_take]
  rw[List.take_eq_take_iff];simp
 ·refine⟨k _ (.inr ⟨cs.drop n,rfl,by simp;omega,?_⟩)⟩
  rw[← hc];simp only[List.length_drop,List.drop_take,List.length_take]
  rw[List.take_eq_take_iff];simp
theorem aE {p:AV}{a:AV}{l:List AV}(t:Pt h p (a::l)) (k:K a):ai p h K:=⟨by
 simp only[kP,t.load (n:=1) (by simp)];simpa using k⟩
theorem N7 {p:AV}{l:List AV}{n:Nat}(t:Pt h p l) (hn:n≤l.length) (k:K (.agg (l.take n))):aD n p h K:=⟨by
 simp only[kS,t.load hn];exact k⟩
theorem cb {p:AV}{l:List AV}{n:Nat}(t:Pt h p l) (hn:n=l.length) (k:K (.agg l)):aD n p h K:=N7 t (by omega) (by rw[List.take_of_length_le (by omega)];exact k)
theorem Pt.fr {p:AV}{l:List AV}(t:Pt h p l) (f:Fr [] h h'):Pt h' p l:=by
 rcases t with ⟨i,o,cs,rfl,e,hl,hc⟩|⟨cs,rfl,hl,hc⟩
 ·exact .inl ⟨i,o,cs,rfl,f.get e (by simp),hl,hc⟩
 ·exact .inr ⟨cs,rfl,hl,hc⟩
theorem Pt.nil {p:AV}{l:List AV}(t:Pt h p l) (k:K p):aJ p K:=by
 rcases t with ⟨i,o,cs,rfl,e,hl,hc⟩|⟨cs,rfl,hl,hc⟩
 ·exact⟨k⟩
 ·exact⟨k⟩
def Rd (h:ab) (sz:Nat) (v:AV) (n:Nat) (cs:List AV):Prop:=uC v=true∧da h sz v=some (n,cs)
theorem Rd.len {sz n:Nat}{v:AV}{cs:List AV}(r:Rd h sz v n cs):cs.length=n*sz:=by
 obtain⟨r1,r2⟩:=r
 unfold da at r2
 split at r2
 ·split at r2<;>cases r2;assumption
 ·split at r2<;>cases r2;assumption
 ·split at r2
  ·split at r2
   ·rename_i hh
    cases r2
    obtain⟨_,hh⟩:=hh
    simp;omega
   ·cases r2
  ·cases r2
 ·simp[uC]at r1
 ·cases r2
theorem Rd.snap {sz n:Nat}{cs:List AV}(e:cs.length=n*sz):Rd h sz (.snap n cs) n cs:=⟨rfl,by simp[da,e]⟩
theorem Rd.full {sz n:Nat}{cs:List AV}(e:cs.length=n*sz):Rd h sz (.full n cs) n cs:=⟨rfl,by simp[da,e]⟩
theorem Rd.sl {sz n i o:Nat}{cs:List AV}(e:h[i]?=some (.cells cs)) (hb:o+n*sz≤cs.length):Rd h sz (.sl i o n sz) n ((cs.drop o).take (n*sz)):=⟨rfl,by simp[da,e,hb]⟩
theorem Rd.fr {sz n:Nat}{v:AV}{cs:List AV}(r:Rd h sz v n cs) (f:Fr [] h h'):Rd h' sz v n cs:=by
 obtain⟨r1,r2⟩:=r
 refine⟨r1,?_⟩
 unfold da at r2 ⊢
 split at r2
 ·exact r2
 ·exact r2
 ·split at r2
  ·rename_i e
   simp only[f.get e (by simp)];exact r2
  ·cases r2
 ·exact r2
 ·cases r2
theorem mX {sz n:Nat}{v:AV}{cs:List AV}(r:Rd h sz v n cs) (k:K (I (n:Nat))):bh v K:=by
 obtain⟨r1,r2⟩:=r
 unfold da at r2
 split at r2
 ·split at r2<;>cases r2;exact⟨k⟩
 ·split at r2<;>cases r2;exact⟨k⟩
 ·split at r2
  ·split at r2<;>cases r2;exact⟨k⟩
  ·cases r2
 ·simp[uC]at r1
 ·cases r2
theorem wR {sz n:Nat}{v:AV}{cs:List AV}(r:Rd h sz v n cs) {j:Nat}(hj:j<n) (k:∀ p,Pt h p ((cs.drop (j*sz)).take sz)→K p):ao sz v (I (j:Nat)) K:=by
 have hl:=r.len
 have hm:(j+1)*sz≤n*sz:=Nat.mul_le_mul_right _ hj
 rw[Nat.add_mul,Nat.one_mul]at hm
 have hlen:((cs.drop (j*sz)).take sz).length=sz:=by simp;omega
 obtain⟨r1,r2⟩:=r
 refine⟨?_⟩
 simp only[dB,asI,Int.toNat_natCast]
 unfold da at r2
 split at r2
 ·split at r2<;>cases r2
  refine⟨⟨by omega,by omega⟩,k _ (.inr ⟨_,rfl,by rw[hlen];simp;omega,by rw[hlen]⟩)⟩
 ·split at r2<;>cases r2
  refine⟨⟨by omega,by omega⟩,k _ (.inr ⟨_,rfl,by rw[hlen];simp;omega,by rw[hlen]⟩)⟩
 ·split at r2
  ·rename_i e
   split at r2
   ·rename_i hh
    cases r2
    obtain⟨rfl,hh⟩:=hh
    refine⟨⟨by omega,by omega,rfl⟩,k _ (.inl ⟨_,_,_,rfl,e,by rw[hlen];omega,?_⟩)⟩
    rw[hlen,List.drop_take,List.take_take,List.drop_drop]
    rw[List.take_eq_take_iff];simp;omega
   ·cases r2
  ·cases r2
 ·simp[uC]at r1
 ·cases r2
theorem LH {α:Type}(enc:α→List AV) (sz:Nat) (hs:∀ x,(enc x).length=sz):∀ (l:List α) (j:Nat) (hj:j<l.length),((l.flatMap enc).drop (j*sz)).take sz=enc l[j]
 | [],j,hj=>by simp at hj
 | x::l,0,hj=>by simp[hs,List.take_left' (hs x)]
 | x::l,j+1,hj=>by
   have ih:=LH enc sz hs l j (by simpa using hj)
   rw[List.flatMap_cons,show (j+1)*sz=(enc x).length+j*sz by rw[hs,Nat.add_mul];omega,List.drop_append,List.drop_of_length_le (by omega)]
   simpa using ih
theorem gu {α:Type}(enc:α→List AV) (sz:Nat) (hs:∀ x,(enc x).length=sz):∀ (l:List α),(l.flatMap enc).length=l.length*sz
 | []=>by simp
 | x::l=>by rw[List.flatMap_cons,List.length_append,hs,gu enc sz hs l,List.length_cons,Nat.add_mul];omega
def Row {α:Type}(enc:α→List AV) (sz:Nat) (h:ab) (v:AV) (l:List α):Prop:=Rd h sz v l.length (l.flatMap enc)
theorem Row.fr {α:Type}{enc:α→List AV}{sz:Nat}{v:AV}{l:List α}(r:Row enc sz h v l) (f:Fr [] h h'):Row enc sz h' v l:=Rd.fr r f
theorem Row.len {α:Type}{enc:α→List AV}{sz:Nat}{v:AV}{l:List α}(r:Row enc sz h v l) (k:K (I (l.length:Nat))):bh v K:=mX r k
theorem Row.idx {α:Type}{enc:α→List AV}{sz:Nat}{v:AV}{l:List α}(r:Row enc sz h v l) (hs:∀ x,(enc x).length=sz) {j:Nat}(hj:j<l.length) (k:∀ p,Pt h p (enc l[j])→K p):ao sz v (I (j:Nat)) K:=
 wR r hj (by rw[LH enc sz hs];exact k)
theorem Row.snap {α:Type}{enc:α→List AV}{sz:Nat}(hs:∀ x,(enc x).length=sz) (l:List α):Row enc sz h (.snap l.length (l.flatMap enc)) l:=Rd.snap (gu enc sz hs l)
theorem Row.full {α:Type}{enc:α→List AV}{sz:Nat}(hs:∀ x,(enc x).length=sz) (l:List α):Row enc sz h (.full l.length (l.flatMap enc)) l:=Rd.full (gu enc sz hs l)
theorem Row.nil {α:Type}{enc:α→List AV}{sz:Nat}:Row enc sz h (.full 0 []) ([]:List α):=⟨rfl,by simp[da]⟩
theorem Row.sl {α:Type}{enc:α→List AV}{sz i:Nat}(hs:∀ x,(enc x).length=sz) {l:List α}(e:h[i]?=some (.cells (l.flatMap enc))):Row enc sz h (.sl i 0 l.length sz) l:=by
 have:=Rd.sl (sz:=sz) (n:=l.length) (o:=0) e (by rw[gu enc sz hs];omega)
 rwa [List.drop_zero,List.take_of_length_le (by rw[gu enc sz hs];omega)]at this
theorem ov {sz bytes n:Nat}{x:AV}{cs:List AV}(s:St h0 M h L) (r:Rd h sz x n cs) (hb:n*bytes≤1099511627776) (k0:n=0→KH (.full 0 []) h) (k1:∀ i h',0<n→St h0 M h' ((i,true,.cells cs)::L)→KH (.sl i 0 n sz) h'):
  bL sz bytes (.full 0 []) x h KH:=⟨by
 simp only[jT,r.2]
 refine⟨⟨by simp,by simpa using hb⟩,?_⟩
 split
 ·exact k0 ‹_›
 ·have:=k1 h.length (h++[.cells cs]) (by omega) (s.push _)
  simpa using this⟩
theorem Sd {sz bytes n m i:Nat}{x:AV}{az cs:List AV}(s:St h0 M h L) (r:Rd h sz x m cs) (u:Del L (i,true,.cells az) L') (h1:cs.all AV.one=true) (hl:n*sz=az.length) (hb:(n+m)*bytes≤1099511627776)
  (k1:∀ j h',St h0 M h' ((j,true,.cells (az++cs))::L')→KH (.sl j 0 (n+m) sz) h'):bL sz bytes (.sl i 0 n sz) x h KH:=⟨by
 simp only[jT,r.2,s.get u.mem,List.drop_zero]
 have:=k1 (h.set i .dead).length _ ((s.kill u).push (.cells (az++cs)))
 rw[List.length_set]at this
 exact⟨⟨trivial,by omega,h1,hb⟩,this⟩⟩
theorem wt {bytes l c:Nat}{z:AV}(s:St h0 M h L) (h1:l≤c) (h2:bytes*c≤1099511627776) (h3:c≤1099511627776) (k:∀ i h',St h0 M h' ((i,true,.cells (List.replicate c z))::L)→KH (.sl i 0 l 1) h'):jq bytes z (I (l:Nat)) (I (c:Nat)) h KH:=⟨by
 simp only[fY,Int.toNat_natCast]
 exact⟨⟨by omega,by omega,by omega,by omega⟩,k _ _ (s.push _)⟩⟩
theorem zU {sz i n:Nat}{j:Nat}(hj:j<n) (k:K (.ptr i (j*sz))):ao sz (.sl i 0 n sz) (I (j:Nat)) K:=⟨by
 simp only[dB,asI,Int.toNat_natCast,Nat.zero_add]
 exact⟨⟨by omega,by omega,trivial⟩,k⟩⟩
theorem O2 {sz i n:Nat}{b:Int}(h0:0≤b) (h1:b≤n) (k:K (.sl i 0 b.toNat sz)):lC sz (.sl i 0 n sz) none (some (I b)) K:=⟨by
 simp only[gK,jl,asI]
 refine⟨⟨by omega,h0,h1,trivial⟩,?_⟩
 simpa using k⟩
theorem mN {Q:QT}{j n sz:Nat}{cs:List AV}(e:h[j]?=some (.cells cs)) (hl:cs.length=n*sz) (k:Q (.snap n cs) (h.set j .dead)):∃ r2 h2,Conv (.sl j 0 n sz) h r2 h2∧Q r2 h2:=by
 refine⟨_,_,.frz j cs e (.refl _ _),?_⟩
 simp only[fz]
 rw[if_pos ⟨trivial,by omega⟩,List.drop_zero,List.take_of_length_le (by omega)]
 exact k
theorem dT {Q:QT}{n:Nat}{cs:List AV}(k:Q (.snap n cs) h):∃ r2 h2,Conv (.full n cs) h r2 h2∧Q r2 h2:=⟨_,_,.wk (.full _ _) (.refl _ _),k⟩
theorem wB {Q:QT}{r:AV}(k:Q r h):∃ r2 h2,Conv r h r2 h2∧Q r2 h2:=⟨_,_,.refl _ _,k⟩
theorem mZ {sz n:Nat}{v:AV}{cs:List AV}(r:Rd h sz v n cs) (k0:n=0→K (B true)) (k1:K (B false)):j7 .eql v K:=by
 obtain⟨r1,r2⟩:=r
 unfold da at r2
 refine⟨?_⟩
 split at r2
 ·split at r2<;>cases r2
  simp only[lA];split
  ·exact⟨k0 ‹_›,k1⟩
  ·exact k1
 ·split at r2<;>cases r2
  simp only[lA];split
  ·exact⟨k0 ‹_›,k1⟩
  ·exact k1
 ·exact k1
 ·simp[uC]at r1
 ·cases r2
noncomputable def LX (Bd:List AV→ab→(NT)→Prop):Nat→NT:=
 WellFounded.fix (C:=fun _=>NT) Nat.lt_wfRel.wf fun n ih vs h=>Bd vs h fun vs' h'=>∃ m,∃ hm:m<n,ih m hm vs' h'
theorem TC (Bd:List AV→ab→(NT)→Prop) (n:Nat) (vs:List AV) (h:ab):LX Bd n vs h=Bd vs h fun vs' h'=>∃ m,∃ _:m<n,LX Bd m vs' h':=by
 conv=>lhs;unfold LX
 rw[WellFounded.fix_eq]
 rfl
theorem uT {Bd:List AV→ab→(NT)→Prop}{n:Nat}{vs:List AV}(k:Bd vs h fun vs' h'=>∃ m,∃ _:m<n,LX Bd m vs' h'):LX Bd n vs h:=by rw[TC];exact k
theorem oF {Bd:List AV→ab→(NT)→Prop}{n:Nat}{vs:List AV}(k:LX Bd n vs h):∃ m,∃ _:m<n+1,LX Bd m vs h:=⟨n,by omega,k⟩
theorem G9 {Bd:List AV→ab→(NT)→Prop}{vs:List AV}(n:Nat) (k:LX Bd n vs h):bG vs h Bd:=
 ⟨⟨fun n vs h=>LX Bd n vs h,⟨n,k⟩,fun n vs h k=>by
   have k:LX Bd n vs h:=k
   rw[TC]at k
   have:(fun (vs':List AV) (h':ab)=>∃ m,∃ _:m<n,LX Bd m vs' h')=fun vs' h'=>∃ m,m<n∧LX Bd m vs' h':=by
    funext vs' h';simp
   rw[this]at k;exact k⟩⟩
def eY {α:Type}(p:α→Bool) (l:List α):Int:=match l.findIdx? p with|some i=>(i:Int)|none=>-1
theorem jv {α:Type}{p:α→Bool}{l:List α}{i:Nat}(hi:i<l.length) (h:p l[i]=true) (hn:∀ j (hj:j<i),p (l[j]'(by omega))=false):eY p l=i:=by
 have:l.findIdx? p=some i:=by
  rw[List.findIdx?_eq_some_iff_getElem]
  exact⟨hi,h,fun j hj=>by simp[hn j hj]⟩
 simp[eY,this]
theorem gg {α:Type}{p:α→Bool}{l:List α}(hn:∀ j (hj:j<l.length),p l[j]=false):eY p l=-1:=by
 have:l.findIdx? p=none:=by
  rw[List.findIdx?_eq_none_iff]
  intro x hx
  obtain⟨j,hj,rfl⟩:=List.getElem_of_mem hx
  exact hn j hj
 simp[eY,this]
theorem wn {α:Type}(p:α→Bool) (l:List α):(0≤eY p l)↔l.any p=true:=by
 unfold eY
 cases h:l.findIdx? p with
 | none=>
   rw[List.findIdx?_eq_none_iff]at h
   simp only[List.any_eq_true]
   constructor
   ·intro h;omega
   ·rintro ⟨x,hx,hp⟩;rw[h x hx]at hp;cases hp
 | some i=>
   rw[List.findIdx?_eq_some_iff_getElem]at h
   obtain⟨hi,hp,_⟩:=h
   simp only[List.any_eq_true]
   exact⟨fun _=>⟨l[i],by simp,hp⟩,fun _=>by omega⟩
