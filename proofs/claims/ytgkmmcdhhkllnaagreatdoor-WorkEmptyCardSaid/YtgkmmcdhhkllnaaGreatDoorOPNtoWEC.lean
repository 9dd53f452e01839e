import Derived.Test.YtgkmmcdhhkllnaaGreatDoorAR3toW4C
import Derived.Test.YtgkmmcdhhkllnaaGreatDoorAL32toAL34
import Derived.Deep.Slices
import Derived.Deep.Fields
import Derived.Test.YtgkmmcdhhkllnaaGreatDoorAI4toKS9
import Derived.Test.YtgkmmcdhhkllnaaGreatDoorAA8toAR2
set_option linter.all false
set_option autoImplicit true
set_option relaxedAutoImplicit true
set_option maxRecDepth 100000
namespace Go.Proofs.YtgkmmcdhhkllnaaGreatDoor.AL
noncomputable section
section
open Go Go.ChangeShapes Go.WideShapes Go.RowKit Go.Deep
section
variable [Tabs]
variable {H:Type}{enc:TypeId×Value→H}{P:Program}{W:World}
theorem RepAt.app {G:Gh}{b:Nat}:∀ {az bs:List AV}{o:Nat},RepAt G az b o→RepAt G bs b (o+az.length)→RepAt G (az++bs) b o
 | [],bs,o,_,h=>by simpa using h
 | a::az,bs,o,h1,h2=>by
   simp only[RepAt]at h1
   simp only[List.cons_append,RepAt]
   exact⟨h1.1,h1.2.app (by rw[List.length_cons]at h2;rwa [show o+1+az.length=o+(az.length+1) by omega])⟩
theorem Qw {G:Gh}{az:List AV}{vs:List Value}{b o:Nat}(h:RepL G az vs) (hc:∀ j v,vs[j]?=some v→G.F b (o+j)=some v):RepAt G az b o:=
 jK fun j a e=>by
  obtain⟨v,h1,h2⟩:=h.at j a e
  exact⟨v,hc j v h1,h2⟩
theorem Gu {α:Type}{f:α→List AV}{sz:Nat}{G:Gh}{b:Nat}(hs:∀ x,(f x).length=sz):∀ (l:List α) (o:Nat),(∀ (i:Nat) (hi:i<l.length),∃ vs:List Value,RepL G (f l[i]) vs∧∀ j v,vs[j]?=some v→G.F b (o+i*sz+j)=some v)→RepAt G (l.flatMap f) b o
 | [],o,_=>by simp[RepAt]
 | x::l,o,h=>by
   rw[List.flatMap_cons]
   refine RepAt.app ?_ ?_
   ·obtain⟨vs,h1,h2⟩:=h 0 (by simp)
    exact Qw h1 fun j v e=>by simpa using h2 j v e
   ·rw[hs]
    refine Gu hs l _ fun i hi=>?_
    obtain⟨vs,h1,h2⟩:=h (i+1) (by simpa using hi)
    refine⟨vs,by simpa using h1,fun j v e=>?_⟩
    have:=h2 j v e
    rwa [show o+(i+1)*sz+j=o+sz+i*sz+j by rw[Nat.add_mul];omega]at this
theorem UF {a:Addr}{v:Value}(h:W.cell? a=some v):a.spot=none:=by
 unfold World.cell? at h
 split at h
 ·split at h
  ·cases h
  ·rename_i hs;simpa using hs
 ·cases h
theorem Di {α:Type}{f:α→List AV}{good:α→Prop}{t e:TypeId}{sz n:Nat}{cs:List Value}{x:DataW H×List MemPlace}(ht:P.underlying t=some (.slice e)) (hc:P.cellsOf e=sz) (hz:0<sz) (hs:∀ x,(f x).length=sz)
  (elem:∀ n',n'<n→∀ cs y,DataW.trod enc P W 0 (fun _=>true) true n' e cs=some y→∃ a:α,good a∧RepL (G0 W) (f a) cs) (h:DataW.trod enc P W 0 (fun _=>true) true n t cs=some x):
  ∃ l:List α,(∀ a∈l,good a)∧l.length≤maxLen∧∃ v,cs=[v]∧Rep (G0 W) (.snap l.length (l.flatMap f)) v:=by
 rcases DataW.trod_slice ht h with ⟨rfl,_⟩|⟨a,len,cap,elems,rest,n',hn,rfl,_,hb,hl,hm,hlen,hel,hsp,_⟩
 ·exact⟨[],by simp,Nat.zero_le _,_,rfl,by simp[Rep]⟩
 have hsp:=hsp rfl
 rw[hc]at hsp hel
 have one:∀ i,i<len→∃ y cs',W.cells? 0 (a.add (i*sz)) sz=some cs'∧DataW.trod enc P W 0 (fun _=>true) true n' e cs'=some y:=fun i hi=>by
  have:=hel i hi
  rw[List.getElem?_eq_getElem (by omega)]at this
  obtain⟨cs',h1,h2⟩:=Option.bind_eq_some_iff.1 this
  exact⟨_,cs',h1,h2⟩
 have hspot:0<cap→a.spot=none:=fun h0=>by
  have:∃ cs',W.cells? 0 (a.add 0) sz=some cs':=by
   by_cases h1:0<len
   ·obtain⟨y,cs',h2,_⟩:=one 0 h1
    rw[Nat.zero_mul]at h2
    exact⟨cs',h2⟩
   ·have hl0:len=0:=by omega
    subst hl0
    have:=hsp.2 0 (by omega)
    rw[List.getElem?_eq_getElem (by rw[hsp.1];omega)]at this
    obtain⟨cs',h1,h2⟩:=Option.bind_eq_some_iff.1 this
    simp at h1
    exact⟨cs',h1⟩
  obtain⟨cs',h1⟩:=this
  obtain⟨_,h2,h3⟩:=World.cells?_some h1
  have h4:=h3 0 hz
  rw[List.getElem?_eq_getElem (by omega)]at h4
  have:=UF h4
  simpa [Addr.add] using this
 by_cases h0:cap=0
 ·subst h0
  have:len=0:=by omega
  subst this
  exact⟨[],by simp,Nat.zero_le _,_,rfl,by simp[Rep]⟩
 have hs0:=hspot (by omega)
 obtain⟨b,o,sp⟩:=a
 simp only at hs0
 subst hs0
 have all:∀ k,k≤len→∃ l:List α,l.length=k∧(∀ a∈l,good a)∧∀ (i:Nat) (hi:i<l.length),∃ vs:List Value,RepL (G0 W) (f l[i]) vs∧∀ j v,vs[j]?=some v→(G0 W).F b (o+i*sz+j)=some v:=fun k=>by
  induction k with
  | zero=>exact fun _=>⟨[],rfl,by simp,fun i hi=>by simp at hi⟩
  | succ k ih=>
    intro hk
    obtain⟨l,h1,h2,h3⟩:=ih (by omega)
    obtain⟨y,cs',h4,h5⟩:=one k (by omega)
    obtain⟨x,hx,hr⟩:=elem n' (by omega) cs' y h5
    refine⟨l++[x],by simp[h1],fun a ha=>?_,fun i hi=>?_⟩
    ·rcases List.mem_append.1 ha with ha|ha
     ·exact h2 a ha
     ·simp at ha;subst ha;exact hx
    ·by_cases hik:i<l.length
     ·rw[List.getElem_append_left hik];exact h3 i hik
     ·have:i=k:=by simp at hi;omega
      subst this
      refine⟨cs',by rw[List.getElem_append_right (by omega)];simpa [h1] using hr,fun j v e=>?_⟩
      obtain⟨_,h6,h7⟩:=World.cells?_some h4
      have hj:j<sz:=by have:=(List.getElem?_eq_some_iff.1 e).1;omega
      have:=h7 j hj
      rw[e,dK,dK]at this
      exact this
 obtain⟨l,h1,h2,h3⟩:=all len (Nat.le_refl _)
 refine⟨l,h2,by omega,_,rfl,?_⟩
 simp only[Rep]
 rw[h1]
 exact .inr ⟨b,o,cap,hl,rfl,Gu hs l o h3⟩
theorem kr {f:Field}{cs:List Value}{i:Nat}(h:f.offset=i∧P.cellsOf f.type=1) {v:Value}(hv:cs[i]?=some v):(cs.drop f.offset).take (P.cellsOf f.type)=[v]:=by
 rw[h.1,h.2]
 rw[List.drop_eq_getElem_cons (List.getElem?_eq_some_iff.1 hv).1]
 simp[(List.getElem?_eq_some_iff.1 hv).2]
theorem YW {tS tE:TypeId}{f0 f1 f2:Field}(hS:P.underlying tS=some (.slice tE)) (hE:P.underlying tE=some (.struct #[f0,f1,f2])) (hone:oneCellFields P #[f0,f1,f2]=true) (hC:P.cellsOf tE=3)
  (h0:P.underlying f0.type=some (.int .i64)) (h1:P.underlying f1.type=some (.int .i64)) (h2:f2.type=tS):∀ (n:Nat) (cs:List Value) (x:DataW H×List MemPlace),DataW.trod enc P W 0 (fun _=>true) true n tS cs=some x→
  ∃ l:List RE,(∀ r∈l,okR r)∧l.length≤maxLen∧∃ v,cs=[v]∧Rep (G0 W) (.snap l.length (l.flatMap xrE)) v:=by
 intro n
 induction n using Nat.strongRecOn with
 | ind n ih=>
   intro cs x h
   refine Di hS hC (by decide) uS (fun n' hn cs y hy=>?_) h
   obtain⟨xs,m,hm,_,hl,hlen,hf⟩:=DataW.trod_struct hE hy
   have hon:=hone_of hone
   rw[hC]at hl
   match cs,hl with
   | [v0,v1,v2],_=>
     have e0:=hf 0 f0 rfl
     have e1:=hf 1 f1 rfl
     have e2:=hf 2 f2 rfl
     rw[kr (hon 0 f0 rfl) (v:=v0) rfl,List.getElem?_eq_getElem (by rw[hlen];simp)]at e0
     rw[kr (hon 1 f1 rfl) (v:=v1) rfl,List.getElem?_eq_getElem (by rw[hlen];simp)]at e1
     rw[kr (hon 2 f2 rfl) (v:=v2) rfl,List.getElem?_eq_getElem (by rw[hlen];simp),h2]at e2
     obtain⟨k,hk,_,wk⟩:=DataW.trod_int h0 e0
     obtain⟨q,hq,_,wq⟩:=DataW.trod_int h1 e1
     obtain⟨l,hl1,hl2,v,hv,hr⟩:=ih m (by omega) _ _ e2
     simp at hk hq hv
     subst hk hq hv
     simp only[Lit.wf,Bool.and_eq_true,decide_eq_true_eq]at wk wq
     refine⟨.mk k q l,?_,?_⟩
     ·simp only[okR]
      refine⟨wk,wq,Nat.le_trans hl2 (by decide),?_⟩
      clear hr hl2 e2 h
      induction l with
      | nil=>simp[Fu]
      | cons a l ih2=>simp only[Fu];exact⟨hl1 a (.head _),ih2 fun r hr=>hl1 r (.tail _ hr)⟩
     ·simp only[xrE,L4,RepL]
      exact⟨_,_,rfl,by simp[Rep,Value.oneCell'],_,_,rfl,by simp[Rep,Value.oneCell'],_,_,rfl,hr,rfl⟩
theorem S7 {tS tE:TypeId}{f0 f1 f2 f3 f4 f5:Field}{tI tX tY:TypeId}{g0 g1 g2:Field}{n:Nat}{cs:List Value}{x:DataW H×List MemPlace}(hS:P.underlying tS=some (.slice tE)) (hE:P.underlying tE=some (.struct #[f0,f1,f2,f3,f4,f5])) (hone:oneCellFields P #[f0,f1,f2,f3,f4,f5]=true) (hC:P.cellsOf tE=6)
  (h0:P.underlying f0.type=some (.int .i64)) (h1:P.underlying f1.type=some (.int .i64)) (h2:P.underlying f2.type=some (.int .i64)) (h3:P.underlying f3.type=some (.slice tI)) (hI:P.underlying tI=some (.int .i64)) (cI:P.cellsOf tI=1) (h4:f4.type=tX) (h5:P.underlying f5.type=some .bool)
  (hX:P.underlying tX=some (.slice tY)) (hY:P.underlying tY=some (.struct #[g0,g1,g2])) (hone2:oneCellFields P #[g0,g1,g2]=true) (hC2:P.cellsOf tY=3) (k0:P.underlying g0.type=some (.int .i64)) (k1:P.underlying g1.type=some (.int .i64)) (k2:g2.type=tX)
  (h:DataW.trod enc P W 0 (fun _=>true) true n tS cs=some x):
  ∃ l:List RW,(∀ r∈l,okW r)∧l.length≤maxLen∧∃ v,cs=[v]∧Rep (G0 W) (.snap l.length (l.flatMap rwE)) v:=by
 exact Di (good:=okW) hS hC (by decide) rK (fun n' hn cs y hy=>by
  obtain⟨xs,m,hm,_,hl,hlen,hf⟩:=DataW.trod_struct hE hy
  have hon:=hone_of hone
  rw[hC]at hl
  match cs,hl with
  | [v0,v1,v2,v3,v4,v5],_=>
    have e0:=hf 0 f0 rfl
    have e1:=hf 1 f1 rfl
    have e2:=hf 2 f2 rfl
    have e3:=hf 3 f3 rfl
    have e4:=hf 4 f4 rfl
    have e5:=hf 5 f5 rfl
    rw[kr (hon 0 f0 rfl) (v:=v0) rfl,List.getElem?_eq_getElem (by rw[hlen];simp)]at e0
    rw[kr (hon 1 f1 rfl) (v:=v1) rfl,List.getElem?_eq_getElem (by rw[hlen];simp)]at e1
    rw[kr (hon 2 f2 rfl) (v:=v2) rfl,List.getElem?_eq_getElem (by rw[hlen];simp)]at e2
    rw[kr (hon 3 f3 rfl) (v:=v3) rfl,List.getElem?_eq_getElem (by rw[hlen];simp)]at e3
    rw[kr (hon 4 f4 rfl) (v:=v4) rfl,List.getElem?_eq_getElem (by rw[hlen];simp),h4]at e4
    rw[kr (hon 5 f5 rfl) (v:=v5) rfl,List.getElem?_eq_getElem (by rw[hlen];simp)]at e5
    obtain⟨k,hk,_,wk⟩:=DataW.trod_int h0 e0
    obtain⟨q,hq,_,wq⟩:=DataW.trod_int h1 e1
    obtain⟨p,hp,_,wp⟩:=DataW.trod_int h2 e2
    obtain⟨ns,hn1,hn2,u,hu,hru⟩:=Di (f:=fun n:Int=>[I n]) (good:=inI) h3 cI (by decide) (fun _=>rfl) (fun n' _ cs y hy=>by
     obtain⟨z,rfl,_,wz⟩:=DataW.trod_int hI hy
     simp only[Lit.wf,Bool.and_eq_true,decide_eq_true_eq]at wz
     exact⟨z,wz,by simp[RepL,Rep,Value.oneCell']⟩) e3
    obtain⟨xl,hx1,hx2,w,hw,hrw⟩:=YW hX hY hone2 hC2 k0 k1 k2 _ _ _ e4
    obtain⟨bb,hb,_⟩:=DataW.trod_bool h5 e5
    simp at hk hq hp hu hw hb
    subst hk hq hp hu hw hb
    simp only[Lit.wf,Bool.and_eq_true,decide_eq_true_eq]at wk wq wp
    refine⟨⟨k,q,p,ns,xl,bb⟩,⟨wk,wq,wp,hn1,Nat.le_trans hn2 (by decide),Nat.le_trans hx2 (by decide),?_⟩,?_⟩
    ·clear hrw hx2 e4
     induction xl with
     | nil=>simp[Fu]
     | cons a l ih2=>simp only[Fu];exact⟨hx1 a (.head _),ih2 fun r hr=>hx1 r (.tail _ hr)⟩
    ·simp only[rwE,L4,RepL]
     exact⟨_,_,rfl,by simp[Rep,Value.oneCell'],_,_,rfl,by simp[Rep,Value.oneCell'],_,_,rfl,by simp[Rep,Value.oneCell'],_,_,rfl,hru,_,_,rfl,hrw,_,_,rfl,by simp[Rep,Value.oneCell'],rfl⟩) h
theorem U7 {tS tE:TypeId}{f0 f1 f2 f3 f4 f5:Field}{tI tX tY:TypeId}{g0 g1 g2:Field}{r:Reach}{b0:Nat}{v:Value}{d:DataW H}{ps:List MemPlace}(hS:P.underlying tS=some (.slice tE)) (hE:P.underlying tE=some (.struct #[f0,f1,f2,f3,f4,f5])) (hone:oneCellFields P #[f0,f1,f2,f3,f4,f5]=true) (hC:P.cellsOf tE=6)
  (h0:P.underlying f0.type=some (.int .i64)) (h1:P.underlying f1.type=some (.int .i64)) (h2:P.underlying f2.type=some (.int .i64)) (h3:P.underlying f3.type=some (.slice tI)) (hI:P.underlying tI=some (.int .i64)) (cI:P.cellsOf tI=1) (h4:f4.type=tX) (h5:P.underlying f5.type=some .bool)
  (hX:P.underlying tX=some (.slice tY)) (hY:P.underlying tY=some (.struct #[g0,g1,g2])) (hone2:oneCellFields P #[g0,g1,g2]=true) (hC2:P.cellsOf tY=3) (k0:P.underlying g0.type=some (.int .i64)) (k1:P.underlying g1.type=some (.int .i64)) (k2:g2.type=tX)
  (hval:Value.okWide P W r b0 tS v) (hd:DataW.Trod enc P W 0 (fun _=>true) true tS v d ps):
  ∃ l:List RW,(∀ r∈l,okW r)∧l.length≤maxLen∧Rep (G0 W) (.snap l.length (l.flatMap rwE)) v:=by
 obtain⟨a,len,cap,rfl⟩:=okWide_slice hS hval
 obtain⟨n,h⟩:=hd
 obtain⟨l,g1,g2,v,hv,hr⟩:=S7 hS hE hone hC h0 h1 h2 h3 hI cI h4 h5 hX hY hone2 hC2 k0 k1 k2 h
 simp[Value.cells]at hv
 subst hv
 exact⟨l,g1,g2,hr⟩
end
end
section
variable [Tabs5]
theorem FH {ns:List Int}(z:ns.length≤maxLen) (w:∀ x∈ns,(Lit.int .i64 x).wf=true) {l:List RW}(hl:l.length≤maxLen) (ho:∀ r∈l,okW r) {h:ae}{Q:QT}(k:∀ h',Q (B true) h'):C mH [.snap ns.length (ns.map fun n=>.lit (.int .i64 n)),.snap l.length (l.flatMap rwE)] h Q:=by
 have e:∀ ns:List Int,(ns.map fun n=>AV.lit (.int .i64 n))=ns.flatMap fun n=>[I n]:=fun ns=>by
  induction ns with
  | nil=>rfl
  | cons a l ih=>simp[ih]
 rw[e]
 exact SO ack Zr abm ab9 aah adt ZO ZZ (fun x hx=>by have:=w x hx;simp only[Lit.wf,Bool.and_eq_true,decide_eq_true_eq]at this;exact this) (Nat.le_trans hl (by decide)) ho k
