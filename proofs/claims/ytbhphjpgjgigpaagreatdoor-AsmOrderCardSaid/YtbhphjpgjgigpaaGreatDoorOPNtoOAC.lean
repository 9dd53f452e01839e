import Derived.Test.YtbhphjpgjgigpaaGreatDoorAR5toGN5
import Derived.Test.YtbhphjpgjgigpaaGreatDoorAL32toAL34
import Derived.Deep.Slices
import Derived.Deep.Fields
import Derived.Lib.SmallJoins
import Derived.Test.YtbhphjpgjgigpaaGreatDoorAA11toSC
import Derived.Test.YtbhphjpgjgigpaaGreatDoorFLtoAR4
import Derived.Test.YtbhphjpgjgigpaaGreatDoorGN6toW4C
set_option linter.all false
set_option autoImplicit true
set_option relaxedAutoImplicit true
set_option maxRecDepth 100000
namespace Go.Proofs.YtbhphjpgjgigpaaGreatDoor.AL
noncomputable section
section
open Go Go.ChangeShapes Go.WideShapes Go.RowKit Go.Deep
section
variable [Tabs]
variable {H:Type}{enc:TypeId×Value→H}{P:Program}{W:World}
theorem RepAt.app {G:Gh}{b:Nat}:∀ {az bs:List AV}{o:Nat},RepAt G az b o→RepAt G bs b (o+az.length)→RepAt G (az++bs) b o
 | [],bs,o,_,h=>by simpa using h
 | a::az,bs,o,h1,h2=>by
   simp only[RepAt]at h1
   simp only[List.cons_append,RepAt]
   exact⟨h1.1,h1.2.app (by rw[List.length_cons]at h2;rwa [show o+1+az.length=o+(az.length+1) by omega])⟩
theorem MN {G:Gh}{az:List AV}{vs:List Value}{b o:Nat}(h:RepL G az vs) (hc:∀ j v,vs[j]?=some v→G.F b (o+j)=some v):RepAt G az b o:=
 ja fun j a e=>by
  obtain⟨v,h1,h2⟩:=h.at j a e
  exact⟨v,hc j v h1,h2⟩
theorem Fv {α:Type}{f:α→List AV}{sz:Nat}{G:Gh}{b:Nat}(hs:∀ x,(f x).length=sz):∀ (l:List α) (o:Nat),(∀ (i:Nat) (hi:i<l.length),∃ vs:List Value,RepL G (f l[i]) vs∧∀ j v,vs[j]?=some v→G.F b (o+i*sz+j)=some v)→RepAt G (l.flatMap f) b o
 | [],o,_=>by simp[RepAt]
 | x::l,o,h=>by
   rw[List.flatMap_cons]
   refine RepAt.app ?_ ?_
   ·obtain⟨vs,h1,h2⟩:=h 0 (by simp)
    exact MN h1 fun j v e=>by simpa using h2 j v e
   ·rw[hs]
    refine Fv hs l _ fun i hi=>?_
    obtain⟨vs,h1,h2⟩:=h (i+1) (by simpa using hi)
    refine⟨vs,by simpa using h1,fun j v e=>?_⟩
    have:=h2 j v e
    rwa [show o+(i+1)*sz+j=o+sz+i*sz+j by rw[Nat.add_mul];omega]at this
theorem Tz {a:Addr}{v:Value}(h:W.cell? a=some v):a.spot=none:=by
 unfold World.cell? at h
 split at h
 ·split at h
  ·cases h
  ·rename_i hs;simpa using hs
 ·cases h
theorem xx {α:Type}{f:α→List AV}{good:α→Prop}{t e:TypeId}{sz n:Nat}{cs:List Value}{x:DataW H×List MemPlace}(ht:P.underlying t=some (.slice e)) (hc:P.cellsOf e=sz) (hz:0<sz) (hs:∀ x,(f x).length=sz)
  (elem:∀ n',n'<n→∀ cs y,DataW.trod enc P W 0 (fun _=>true) true n' e cs=some y→∃ a:α,good a∧RepL (G0 W) (f a) cs) (h:DataW.trod enc P W 0 (fun _=>true) true n t cs=some x):
  ∃ l:List α,(∀ a∈l,good a)∧l.length≤maxLen∧∃ v,cs=[v]∧Rep (G0 W) (.snap l.length (l.flatMap f)) v:=by
 rcases DataW.trod_slice ht h with ⟨rfl,_⟩|⟨a,len,cap,elems,rest,n',hn,rfl,_,hb,hl,hm,hlen,hel,hsp,_⟩
 ·exact⟨[],by simp,Nat.zero_le _,_,rfl,by simp[Rep]⟩
 have hsp:=hsp rfl
 rw[hc]at hsp hel
 have one:∀ i,i<len→∃ y cs',W.cells? 0 (a.add (i*sz)) sz=some cs'∧DataW.trod enc P W 0 (fun _=>true) true n' e cs'=some y:=fun i hi=>by
  have:=hel i hi
  rw[List.getElem?_eq_getElem (by omega)]at this
  obtain⟨cs',h1,h2⟩:=Option.bind_eq_some_iff.1 this
  exact⟨_,cs',h1,h2⟩
 have hspot:0<cap→a.spot=none:=fun h0=>by
  have:∃ cs',W.cells? 0 (a.add 0) sz=some cs':=by
   by_cases h1:0<len
   ·obtain⟨y,cs',h2,_⟩:=one 0 h1
    rw[Nat.zero_mul]at h2
    exact⟨cs',h2⟩
   ·have hl0:len=0:=by omega
    subst hl0
    have:=hsp.2 0 (by omega)
    rw[List.getElem?_eq_getElem (by rw[hsp.1];omega)]at this
    obtain⟨cs',h1,h2⟩:=Option.bind_eq_some_iff.1 this
    simp at h1
    exact⟨cs',h1⟩
  obtain⟨cs',h1⟩:=this
  obtain⟨_,h2,h3⟩:=World.cells?_some h1
  have h4:=h3 0 hz
  rw[List.getElem?_eq_getElem (by omega)]at h4
  have:=Tz h4
  simpa [Addr.add] using this
 by_cases h0:cap=0
 ·subst h0
  have:len=0:=by omega
  subst this
  exact⟨[],by simp,Nat.zero_le _,_,rfl,by simp[Rep]⟩
 have hs0:=hspot (by omega)
 obtain⟨b,o,sp⟩:=a
 simp only at hs0
 subst hs0
 have all:∀ k,k≤len→∃ l:List α,l.length=k∧(∀ a∈l,good a)∧∀ (i:Nat) (hi:i<l.length),∃ vs:List Value,RepL (G0 W) (f l[i]) vs∧∀ j v,vs[j]?=some v→(G0 W).F b (o+i*sz+j)=some v:=fun k=>by
  induction k with
  | zero=>exact fun _=>⟨[],rfl,by simp,fun i hi=>by simp at hi⟩
  | succ k ih=>
    intro hk
    obtain⟨l,h1,h2,h3⟩:=ih (by omega)
    obtain⟨y,cs',h4,h5⟩:=one k (by omega)
    obtain⟨x,hx,hr⟩:=elem n' (by omega) cs' y h5
    refine⟨l++[x],by simp[h1],fun a ha=>?_,fun i hi=>?_⟩
    ·rcases List.mem_append.1 ha with ha|ha
     ·exact h2 a ha
     ·simp at ha;subst ha;exact hx
    ·by_cases hik:i<l.length
     ·rw[List.getElem_append_left hik];exact h3 i hik
     ·have:i=k:=by simp at hi;omega
      subst this
      refine⟨cs',by rw[List.getElem_append_right (by omega)];simpa [h1] using hr,fun j v e=>?_⟩
      obtain⟨_,h6,h7⟩:=World.cells?_some h4
      have hj:j<sz:=by have:=(List.getElem?_eq_some_iff.1 e).1;omega
      have:=h7 j hj
      rw[e,dF,dF]at this
      exact this
 obtain⟨l,h1,h2,h3⟩:=all len (Nat.le_refl _)
 refine⟨l,h2,by omega,_,rfl,?_⟩
 simp only[Rep]
 rw[h1]
 exact .inr ⟨b,o,cap,hl,rfl,Fv hs l o h3⟩
theorem ee {f:Field}{cs:List Value}{i:Nat}(h:f.offset=i∧P.cellsOf f.type=1) {v:Value}(hv:cs[i]?=some v):(cs.drop f.offset).take (P.cellsOf f.type)=[v]:=by
 rw[h.1,h.2]
 rw[List.drop_eq_getElem_cons (List.getElem?_eq_some_iff.1 hv).1]
 simp[(List.getElem?_eq_some_iff.1 hv).2]
theorem XU {tS tE:TypeId}{f0 f1 f2:Field}(hS:P.underlying tS=some (.slice tE)) (hE:P.underlying tE=some (.struct #[f0,f1,f2])) (hone:oneCellFields P #[f0,f1,f2]=true) (hC:P.cellsOf tE=3)
  (h0:P.underlying f0.type=some (.int .i64)) (h1:P.underlying f1.type=some (.int .i64)) (h2:f2.type=tS):∀ (n:Nat) (cs:List Value) (x:DataW H×List MemPlace),DataW.trod enc P W 0 (fun _=>true) true n tS cs=some x→
  ∃ l:List RE,(∀ r∈l,okR r)∧l.length≤maxLen∧∃ v,cs=[v]∧Rep (G0 W) (.snap l.length (l.flatMap xrE)) v:=by
 intro n
 induction n using Nat.strongRecOn with
 | ind n ih=>
   intro cs x h
   refine xx hS hC (by decide) ul (fun n' hn cs y hy=>?_) h
   obtain⟨xs,m,hm,_,hl,hlen,hf⟩:=DataW.trod_struct hE hy
   have hon:=hone_of hone
   rw[hC]at hl
   match cs,hl with
   | [v0,v1,v2],_=>
     have e0:=hf 0 f0 rfl
     have e1:=hf 1 f1 rfl
     have e2:=hf 2 f2 rfl
     rw[ee (hon 0 f0 rfl) (v:=v0) rfl,List.getElem?_eq_getElem (by rw[hlen];simp)]at e0
     rw[ee (hon 1 f1 rfl) (v:=v1) rfl,List.getElem?_eq_getElem (by rw[hlen];simp)]at e1
     rw[ee (hon 2 f2 rfl) (v:=v2) rfl,List.getElem?_eq_getElem (by rw[hlen];simp),h2]at e2
     obtain⟨k,hk,_,wk⟩:=DataW.trod_int h0 e0
     obtain⟨q,hq,_,wq⟩:=DataW.trod_int h1 e1
     obtain⟨l,hl1,hl2,v,hv,hr⟩:=ih m (by omega) _ _ e2
     simp at hk hq hv
     subst hk hq hv
     simp only[Lit.wf,Bool.and_eq_true,decide_eq_true_eq]at wk wq
     refine⟨.mk k q l,?_,?_⟩
     ·simp only[okR]
      refine⟨wk,wq,Nat.le_trans hl2 (by decide),?_⟩
      clear hr hl2 e2 h
      induction l with
      | nil=>simp[DS]
      | cons a l ih2=>simp only[DS];exact⟨hl1 a (.head _),ih2 fun r hr=>hl1 r (.tail _ hr)⟩
     ·simp only[xrE,JM,RepL]
      exact⟨_,_,rfl,by simp[Rep,Value.oneCell'],_,_,rfl,by simp[Rep,Value.oneCell'],_,_,rfl,hr,rfl⟩
theorem y9 {tS tE:TypeId}{f0 f1 f2 f3 f4 f5:Field}{tI tX tY:TypeId}{g0 g1 g2:Field}{n:Nat}{cs:List Value}{x:DataW H×List MemPlace}(hS:P.underlying tS=some (.slice tE)) (hE:P.underlying tE=some (.struct #[f0,f1,f2,f3,f4,f5])) (hone:oneCellFields P #[f0,f1,f2,f3,f4,f5]=true) (hC:P.cellsOf tE=6)
  (h0:P.underlying f0.type=some (.int .i64)) (h1:P.underlying f1.type=some (.int .i64)) (h2:P.underlying f2.type=some (.int .i64)) (h3:P.underlying f3.type=some (.slice tI)) (hI:P.underlying tI=some (.int .i64)) (cI:P.cellsOf tI=1) (h4:f4.type=tX) (h5:P.underlying f5.type=some .bool)
  (hX:P.underlying tX=some (.slice tY)) (hY:P.underlying tY=some (.struct #[g0,g1,g2])) (hone2:oneCellFields P #[g0,g1,g2]=true) (hC2:P.cellsOf tY=3) (k0:P.underlying g0.type=some (.int .i64)) (k1:P.underlying g1.type=some (.int .i64)) (k2:g2.type=tX)
  (h:DataW.trod enc P W 0 (fun _=>true) true n tS cs=some x):
  ∃ l:List RW,(∀ r∈l,okW r)∧l.length≤maxLen∧∃ v,cs=[v]∧Rep (G0 W) (.snap l.length (l.flatMap rwE)) v:=by
 exact xx (good:=okW) hS hC (by decide) tH (fun n' hn cs y hy=>by
  obtain⟨xs,m,hm,_,hl,hlen,hf⟩:=DataW.trod_struct hE hy
  have hon:=hone_of hone
  rw[hC]at hl
  match cs,hl with
  | [v0,v1,v2,v3,v4,v5],_=>
    have e0:=hf 0 f0 rfl
    have e1:=hf 1 f1 rfl
    have e2:=hf 2 f2 rfl
    have e3:=hf 3 f3 rfl
    have e4:=hf 4 f4 rfl
    have e5:=hf 5 f5 rfl
    rw[ee (hon 0 f0 rfl) (v:=v0) rfl,List.getElem?_eq_getElem (by rw[hlen];simp)]at e0
    rw[ee (hon 1 f1 rfl) (v:=v1) rfl,List.getElem?_eq_getElem (by rw[hlen];simp)]at e1
    rw[ee (hon 2 f2 rfl) (v:=v2) rfl,List.getElem?_eq_getElem (by rw[hlen];simp)]at e2
    rw[ee (hon 3 f3 rfl) (v:=v3) rfl,List.getElem?_eq_getElem (by rw[hlen];simp)]at e3
    rw[ee (hon 4 f4 rfl) (v:=v4) rfl,List.getElem?_eq_getElem (by rw[hlen];simp),h4]at e4
    rw[ee (hon 5 f5 rfl) (v:=v5) rfl,List.getElem?_eq_getElem (by rw[hlen];simp)]at e5
    obtain⟨k,hk,_,wk⟩:=DataW.trod_int h0 e0
    obtain⟨q,hq,_,wq⟩:=DataW.trod_int h1 e1
    obtain⟨p,hp,_,wp⟩:=DataW.trod_int h2 e2
    obtain⟨ns,hn1,hn2,u,hu,hru⟩:=xx (f:=fun n:Int=>[I n]) (good:=inI) h3 cI (by decide) (fun _=>rfl) (fun n' _ cs y hy=>by
     obtain⟨z,rfl,_,wz⟩:=DataW.trod_int hI hy
     simp only[Lit.wf,Bool.and_eq_true,decide_eq_true_eq]at wz
     exact⟨z,wz,by simp[RepL,Rep,Value.oneCell']⟩) e3
    obtain⟨xl,hx1,hx2,w,hw,hrw⟩:=XU hX hY hone2 hC2 k0 k1 k2 _ _ _ e4
    obtain⟨bb,hb,_⟩:=DataW.trod_bool h5 e5
    simp at hk hq hp hu hw hb
    subst hk hq hp hu hw hb
    simp only[Lit.wf,Bool.and_eq_true,decide_eq_true_eq]at wk wq wp
    refine⟨⟨k,q,p,ns,xl,bb⟩,⟨wk,wq,wp,hn1,Nat.le_trans hn2 (by decide),Nat.le_trans hx2 (by decide),?_⟩,?_⟩
    ·clear hrw hx2 e4
     induction xl with
     | nil=>simp[DS]
     | cons a l ih2=>simp only[DS];exact⟨hx1 a (.head _),ih2 fun r hr=>hx1 r (.tail _ hr)⟩
    ·simp only[rwE,JM,RepL]
     exact⟨_,_,rfl,by simp[Rep,Value.oneCell'],_,_,rfl,by simp[Rep,Value.oneCell'],_,_,rfl,by simp[Rep,Value.oneCell'],_,_,rfl,hru,_,_,rfl,hrw,_,_,rfl,by simp[Rep,Value.oneCell'],rfl⟩) h
end
end
section
open Go Go.ChangeShapes Go.WideShapes Go.RowKit Go.Deep
section
variable [Tabs]
variable {H:Type}{enc:TypeId×Value→H}{P:Program}{W:World}
theorem EO {tI tN:TypeId}{n:Nat}{cs:List Value}{x:DataW H×List MemPlace}(h3:P.underlying tN=some (.slice tI)) (hI:P.underlying tI=some (.int .i64)) (cI:P.cellsOf tI=1) (h:DataW.trod enc P W 0 (fun _=>true) true n tN cs=some x):
  ∃ l:List Int,(∀ r∈l,inI r)∧l.length≤maxLen∧∃ v,cs=[v]∧Rep (G0 W) (.snap l.length (l.flatMap fun n=>[I n])) v:=
 xx (f:=fun n:Int=>[I n]) (good:=inI) h3 cI (by decide) (fun _=>rfl) (fun n' _ cs y hy=>by
  obtain⟨z,rfl,_,wz⟩:=DataW.trod_int hI hy
  simp only[Lit.wf,Bool.and_eq_true,decide_eq_true_eq]at wz
  exact⟨z,wz,by simp[RepL,Rep,Value.oneCell']⟩) h
theorem P0 {tZ:TypeId}{z0 z1 z2 z3 z4:Field}{tN:TypeId}{tS tE:TypeId}{f0 f1 f2 f3 f4 f5:Field}{tI tX tY:TypeId}{g0 g1 g2:Field}{r:Reach}{b0:Nat}{v:Value}{d:DataW H}{ps:List MemPlace}(hZ:P.underlying tZ=some (.struct #[z0,z1,z2,z3,z4])) (honeZ:oneCellFields P #[z0,z1,z2,z3,z4]=true) (hCZ:P.cellsOf tZ=5)
  (y0:z0.type=tS) (y1:z1.type=tS) (y2:z2.type=tS) (y3:z3.type=tN) (y4:z4.type=tN) (hN:P.underlying tN=some (.slice tI))
  (hS:P.underlying tS=some (.slice tE)) (hE:P.underlying tE=some (.struct #[f0,f1,f2,f3,f4,f5])) (hone:oneCellFields P #[f0,f1,f2,f3,f4,f5]=true) (hC:P.cellsOf tE=6)
  (h0:P.underlying f0.type=some (.int .i64)) (h1:P.underlying f1.type=some (.int .i64)) (h2:P.underlying f2.type=some (.int .i64)) (h3:P.underlying f3.type=some (.slice tI)) (hI:P.underlying tI=some (.int .i64)) (cI:P.cellsOf tI=1) (h4:f4.type=tX) (h5:P.underlying f5.type=some .bool)
  (hX:P.underlying tX=some (.slice tY)) (hY:P.underlying tY=some (.struct #[g0,g1,g2])) (hone2:oneCellFields P #[g0,g1,g2]=true) (hC2:P.cellsOf tY=3) (k0:P.underlying g0.type=some (.int .i64)) (k1:P.underlying g1.type=some (.int .i64)) (k2:g2.type=tX)
  (hval:Value.okWide P W r b0 tZ v) (hd:DataW.Trod enc P W 0 (fun _=>true) true tZ v d ps):
  ∃ (A B C:List RW) (ns ys:List Int),((∀ r∈A,okW r)∧(∀ r∈B,okW r)∧(∀ r∈C,okW r)∧(∀ n∈ns,inI n)∧(∀ n∈ys,inI n))∧(A.length≤maxLen∧B.length≤maxLen∧C.length≤maxLen∧ns.length≤maxLen∧ys.length≤maxLen)∧
    Rep (G0 W) (.agg [.snap A.length (A.flatMap rwE),.snap B.length (B.flatMap rwE),.snap C.length (C.flatMap rwE),.snap ns.length (ns.flatMap fun n=>[I n]),.snap ys.length (ys.flatMap fun n=>[I n])]) v:=by
 obtain⟨cs,rfl,hsz⟩:=okWide_struct hZ hval
 obtain⟨n,h⟩:=hd
 obtain⟨xs,m,hm,_,hl,hlen,hf⟩:=DataW.trod_struct hZ h
 have hon:=hone_of honeZ
 have hl:cs.toList.length=5:=by simpa [hCZ] using hsz
 have hcs:cs=cs.toList.toArray:=by simp
 generalize cs.toList=l5 at hl hcs
 subst hcs
 match l5,hl with
 | [v0,v1,v2,v3,v4],_=>
   have e0:=hf 0 z0 rfl
   have e1:=hf 1 z1 rfl
   have e2:=hf 2 z2 rfl
   have e3:=hf 3 z3 rfl
   have e4:=hf 4 z4 rfl
   simp only[Value.cells]at e0 e1 e2 e3 e4
   rw[ee (hon 0 z0 rfl) (v:=v0) rfl,List.getElem?_eq_getElem (by rw[hlen];simp),y0]at e0
   rw[ee (hon 1 z1 rfl) (v:=v1) rfl,List.getElem?_eq_getElem (by rw[hlen];simp),y1]at e1
   rw[ee (hon 2 z2 rfl) (v:=v2) rfl,List.getElem?_eq_getElem (by rw[hlen];simp),y2]at e2
   rw[ee (hon 3 z3 rfl) (v:=v3) rfl,List.getElem?_eq_getElem (by rw[hlen];simp),y3]at e3
   rw[ee (hon 4 z4 rfl) (v:=v4) rfl,List.getElem?_eq_getElem (by rw[hlen];simp),y4]at e4
   obtain⟨A,a1,a2,u0,p0,q0⟩:=y9 hS hE hone hC h0 h1 h2 h3 hI cI h4 h5 hX hY hone2 hC2 k0 k1 k2 e0
   obtain⟨B,b1,b2,u1,p1,q1⟩:=y9 hS hE hone hC h0 h1 h2 h3 hI cI h4 h5 hX hY hone2 hC2 k0 k1 k2 e1
   obtain⟨C,c1,c2,u2,p2,q2⟩:=y9 hS hE hone hC h0 h1 h2 h3 hI cI h4 h5 hX hY hone2 hC2 k0 k1 k2 e2
   obtain⟨ns,n1,n2,u3,p3,q3⟩:=EO hN hI cI e3
   obtain⟨ys,m1,m2,u4,p4,q4⟩:=EO hN hI cI e4
   simp at p0 p1 p2 p3 p4
   subst p0 p1 p2 p3 p4
   refine⟨A,B,C,ns,ys,⟨a1,b1,c1,n1,m1⟩,⟨a2,b2,c2,n2,m2⟩,?_⟩
   simp only[Rep,RepL]
   exact⟨_,rfl,_,_,rfl,by simpa [Rep] using q0,_,_,rfl,by simpa [Rep] using q1,_,_,rfl,by simpa [Rep] using q2,_,_,rfl,by simpa [Rep] using q3,_,_,rfl,by simpa [Rep] using q4,rfl⟩
end
end
section
variable [Tabs5]
theorem GD {l1 l2 l3:List RW}{ns ys:List Int}(w:(∀ r∈l1,okW r)∧(∀ r∈l2,okW r)∧(∀ r∈l3,okW r)∧(∀ n∈ns,inI n)∧(∀ n∈ys,inI n)) (z:l1.length≤maxLen∧l2.length≤maxLen∧l3.length≤maxLen∧ns.length≤maxLen∧ys.length≤maxLen) {h:ae}{Q:QT}(k:∀ h',Q (B true) h'):
  C mN [.agg [.snap l1.length (l1.flatMap rwE),.snap l2.length (l2.flatMap rwE),.snap l3.length (l3.flatMap rwE),.snap ns.length (ns.flatMap fun n=>[I n]),.snap ys.length (ys.flatMap fun n=>[I n])]] h Q:=by
 obtain⟨z1,z2,z3,z4,z5⟩:=z
 have m:maxLen≤9223372036854775807:=by decide
 exact TD (s:=⟨l1,l2,l3,ns,ys⟩) (fun h Q q=>Hq NA So U0 Se q) NA So U0 Se W8 Yh ⟨w,Nat.le_trans z1 m,Nat.le_trans z2 m,Nat.le_trans z3 m,Nat.le_trans z4 m,Nat.le_trans z5 m⟩ k
end
end
end Go.Proofs.YtbhphjpgjgigpaaGreatDoor.AL
