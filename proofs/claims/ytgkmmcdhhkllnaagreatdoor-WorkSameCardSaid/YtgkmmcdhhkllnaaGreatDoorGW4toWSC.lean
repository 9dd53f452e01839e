import Derived.Test.YtgkmmcdhhkllnaaGreatDoorAR3toGW3
import Derived.Test.YtgkmmcdhhkllnaaGreatDoorAA8toAR2
import Derived.Test.YtgkmmcdhhkllnaaGreatDoorAL32toAL34
import Derived.Deep.Slices
import Derived.Deep.Fields
import Derived.Test.YtgkmmcdhhkllnaaGreatDoorAI4toKS9
set_option linter.all false
set_option autoImplicit true
set_option relaxedAutoImplicit true
set_option maxRecDepth 100000
namespace Go.Proofs.YtgkmmcdhhkllnaaGreatDoor.AL
noncomputable section
section
section
variable [Tabs]
variable {h0 h:ae}{M:List Nat}{L R:Own}{K:AV→Prop}{Q:QT}{i:Nat}{w:WkM}
structure adG (w:WkM) (r:Rq) (e:Int) (t:Str) (a b:AV) (la lb:Nat):Prop where
 eq:Ga w r=[I e,T t,a,b]
 one:(a.one&&b.one)=true
 lenA:∀ K:AV→Prop,K (I (la:Nat))→aV a K
 lenB:∀ K:AV→Prop,K (I (lb:Nat))→aV b K
 same:e≠0→doG w r=w
 text:t≠[]→r.kind=4∧e=0
 image:0<la→r.kind=7∧e=0
 diags:0<lb↔e=14
 errs:e=14→r.kind=7
theorem aae (w:WkM) {r:Rq}(hr:iz r=true):∃ e t a b la lb,adG w r e t a b la lb:=by
 by_cases h7:r.kind=7
 ·by_cases hd:kJ w.f w.s=[]
  ·refine⟨0,[],.snap (vN w.f w.s).length ((vN w.f w.s).flatMap bE),.full 0 [],(vN w.f w.s).length,0,?_,rfl,fun K k=>cA k,fun K k=>ej k,fun h=>absurd rfl h,fun h=>absurd rfl h,fun _=>⟨h7,rfl⟩,⟨fun h=>by omega,fun h=>by cases h⟩,fun h=>by cases h⟩
   unfold Ga wF;rw[if_pos h7,if_pos hd]
  ·refine⟨14,[],.full 0 [],.snap (kJ w.f w.s).length ((kJ w.f w.s).flatMap dE),0,(kJ w.f w.s).length,?_,rfl,fun K k=>ej k,fun K k=>cA k,fun h=>?_,fun h=>absurd rfl h,fun h=>by omega,⟨fun _=>rfl,fun _=>List.length_pos_iff.2 hd⟩,fun _=>h7⟩
   ·unfold Ga wF;rw[if_pos h7,if_neg hd]
   ·unfold doG;rw[if_pos h7]
 ·have key:∃ e t,(doW w r).2.1=e∧(doW w r).2.2=t∧e≠14∧(e≠0→(doW w r).1=w)∧(t≠[]→r.kind=4∧e=0):=by
   refine⟨_,_,rfl,rfl,?_⟩
   unfold doW
   rw[if_neg (by simp[hr])]
   unfold HU NF MW BF CM Mj uU
   repeat' split
   all_goals (refine⟨by simp,fun h=>?_,fun h=>?_⟩<;>simp_all)
  obtain⟨e,t,h1,h2,h3,h4,h5⟩:=key
  refine⟨e,t,.full 0 [],.full 0 [],0,0,?_,rfl,fun K k=>ej k,fun K k=>ej k,fun h=>?_,h5,fun h=>by omega,⟨fun h=>by omega,fun h=>absurd h h3⟩,fun h=>absurd h h3⟩
  ·unfold Ga;rw[if_neg h7,h1,h2]
  ·unfold doG;rw[if_neg h7];exact h4 h
theorem ac8 (w:WkM) (r:Rq) (h:5≤r.kind):(doG w r).f=w.f:=by
 unfold doG
 split
 ·rfl
 ·unfold doW
  split
  ·rfl
  ·unfold HU
   rw[if_neg (by omega),if_neg (by omega),if_neg (by omega),if_neg (by omega)]
   unfold Mj uU
   repeat' split
   all_goals rfl
theorem V0 {r:Rq}(hr:iz r=true):1≤r.kind:=by
 by_cases h:r.kind<1
 ·unfold iz at hr;rw[if_pos (.inl h)]at hr;cases hr
 ·omega
theorem adm (w:WkM) {r:Rq}(hr:iz r=true) (h:r.kind<5):(doG w r).s=w.s:=by
 unfold doG
 rw[if_neg (by omega)]
 unfold doW
 split
 ·rfl
 ·unfold HU NF MW BF CM
  rw[if_neg (show ¬ r.kind=5 by omega)]
  split
  ·split<;>rfl
  ·split
   ·split<;>rfl
   ·split
    ·split
     ·rfl
     ·split<;>rfl
    ·split
     ·split<;>rfl
     ·have:=V0 hr
      omega
theorem Mo (x:Str):((⟨⟨x⟩⟩:ByteArray)==⟨⟨x⟩⟩)=true:=by
 show ((⟨x⟩:Array UInt8)==⟨x⟩)=true
 simp
theorem NP {l:List Fg}{v1 v2:AV}(hl:l.length≤1000000) (r1:Row frE 2 h v1 l) (r2:Row frE 2 h v2 l) (k:Q (B true) h):C qn [v1,v2] h Q:=by
 refine Nu _ _ _ _ ?_
 unfold Kq
 refine r1.len (r2.len (cc (ah (fun hb=>absurd rfl (of_decide_eq_true hb)) (fun _=>?_))))
 refine aO (fun n vs h'=>∃ (j:Nat) (x:AV),vs=[x,I (j:Nat)]∧n+j=l.length∧h'=h) l.length ⟨0,_,rfl,by omega,rfl⟩ ?_
 rintro n vs h' ⟨j,x,rfl,hn,rfl⟩
 unfold BQ
 refine r1.len (aJ (ah (fun hb=>?_) (fun _=>k)))
 have hj:j<l.length:=by have:=of_decide_eq_true hb;omega
 refine r1.idx (fun _=>rfl) hj fun p t=>?_
 refine bd t rfl ?_
 refine r2.idx (fun _=>rfl) hj fun p t=>?_
 refine bd t rfl ?_
 refine RU (b:=true) ?_ ?_
 ·simp only[frE,mR,VI];simp
  exact⟨Mo _,Mo _⟩
 simp only[po]
 refine ah (fun h=>by cases h) (fun _=>?_)
 ·refine aI (by omega) ?_
  exact⟨n-1,by omega,j+1,_,rfl,by omega,trivial⟩
theorem P0 {l:List Sy}{v1 v2:AV}(hl:l.length≤1000000) (r1:Row syE 2 h v1 l) (r2:Row syE 2 h v2 l) (k:Q (B true) h):C pU [v1,v2] h Q:=by
 refine Np _ _ _ _ ?_
 unfold Kk
 refine r1.len (r2.len (cc (ah (fun hb=>absurd rfl (of_decide_eq_true hb)) (fun _=>?_))))
 refine aO (fun n vs h'=>∃ (j:Nat) (x:AV),vs=[x,I (j:Nat)]∧n+j=l.length∧h'=h) l.length ⟨0,_,rfl,by omega,rfl⟩ ?_
 rintro n vs h' ⟨j,x,rfl,hn,rfl⟩
 unfold Bj
 refine r1.len (aJ (ah (fun hb=>?_) (fun _=>k)))
 have hj:j<l.length:=by have:=of_decide_eq_true hb;omega
 refine r1.idx (fun _=>rfl) hj fun p t=>?_
 refine bd t rfl ?_
 refine r2.idx (fun _=>rfl) hj fun p t=>?_
 refine bd t rfl ?_
 refine RU (b:=true) ?_ ?_
 ·simp only[syE,mR,VI];simp
  exact Mo _
 simp only[po]
 refine ah (fun h=>by cases h) (fun _=>?_)
 ·refine aI (by omega) ?_
  exact⟨n-1,by omega,j+1,_,rfl,by omega,trivial⟩
abbrev rqO (r:Rq):AObj:=.cells (rqL r)
theorem PL {r:Rq}{w2:WkM}{p:Nat}{v32:AV}{nx:ae→Prop}{h1:ae}{j:Nat}{x:AV}{next:NT}(hks:GW) (hr:iz r=true) (ok:WkOk (doG w r)) (hn:w.s.length≤8) (hm:(p,true,rqO r)∈R) (r32:∀ h,Row syE 2 h v32 w.s) (s:WkS h0 M h1 i (doG w r) R) (hj:j<1000)
  (k:∀ h',WkS h0 M h' i (doG w r) R→next [x,I ((j+1:Nat):Int)] h'):kx (.ptr p 0) h1 (.ptr i 0) v32 Q [x,I (j:Nat)] next:=by
 unfold kx
 have nxt:∀ h',WkS h0 M h' i (doG w r) R→ai .add (aq [x,I (j:Nat)] 1) (I 1) fun t28=>next [(aq [x,I (j:Nat)] 0),t28] h':=fun h' s'=>aI (by omega) (k h' s')
 refine aj (GK s hm (a:=I r.kind) rfl (aJ ?_))
 refine pk (ah (fun hb=>?_) (fun _=>nxt _ s)) ⟨_,rfl⟩
 have hk:=of_decide_eq_true hb
 have hs:=adm w hr hk
 refine Cb hks (Nat.le_trans ok.sn (by decide)) (fun x hx=>Nat.le_trans (jK (ok.sw x hx)) (by decide)) s fun h2 s2=>?_
 refine P0 (l:=w.s) (by omega) (by rw[hs];exact Row.snap (enc:=syE) (fun _=>rfl) _) (r32 _) ?_
 exact bi (ah (fun h=>by cases h) (fun _=>nxt _ s2))
theorem X1 {r:Rq}{p:Nat}{v30 v32:AV}{h1:ae}{j:Nat}{x:AV}{next:NT}(hks:GW) (hr:iz r=true) (ok:WkOk (doG w r)) (hn:w.s.length≤8) (hf:w.f.length≤8) (hm:(p,true,rqO r)∈R) (r30:∀ h,Row frE 2 h v30 w.f) (r32:∀ h,Row syE 2 h v32 w.s) (s:WkS h0 M h1 i (doG w r) R) (hj:j<1000)
  (k:∀ h',WkS h0 M h' i (doG w r) R→next [x,I ((j+1:Nat):Int)] h'):ff (.ptr p 0) h1 (.ptr i 0) v30 Q v32 [x,I (j:Nat)] next:=by
 unfold ff
 refine aj (GK s hm (a:=I r.kind) rfl (bz ?_))
 refine ah (fun hb=>?_) (fun _=>PL (nx:=fun _=>True) (w2:=w) hks hr ok hn hm r32 s hj k)
 have hk:=of_decide_eq_true hb
 have hs:=ac8 w r hk
 refine yO hks (Nat.le_trans ok.fn (by decide)) (fun x hx=>Nat.le_trans (jK (ok.fw x hx)) (by decide)) s fun h2 s2=>?_
 refine NP (l:=w.f) (by omega) (by rw[hs];exact Row.snap (enc:=frE) (fun _=>rfl) _) (r30 _) ?_
 exact bi (ah (fun h=>by cases h) (fun _=>PL (nx:=fun _=>True) (w2:=w) hks hr ok hn hm r32 s2 hj k))
theorem W1 (hk:Zy) (hF:cB) (hI:gG) (hA:jS) (hL:dJ) (hks:GW) (hW:ub) (hR:yM) {ns:List Int}(hi:∀ x∈ns,inI x) {l:List RW}(hl:l.length≤9223372036854775807) (ho:∀ r∈l,okW r) (k:∀ h',Q (B true) h'):
  C nG [.snap ns.length (ns.flatMap fun n=>[I n]),.snap l.length (l.flatMap rwE)] h Q:=by
 refine DH _ _ _ _ ?_
 unfold zO
 refine hk _ _ (bi (ah (fun h=>by cases h) (fun _=>?_)))
 refine abh hl ho (Row.snap rM l) (fun hf=>?_) (bi (ah (fun _=>k _) (fun h=>by cases h)))
 have ho:∀ r∈l,okW r∧MH r:=fun r hr=>⟨ho r hr,hf r hr⟩
 refine bi (ah (fun h=>by cases h) (fun _=>?_))
 refine aah (St.start h) fun i hh s=>?_
 refine YF (ah (fun h=>by cases h) (fun _=>?_))
 refine aO (fun n vs h'=>∃ (w:WkM) (j:Nat) (x:AV),vs=[x,I (j:Nat)]∧n+j=41∧WkG w∧WkS h [] h' i w []) 41 ⟨⟨[],[]⟩,0,_,rfl,rfl,.nil,s⟩ ?_
 rintro n vs h1 ⟨w,j,x,rfl,hn,o,s⟩
 unfold rZ
 have RNs:∀ h,Row (fun n:Int=>[I n]) 1 h (.snap ns.length (ns.flatMap fun n=>[I n])) ns:=fun h=>Row.snap (enc:=fun n:Int=>[I n]) (sz:=1) (fun _=>rfl) _
 refine (RNs h1).len (aJ (ah (fun hb=>?_) (fun _=>k _)))
 have hj:j<ns.length:=by have:=of_decide_eq_true hb;omega
 refine aJ (ah (fun hb2=>?_) (fun _=>k _))
 have hj40:j<40:=by have:=of_decide_eq_true hb2;omega
 have fn8:=o.ok.fn
 have sn8:=o.ok.sn
 refine yO hks (Nat.le_trans o.ok.fn (by decide)) (fun x hx=>Nat.le_trans (jK (o.ok.fw x hx)) (by decide)) s fun h2 s2=>?_
 refine Cb hks (Nat.le_trans o.ok.sn (by decide)) (fun x hx=>Nat.le_trans (jK (o.ok.sw x hx)) (by decide)) s2 fun h3 s3=>?_
 have r30:∀ h,Row frE 2 h (.snap w.f.length (w.f.flatMap frE)) w.f:=fun h=>Row.snap (enc:=frE) (fun _=>rfl) _
 have r32:∀ h,Row syE 2 h (.snap w.s.length (w.s.flatMap syE)) w.s:=fun h=>Row.snap (enc:=syE) (fun _=>rfl) _
 refine (RNs h3).idx (fun _=>rfl) hj fun p t=>?_
 refine aK t ?_
 have hm:=cF (a:=ns[j]) (n:=1073741824) (by decide)
 refine mq (by decide) (by decide) (hi _ (List.getElem_mem hj)) ?_
 refine ZB hW hR hm.1 (by omega) ho hl fun r h4 f4 ⟨hr,hnl,htl⟩=>?_
 have s4:=s3.after f4
 refine XB s4 fun p9 h5 s5=>?_
 refine yc (o:=0) (R':=[(p9,true,rqO r)]) s5 .head rfl rfl rfl (nle rfl) fun h6 s6=>?_
 refine CE s6 (.head _) (nle rfl) ?_
 refine abA hF hI hA hL hks hr (by omega) o s6 fun h7 s7=>?_
 have o7:=o.doG r
 obtain⟨e,t,a,b,la,lb,T⟩:=aae w hr
 have ho1:=T.one
 simp only[Bool.and_eq_true]at ho1
 rw[T.eq]
 refine XB s7 fun p10 h8 s8=>?_
 refine yc (o:=0) (R':=[(p10,true,.cells [I e,AL.T t,a,b]),(p9,true,rqO r)]) s8 .head rfl rfl (by show (true&&(true&&(a.one&&(b.one&&true))))=true;rw[ho1.1,ho1.2];rfl) (nle rfl) fun h9 s9=>?_
 refine aj (GK s9 (.head _) (a:=I e) rfl (cc ?_))
 have go:∀ h',WkS h [] h' i (doG w r) [(p10,true,.cells [I e,AL.T t,a,b]),(p9,true,rqO r)]→ff (.ptr p9 0) h' (.ptr i 0) (.snap w.f.length (w.f.flatMap frE)) Q (.snap w.s.length (w.s.flatMap syE)) [x,I (j:Nat)] (fun vs' h'=>∃ m,m<n∧∃ (w:WkM) (j:Nat) (x:AV),vs'=[x,I (j:Nat)]∧m+j=41∧WkG w∧WkS h [] h' i w []):=fun h' s'=>
  X1 hks hr o7.ok sn8 fn8 (.tail _ (.head _)) r30 r32 s' (by omega) fun h'' s''=>by
   obtain⟨jf,js,xf,xs,mf,ms,s''⟩:=s''
   exact⟨n-1,by omega,doG w r,j+1,x,rfl,by omega,o7,jf,js,xf,xs,mf,ms,s''.sub (by exact ((((List.nil_sublist _).cons_cons _).cons_cons _).cons_cons _))⟩
 refine ah (fun hb3=>?_) (fun _=>go _ s9)
 have he:e≠0:=of_decide_eq_true hb3
 have hsame:=T.same he
 refine yO hks (Nat.le_trans o7.ok.fn (by decide)) (fun x hx=>Nat.le_trans (jK (o7.ok.fw x hx)) (by decide)) s9 fun h10 s10=>?_
 refine NP (l:=w.f) (by omega) (by rw[hsame];exact Row.snap (enc:=frE) (fun _=>rfl) _) (r30 _) ?_
 refine bi (pk (ah (fun h=>by cases h) (fun _=>?_)) ⟨_,rfl⟩)
 refine Cb hks (Nat.le_trans o7.ok.sn (by decide)) (fun x hx=>Nat.le_trans (jK (o7.ok.sw x hx)) (by decide)) s10 fun h11 s11=>?_
 refine P0 (l:=w.s) (by omega) (by rw[hsame];exact Row.snap (enc:=syE) (fun _=>rfl) _) (r32 _) ?_
 exact bi (ah (fun h=>by cases h) (fun _=>go _ s11))
end
end
section
theorem Wv [Tabs]:(tbl.all fun r=>Mw Pg tb5 Xn 100 ow [T r.kinds] .leaf 0 fun v t _=>LR (.snap (cV r.kinds).length ((cV r.kinds).flatMap sE)) v t)=true:=by kernel_rfl
theorem Zc [Tabs]:(tbl.all fun r=>(cV r.kinds).all fun k=>Mw Pg tb5 Xn 100 km [T k] .leaf 0 fun v t _=>LR (B (K0 (l7 k))) v t)=true:=by kernel_rfl
theorem abN:∀ l:List Str,clL (l.flatMap sE)=true
 | []=>rfl
 | a::l=>by show (cl (T a)&&clL (l.flatMap sE))=true;rw[abN l];rfl
variable [Tabs5]
theorem Y5:ub:=fun r hr h Q q=>lP Tabs5.tb uh (d:=100) (.snap (cV r.kinds).length ((cV r.kinds).flatMap sE)) rfl (abN _) (List.all_eq_true.1 Wv r hr) q
theorem abr:yM:=fun r hr k hk h Q q=>lP Tabs5.tb uh (d:=100) (B (K0 (l7 k))) rfl rfl (List.all_eq_true.1 (List.all_eq_true.1 Zc r hr) k hk) q
end
section
open Go Go.ChangeShapes Go.WideShapes Go.RowKit Go.Deep
section
variable [Tabs]
variable {H:Type}{enc:TypeId×Value→H}{P:Program}{W:World}
theorem RepAt.app {G:Gh}{b:Nat}:∀ {az bs:List AV}{o:Nat},RepAt G az b o→RepAt G bs b (o+az.length)→RepAt G (az++bs) b o
 | [],bs,o,_,h=>by simpa using h
 | a::az,bs,o,h1,h2=>by
   simp only[RepAt]at h1
   simp only[List.cons_append,RepAt]
   exact⟨h1.1,h1.2.app (by rw[List.length_cons]at h2;rwa [show o+1+az.length=o+(az.length+1) by omega])⟩
theorem NV {G:Gh}{az:List AV}{vs:List Value}{b o:Nat}(h:RepL G az vs) (hc:∀ j v,vs[j]?=some v→G.F b (o+j)=some v):RepAt G az b o:=
 jx fun j a e=>by
  obtain⟨v,h1,h2⟩:=h.at j a e
  exact⟨v,hc j v h1,h2⟩
theorem HI {α:Type}{f:α→List AV}{sz:Nat}{G:Gh}{b:Nat}(hs:∀ x,(f x).length=sz):∀ (l:List α) (o:Nat),(∀ (i:Nat) (hi:i<l.length),∃ vs:List Value,RepL G (f l[i]) vs∧∀ j v,vs[j]?=some v→G.F b (o+i*sz+j)=some v)→RepAt G (l.flatMap f) b o
 | [],o,_=>by simp[RepAt]
 | x::l,o,h=>by
   rw[List.flatMap_cons]
   refine RepAt.app ?_ ?_
   ·obtain⟨vs,h1,h2⟩:=h 0 (by simp)
    exact NV h1 fun j v e=>by simpa using h2 j v e
   ·rw[hs]
    refine HI hs l _ fun i hi=>?_
    obtain⟨vs,h1,h2⟩:=h (i+1) (by simpa using hi)
    refine⟨vs,by simpa using h1,fun j v e=>?_⟩
    have:=h2 j v e
    rwa [show o+(i+1)*sz+j=o+sz+i*sz+j by rw[Nat.add_mul];omega]at this
theorem WO {a:Addr}{v:Value}(h:W.cell? a=some v):a.spot=none:=by
 unfold World.cell? at h
 split at h
 ·split at h
  ·cases h
  ·rename_i hs;simpa using hs
 ·cases h
theorem Dv {α:Type}{f:α→List AV}{good:α→Prop}{t e:TypeId}{sz n:Nat}{cs:List Value}{x:DataW H×List MemPlace}(ht:P.underlying t=some (.slice e)) (hc:P.cellsOf e=sz) (hz:0<sz) (hs:∀ x,(f x).length=sz)
  (elem:∀ n',n'<n→∀ cs y,DataW.trod enc P W 0 (fun _=>true) true n' e cs=some y→∃ a:α,good a∧RepL (G0 W) (f a) cs) (h:DataW.trod enc P W 0 (fun _=>true) true n t cs=some x):
  ∃ l:List α,(∀ a∈l,good a)∧l.length≤maxLen∧∃ v,cs=[v]∧Rep (G0 W) (.snap l.length (l.flatMap f)) v:=by
 rcases DataW.trod_slice ht h with ⟨rfl,_⟩|⟨a,len,cap,elems,rest,n',hn,rfl,_,hb,hl,hm,hlen,hel,hsp,_⟩
 ·exact⟨[],by simp,Nat.zero_le _,_,rfl,by simp[Rep]⟩
 have hsp:=hsp rfl
 rw[hc]at hsp hel
 have one:∀ i,i<len→∃ y cs',W.cells? 0 (a.add (i*sz)) sz=some cs'∧DataW.trod enc P W 0 (fun _=>true) true n' e cs'=some y:=fun i hi=>by
  have:=hel i hi
  rw[List.getElem?_eq_getElem (by omega)]at this
  obtain⟨cs',h1,h2⟩:=Option.bind_eq_some_iff.1 this
  exact⟨_,cs',h1,h2⟩
 have hspot:0<cap→a.spot=none:=fun h0=>by
  have:∃ cs',W.cells? 0 (a.add 0) sz=some cs':=by
   by_cases h1:0<len
   ·obtain⟨y,cs',h2,_⟩:=one 0 h1
    rw[Nat.zero_mul]at h2
    exact⟨cs',h2⟩
   ·have hl0:len=0:=by omega
    subst hl0
    have:=hsp.2 0 (by omega)
    rw[List.getElem?_eq_getElem (by rw[hsp.1];omega)]at this
    obtain⟨cs',h1,h2⟩:=Option.bind_eq_some_iff.1 this
    simp at h1
    exact⟨cs',h1⟩
  obtain⟨cs',h1⟩:=this
  obtain⟨_,h2,h3⟩:=World.cells?_some h1
  have h4:=h3 0 hz
  rw[List.getElem?_eq_getElem (by omega)]at h4
  have:=WO h4
  simpa [Addr.add] using this
 by_cases h0:cap=0
 ·subst h0
  have:len=0:=by omega
  subst this
  exact⟨[],by simp,Nat.zero_le _,_,rfl,by simp[Rep]⟩
 have hs0:=hspot (by omega)
 obtain⟨b,o,sp⟩:=a
 simp only at hs0
 subst hs0
 have all:∀ k,k≤len→∃ l:List α,l.length=k∧(∀ a∈l,good a)∧∀ (i:Nat) (hi:i<l.length),∃ vs:List Value,RepL (G0 W) (f l[i]) vs∧∀ j v,vs[j]?=some v→(G0 W).F b (o+i*sz+j)=some v:=fun k=>by
  induction k with
  | zero=>exact fun _=>⟨[],rfl,by simp,fun i hi=>by simp at hi⟩
  | succ k ih=>
    intro hk
    obtain⟨l,h1,h2,h3⟩:=ih (by omega)
    obtain⟨y,cs',h4,h5⟩:=one k (by omega)
    obtain⟨x,hx,hr⟩:=elem n' (by omega) cs' y h5
    refine⟨l++[x],by simp[h1],fun a ha=>?_,fun i hi=>?_⟩
    ·rcases List.mem_append.1 ha with ha|ha
     ·exact h2 a ha
     ·simp at ha;subst ha;exact hx
    ·by_cases hik:i<l.length
     ·rw[List.getElem_append_left hik];exact h3 i hik
     ·have:i=k:=by simp at hi;omega
      subst this
      refine⟨cs',by rw[List.getElem_append_right (by omega)];simpa [h1] using hr,fun j v e=>?_⟩
      obtain⟨_,h6,h7⟩:=World.cells?_some h4
      have hj:j<sz:=by have:=(List.getElem?_eq_some_iff.1 e).1;omega
      have:=h7 j hj
      rw[e,dL,dL]at this
      exact this
 obtain⟨l,h1,h2,h3⟩:=all len (Nat.le_refl _)
 refine⟨l,h2,by omega,_,rfl,?_⟩
 simp only[Rep]
 rw[h1]
 exact .inr ⟨b,o,cap,hl,rfl,HI hs l o h3⟩
theorem kC {f:Field}{cs:List Value}{i:Nat}(h:f.offset=i∧P.cellsOf f.type=1) {v:Value}(hv:cs[i]?=some v):(cs.drop f.offset).take (P.cellsOf f.type)=[v]:=by
 rw[h.1,h.2]
 rw[List.drop_eq_getElem_cons (List.getElem?_eq_some_iff.1 hv).1]
 simp[(List.getElem?_eq_some_iff.1 hv).2]
theorem Zp {tS tE:TypeId}{f0 f1 f2:Field}(hS:P.underlying tS=some (.slice tE)) (hE:P.underlying tE=some (.struct #[f0,f1,f2])) (hone:oneCellFields P #[f0,f1,f2]=true) (hC:P.cellsOf tE=3)
  (h0:P.underlying f0.type=some (.int .i64)) (h1:P.underlying f1.type=some (.int .i64)) (h2:f2.type=tS):∀ (n:Nat) (cs:List Value) (x:DataW H×List MemPlace),DataW.trod enc P W 0 (fun _=>true) true n tS cs=some x→
  ∃ l:List RE,(∀ r∈l,okR r)∧l.length≤maxLen∧∃ v,cs=[v]∧Rep (G0 W) (.snap l.length (l.flatMap xrE)) v:=by
 intro n
 induction n using Nat.strongRecOn with
 | ind n ih=>
   intro cs x h
   refine Dv hS hC (by decide) vu (fun n' hn cs y hy=>?_) h
   obtain⟨xs,m,hm,_,hl,hlen,hf⟩:=DataW.trod_struct hE hy
   have hon:=hone_of hone
   rw[hC]at hl
   match cs,hl with
   | [v0,v1,v2],_=>
     have e0:=hf 0 f0 rfl
     have e1:=hf 1 f1 rfl
     have e2:=hf 2 f2 rfl
     rw[kC (hon 0 f0 rfl) (v:=v0) rfl,List.getElem?_eq_getElem (by rw[hlen];simp)]at e0
     rw[kC (hon 1 f1 rfl) (v:=v1) rfl,List.getElem?_eq_getElem (by rw[hlen];simp)]at e1
     rw[kC (hon 2 f2 rfl) (v:=v2) rfl,List.getElem?_eq_getElem (by rw[hlen];simp),h2]at e2
     obtain⟨k,hk,_,wk⟩:=DataW.trod_int h0 e0
     obtain⟨q,hq,_,wq⟩:=DataW.trod_int h1 e1
     obtain⟨l,hl1,hl2,v,hv,hr⟩:=ih m (by omega) _ _ e2
     simp at hk hq hv
     subst hk hq hv
     simp only[Lit.wf,Bool.and_eq_true,decide_eq_true_eq]at wk wq
     refine⟨.mk k q l,?_,?_⟩
     ·simp only[okR]
      refine⟨wk,wq,Nat.le_trans hl2 (by decide),?_⟩
      clear hr hl2 e2 h
      induction l with
      | nil=>simp[Fk]
      | cons a l ih2=>simp only[Fk];exact⟨hl1 a (.head _),ih2 fun r hr=>hl1 r (.tail _ hr)⟩
     ·simp only[xrE,M7,RepL]
      exact⟨_,_,rfl,by simp[Rep,Value.oneCell'],_,_,rfl,by simp[Rep,Value.oneCell'],_,_,rfl,hr,rfl⟩
theorem SM {tS tE:TypeId}{f0 f1 f2 f3 f4 f5:Field}{tI tX tY:TypeId}{g0 g1 g2:Field}{n:Nat}{cs:List Value}{x:DataW H×List MemPlace}(hS:P.underlying tS=some (.slice tE)) (hE:P.underlying tE=some (.struct #[f0,f1,f2,f3,f4,f5])) (hone:oneCellFields P #[f0,f1,f2,f3,f4,f5]=true) (hC:P.cellsOf tE=6)
  (h0:P.underlying f0.type=some (.int .i64)) (h1:P.underlying f1.type=some (.int .i64)) (h2:P.underlying f2.type=some (.int .i64)) (h3:P.underlying f3.type=some (.slice tI)) (hI:P.underlying tI=some (.int .i64)) (cI:P.cellsOf tI=1) (h4:f4.type=tX) (h5:P.underlying f5.type=some .bool)
  (hX:P.underlying tX=some (.slice tY)) (hY:P.underlying tY=some (.struct #[g0,g1,g2])) (hone2:oneCellFields P #[g0,g1,g2]=true) (hC2:P.cellsOf tY=3) (k0:P.underlying g0.type=some (.int .i64)) (k1:P.underlying g1.type=some (.int .i64)) (k2:g2.type=tX)
  (h:DataW.trod enc P W 0 (fun _=>true) true n tS cs=some x):
  ∃ l:List RW,(∀ r∈l,okW r)∧l.length≤maxLen∧∃ v,cs=[v]∧Rep (G0 W) (.snap l.length (l.flatMap rwE)) v:=by
 exact Dv (good:=okW) hS hC (by decide) rM (fun n' hn cs y hy=>by
  obtain⟨xs,m,hm,_,hl,hlen,hf⟩:=DataW.trod_struct hE hy
  have hon:=hone_of hone
  rw[hC]at hl
  match cs,hl with
  | [v0,v1,v2,v3,v4,v5],_=>
    have e0:=hf 0 f0 rfl
    have e1:=hf 1 f1 rfl
    have e2:=hf 2 f2 rfl
    have e3:=hf 3 f3 rfl
    have e4:=hf 4 f4 rfl
    have e5:=hf 5 f5 rfl
    rw[kC (hon 0 f0 rfl) (v:=v0) rfl,List.getElem?_eq_getElem (by rw[hlen];simp)]at e0
    rw[kC (hon 1 f1 rfl) (v:=v1) rfl,List.getElem?_eq_getElem (by rw[hlen];simp)]at e1
    rw[kC (hon 2 f2 rfl) (v:=v2) rfl,List.getElem?_eq_getElem (by rw[hlen];simp)]at e2
    rw[kC (hon 3 f3 rfl) (v:=v3) rfl,List.getElem?_eq_getElem (by rw[hlen];simp)]at e3
    rw[kC (hon 4 f4 rfl) (v:=v4) rfl,List.getElem?_eq_getElem (by rw[hlen];simp),h4]at e4
    rw[kC (hon 5 f5 rfl) (v:=v5) rfl,List.getElem?_eq_getElem (by rw[hlen];simp)]at e5
    obtain⟨k,hk,_,wk⟩:=DataW.trod_int h0 e0
    obtain⟨q,hq,_,wq⟩:=DataW.trod_int h1 e1
    obtain⟨p,hp,_,wp⟩:=DataW.trod_int h2 e2
    obtain⟨ns,hn1,hn2,u,hu,hru⟩:=Dv (f:=fun n:Int=>[I n]) (good:=inI) h3 cI (by decide) (fun _=>rfl) (fun n' _ cs y hy=>by
     obtain⟨z,rfl,_,wz⟩:=DataW.trod_int hI hy
     simp only[Lit.wf,Bool.and_eq_true,decide_eq_true_eq]at wz
     exact⟨z,wz,by simp[RepL,Rep,Value.oneCell']⟩) e3
    obtain⟨xl,hx1,hx2,w,hw,hrw⟩:=Zp hX hY hone2 hC2 k0 k1 k2 _ _ _ e4
    obtain⟨bb,hb,_⟩:=DataW.trod_bool h5 e5
    simp at hk hq hp hu hw hb
    subst hk hq hp hu hw hb
    simp only[Lit.wf,Bool.and_eq_true,decide_eq_true_eq]at wk wq wp
    refine⟨⟨k,q,p,ns,xl,bb⟩,⟨wk,wq,wp,hn1,Nat.le_trans hn2 (by decide),Nat.le_trans hx2 (by decide),?_⟩,?_⟩
    ·clear hrw hx2 e4
     induction xl with
     | nil=>simp[Fk]
     | cons a l ih2=>simp only[Fk];exact⟨hx1 a (.head _),ih2 fun r hr=>hx1 r (.tail _ hr)⟩
    ·simp only[rwE,M7,RepL]
     exact⟨_,_,rfl,by simp[Rep,Value.oneCell'],_,_,rfl,by simp[Rep,Value.oneCell'],_,_,rfl,by simp[Rep,Value.oneCell'],_,_,rfl,hru,_,_,rfl,hrw,_,_,rfl,by simp[Rep,Value.oneCell'],rfl⟩) h
theorem Wl {tS tE:TypeId}{f0 f1 f2 f3 f4 f5:Field}{tI tX tY:TypeId}{g0 g1 g2:Field}{r:Reach}{b0:Nat}{v:Value}{d:DataW H}{ps:List MemPlace}(hS:P.underlying tS=some (.slice tE)) (hE:P.underlying tE=some (.struct #[f0,f1,f2,f3,f4,f5])) (hone:oneCellFields P #[f0,f1,f2,f3,f4,f5]=true) (hC:P.cellsOf tE=6)
  (h0:P.underlying f0.type=some (.int .i64)) (h1:P.underlying f1.type=some (.int .i64)) (h2:P.underlying f2.type=some (.int .i64)) (h3:P.underlying f3.type=some (.slice tI)) (hI:P.underlying tI=some (.int .i64)) (cI:P.cellsOf tI=1) (h4:f4.type=tX) (h5:P.underlying f5.type=some .bool)
  (hX:P.underlying tX=some (.slice tY)) (hY:P.underlying tY=some (.struct #[g0,g1,g2])) (hone2:oneCellFields P #[g0,g1,g2]=true) (hC2:P.cellsOf tY=3) (k0:P.underlying g0.type=some (.int .i64)) (k1:P.underlying g1.type=some (.int .i64)) (k2:g2.type=tX)
  (hval:Value.okWide P W r b0 tS v) (hd:DataW.Trod enc P W 0 (fun _=>true) true tS v d ps):
  ∃ l:List RW,(∀ r∈l,okW r)∧l.length≤maxLen∧Rep (G0 W) (.snap l.length (l.flatMap rwE)) v:=by
 obtain⟨a,len,cap,rfl⟩:=okWide_slice hS hval
 obtain⟨n,h⟩:=hd
 obtain⟨l,g1,g2,v,hv,hr⟩:=SM hS hE hone hC h0 h1 h2 h3 hI cI h4 h5 hX hY hone2 hC2 k0 k1 k2 h
 simp[Value.cells]at hv
 subst hv
 exact⟨l,g1,g2,hr⟩
end
end
section
variable [Tabs5]
theorem Iq {ns:List Int}(z:ns.length≤maxLen) (w:∀ x∈ns,(Lit.int .i64 x).wf=true) {l:List RW}(hl:l.length≤maxLen) (ho:∀ r∈l,okW r) {h:ae}{Q:QT}(k:∀ h',Q (B true) h'):C nG [.snap ns.length (ns.map fun n=>.lit (.int .i64 n)),.snap l.length (l.flatMap rwE)] h Q:=by
 have e:∀ ns:List Int,(ns.map fun n=>AV.lit (.int .i64 n))=ns.flatMap fun n=>[I n]:=fun ns=>by
  induction ns with
  | nil=>rfl
  | cons a l ih=>simp[ih]
 rw[e]
 exact W1 acs YT aau acp aaX ady Y5 abr (fun x hx=>by have:=w x hx;simp only[Lit.wf,Bool.and_eq_true,decide_eq_true_eq]at this;exact this) (Nat.le_trans hl (by decide)) ho k
