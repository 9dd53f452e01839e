import Derived.Test.YtbhphjpgjgigpaaGreatDoorAN2toAA3
set_option linter.all false
set_option autoImplicit true
set_option relaxedAutoImplicit true
set_option maxRecDepth 100000
namespace Go.Proofs.YtbhphjpgjgigpaaGreatDoor.AL
noncomputable section
section
def cz (e:En):Prop:=e.x.2.kind=1∨e.x.2.kind=2
instance (e:En):Decidable (cz e):=inferInstanceAs (Decidable (_∨_))
def cT (e:En):Prop:=e.x.2.kind=3∨e.x.2.kind=4∨e.x.2.kind=5
instance (e:En):Decidable (cT e):=inferInstanceAs (Decidable (_∨_))
section
variable [Tabs]
def tN (kind:Nat) (vs:List Int):Bool:=vs.any (fun v=>decide (v<(mL kind).1))||vs.any (fun v=>decide ((mL kind).2<v))
def vG (f:Str→Option Int) (es:List En) (e:En):Int:=
 if cz e∧e.place.tmod 2≠0 then 7
 else if (aV e.place f e.x.2.args).2=4∧e.x.2.kind=9∧jz f es (bn e)=true then 5
 else if (aV e.place f e.x.2.args).2≠0 then (aV e.place f e.x.2.args).2
 else if cz e∧(fH (bw e) (dt e.place (cM (aU (bw e))) (aV e.place f e.x.2.args).1)).isSome=false then 6
 else if cT e∧tN e.x.2.kind (aV e.place f e.x.2.args).1=true then 6
 else 0
variable {h:ab}{Q:QT}{K:AV→Prop}
theorem R6 {vs:List Int}(hn:vs≠[]) (hl:vs.length<1000000000) {fv:AV}(r:Row iE 1 h fv vs) (k:∀ m,m∈vs→(∀ x∈vs,m≤x)→Q (I m) h):C fQ [fv] h Q:=by
 refine p9 _ _ _ ?_
 unfold ml
 have hp:0<vs.length:=List.length_pos_iff.2 hn
 refine r.len ?_
 refine aL ?_
 refine af (fun hb=>(by exfalso;first|(simp at hb;done)|(simp at hb;omega)|(revert hb;decide)|omega)) (fun _=>?_)
 unfold jV
 refine r.idx (j:=0) (fun _=>rfl) hp fun p t=>?_
 refine aD t ?_
 refine aP (fun n vs' h'=>∃ (q:Nat) (m:Int),vs'=[I m,I (q:Nat)]∧n+q=vs.length∧h'=h∧m∈vs∧∀ j (hj:j<q) (hj2:j<vs.length),m≤vs[j]) (vs.length-1) ⟨1,vs[0],rfl,by omega,rfl,List.getElem_mem hp,fun j hj hj2=>(by
  have hz:j=0:=by omega
  subst hz;exact Int.le_refl _)⟩ ?_
 rintro n vs' h1 ⟨q,m,rfl,hn,rfl,hm,hall⟩
 unfold jN
 refine r.len ?_
 (repeat refine aL ?_)
 refine af (fun hq=>?_) (fun hq=>?_)<;>simp only[za,zb,zc,zd,ze,zf,zg,zh,zi,u8i,zj,zk,zl]at hq
 ·have hq:q<vs.length:=hq
  refine r.idx (fun _=>rfl) hq fun p t=>?_
  refine aD t ?_
  (repeat (first|refine aJ (by omega) ?_|refine JJ ?_))
  refine⟨n-1,by omega,q+1,min m vs[q],rfl,by omega,rfl,?_,fun j hj hj2=>?_⟩
  ·rw[Int.min_def]
   split
   ·exact hm
   ·exact List.getElem_mem hq
  ·by_cases hjq:j=q
   ·subst hjq;exact Int.min_le_right _ _
   ·exact Int.le_trans (Int.min_le_left _ _) (hall j (by omega) hj2)
 ·refine k m hm fun x hx=>?_
  obtain⟨j,hj,rfl⟩:=List.getElem_of_mem hx
  exact hall j (by omega) hj
theorem Rr {vs:List Int}(hn:vs≠[]) (hl:vs.length<1000000000) {fv:AV}(r:Row iE 1 h fv vs) (k:∀ m,m∈vs→(∀ x∈vs,x≤m)→Q (I m) h):C gc [fv] h Q:=by
 refine qE _ _ _ ?_
 unfold mt
 have hp:0<vs.length:=List.length_pos_iff.2 hn
 refine r.len ?_
 refine aL ?_
 refine af (fun hb=>(by exfalso;first|(simp at hb;done)|(simp at hb;omega)|(revert hb;decide)|omega)) (fun _=>?_)
 unfold jQ
 refine r.idx (j:=0) (fun _=>rfl) hp fun p t=>?_
 refine aD t ?_
 refine aP (fun n vs' h'=>∃ (q:Nat) (m:Int),vs'=[I m,I (q:Nat)]∧n+q=vs.length∧h'=h∧m∈vs∧∀ j (hj:j<q) (hj2:j<vs.length),vs[j]≤m) (vs.length-1) ⟨1,vs[0],rfl,by omega,rfl,List.getElem_mem hp,fun j hj hj2=>(by
  have hz:j=0:=by omega
  subst hz;exact Int.le_refl _)⟩ ?_
 rintro n vs' h1 ⟨q,m,rfl,hn,rfl,hm,hall⟩
 unfold jR
 refine r.len ?_
 (repeat refine aL ?_)
 refine af (fun hq=>?_) (fun hq=>?_)<;>simp only[za,zb,zc,zd,ze,zf,zg,zh,zi,u8i,zj,zk,zl]at hq
 ·have hq:q<vs.length:=hq
  refine r.idx (fun _=>rfl) hq fun p t=>?_
  refine aD t ?_
  (repeat (first|refine aJ (by omega) ?_|refine Aa ?_))
  refine⟨n-1,by omega,q+1,max m vs[q],rfl,by omega,rfl,?_,fun j hj hj2=>?_⟩
  ·rw[Int.max_def]
   split
   ·exact List.getElem_mem hq
   ·exact hm
  ·by_cases hjq:j=q
   ·subst hjq;exact Int.le_max_right _ _
   ·exact Int.le_trans (hall j (by omega) hj2) (Int.le_max_left _ _)
 ·refine k m hm fun x hx=>?_
  obtain⟨j,hj,rfl⟩:=List.getElem_of_mem hx
  exact hall j (by omega) hj
theorem QF {e:En}{p:Nat}(hp:h[p]?=some (.cells (enE e))) {vs:List Int}(hn:vs≠[]) (hl:vs.length<1000000000) {fv:AV}(r:Row iE 1 h fv vs) (k:Q (I (if tN e.x.2.kind vs=true then 6 else 0)) h):Dv (.ptr p 0) fv h Q:=by
 have sp:=St.startr hp
 unfold enE at sp
 unfold Dv
 (repeat (first|refine ap ?_|refine ak ?_|refine ai ‹_› (.head _) rfl ?_))
 refine EJ ?_
 unfold tN at k
 (repeat refine aw rfl ?_)
 refine R6 hn hl r fun m hm hall=>?_
 refine aL ?_
 refine af (fun hb=>?_) (fun hb=>?_)<;>simp only[za,zb,zc,zd,ze,zf,zg,zh,zi,u8i,zj,zk,zl]at hb
 ·rw[if_pos]at k
  ·exact k
  ·rw[Bool.or_eq_true];exact .inl (List.any_eq_true.2 ⟨m,hm,by simpa using hb⟩)
 ·have h1:(vs.any fun v=>decide (v<(mL e.x.2.kind).1))=false:=by
   rw[List.any_eq_false];intro x hx;have:=hall x hx;simp;omega
  rw[h1,Bool.false_or]at k
  refine Rr hn hl r fun m hm hall=>?_
  refine cH ?_
  refine af (fun hb=>?_) (fun hb=>?_)<;>simp only[za,zb,zc,zd,ze,zf,zg,zh,zi,u8i,zj,zk,zl]at hb
  ·rw[if_pos (List.any_eq_true.2 ⟨m,hm,by simpa using hb⟩)]at k;exact k
  ·have h1:(vs.any fun v=>decide ((mL e.x.2.kind).2<v))=false:=by
    rw[List.any_eq_false];intro x hx;have:=hall x hx;simp;omega
   rw[h1,if_neg (by simp)]at k
   exact k
theorem Ec {e:En}{p:Nat}(hp:h[p]?=some (.cells (enE e))) {vs:List Int}(hn:cT e→vs≠[]) (hl:vs.length<1000000000) {fv:AV}(r:Row iE 1 h fv vs) (k:Q (I (if cT e∧tN e.x.2.kind vs=true then 6 else 0)) h):Af (.ptr p 0) fv h Q:=by
 have sp:=St.startr hp
 unfold enE at sp
 unfold Af
 have one:cT e→Dv (.ptr p 0) fv h Q:=fun hd=>QF hp (hn hd) hl r (by simpa [hd] using k)
 refine ap (ak (ak (ai sp (.head _) rfl (aA ?_))))
 refine af (fun h3=>?_) (fun h3=>?_)<;>simp only[za,zb,zc,zd,ze,zf,zg,zh,zi,u8i,zj,zk,zl]at h3
 ·exact one (.inl (by omega))
 ·refine ap (ak (ak (ai sp (.head _) rfl (aA ?_))))
  refine af (fun h4=>?_) (fun h4=>?_)<;>simp only[za,zb,zc,zd,ze,zf,zg,zh,zi,u8i,zj,zk,zl]at h4
  ·exact one (.inr (.inl (by omega)))
  ·refine ap (ak (ak (ai sp (.head _) rfl (aA ?_))))
   refine af (fun h5=>?_) (fun h5=>?_)<;>simp only[za,zb,zc,zd,ze,zf,zg,zh,zi,u8i,zj,zk,zl]at h5
   ·exact one (.inr (.inr (by omega)))
   ·have:¬ cT e:=by unfold cT;omega
    show Q (I 0) h
    simpa [this] using k
end
end
section
section
variable [Tabs]
variable {h:ab}{Q:QT}{K:AV→Prop}
theorem Rk {here:Int}{f:Str→Option Int}{a:Ar}(hr:a.reg<1000):-1099511627776≤(iy here f a).1∧(iy here f a).1≤1099511627776:=by
 unfold iy
 split
 ·exact Bh _ _ _
 ·simp;omega
theorem vl {here:Int}{f:Str→Option Int}{args:List Ar}(hr:∀ a∈args,a.reg<1000):∀ v∈(aV here f args).1,-1099511627776≤v∧v≤1099511627776:=by
 unfold aV
 split
 ·simp
 ·intro v hv
  simp only[List.mem_map]at hv
  obtain⟨a,ha,rfl⟩:=hv
  exact Rk (hr a ha)
theorem n9 {here:Int}{f:Str→Option Int}{args:List Ar}(hz:(aV here f args).2=0):(aV here f args).1.length=args.length:=by
 unfold aV at hz ⊢
 split
 ·rename_i a ha
  rw[ha]at hz
  have:=List.find?_some ha
  simp at this
  exact (this hz).elim
 ·simp
theorem KC {here:Int}{f:Str→Option Int}{args:List Ar}:(aV here f args).1.length≤args.length:=by
 unfold aV
 split<;>simp
theorem HE {place:Int}{ks:List Str}{vs:List Int}(hp:0≤place∧place≤1000000000000000) (hv:∀ v∈vs,-1099511627776≤v∧v≤1099511627776):∀ v∈dt place ks vs,dp v:=by
 intro v hm
 unfold dt at hm
 obtain⟨j,hj,rfl⟩:=List.getElem_of_mem hm
 simp only[List.length_zipWith]at hj
 rw[List.getElem_zipWith]
 have:=hv _ (List.getElem_mem (show j<vs.length by omega))
 unfold nu dp
 split<;>omega
structure PlE (e:En):Prop where
 wf:WfS e.x.2
 lo:0≤e.place
 hi:e.place≤1000000000000000
theorem Od (hF:cg) (hL:da) {e:En}{p:Nat}(hp:h[p]?=some (.cells (enE e))) (w:PlE e) (hk:cz e) {f:Str→Option Int}(hz:(aV e.place f e.x.2.args).2=0) {fv:AV}(r:Row iE 1 h fv (aV e.place f e.x.2.args).1)
  (k:∀ h',Fr [] h h'→Q (I (if (fH (bw e) (dt e.place (cM (aU (bw e))) (aV e.place f e.x.2.args).1)).isSome=false then 6 else 0)) h'):Ak (.ptr p 0) fv h Q:=by
 unfold Ak
 have hin:=vl (here:=e.place) (f:=f) fun a ha=>(w.wf.arg a ha).2.2
 have hlen:=n9 hz
 have hal:=w.wf.args
 generalize (aV e.place f e.x.2.args).1=vs at r k hin hlen ⊢
 have hlo:=w.lo
 have hhi:=w.hi
 obtain⟨ho,hkl⟩:=Qt w.wf hk
 refine LR hF hp w.wf hk vs hlen (fun v hv=>by have:=hin v hv;omega) r fun v E h1 a s1=>?_
 have s1':St h [] h1 (E++[]):=by simpa using s1
 refine H9 hF hL ho _ (HE ⟨hlo,hhi⟩ hin) (a.rd s1') fun h2 f2=>?_
 have s2:=s1.call f2
 refine dy ?_
 cases hc:(fH (bw e) (dt e.place (cM (aU (bw e))) vs)).isSome with
 | false=>
   rw[hc]at k
   exact af (fun _=>k h2 s2.fr) (fun h=>by cases h)
 | true=>
   rw[hc]at k
   refine af (fun h=>by cases h) (fun _=>?_)
   have hnd:¬ cT e:=by unfold cT;unfold cz at hk;omega
   refine Ec (s2.fr.get hp (by simp)) (fun h=>(hnd h).elim) (by omega) (r.fr s2.fr) ?_
   rw[if_neg (fun h=>hnd h.1)]
   exact k h2 s2.fr
theorem Pc (hF:cg) (hL:da) {e:En}{p:Nat}(hp:h[p]?=some (.cells (enE e))) (w:PlE e) {i js jk:Nat}{lv dv:AV}{sz:Int}(hi:h[i]?=some (dY lv js (.map jk) dv sz)) {f:Str→Option Int}(m:MapAt h jk f)
  {l:List (Nat×En)} (hl:l.length<1000000000) (rl:Row pE 1 h lv l) (he:∀ x∈l,h[x.1]?=some (.cells (enE x.2))) (k:∀ h',Fr [] h h'→Q (I (vG f (l.map (·.2)) e)) h'):C iG [.ptr i 0,.ptr p 0] h Q:=by
 refine uj _ _ _ _ ?_
 unfold pH
 have sp:=St.startr hp
 have hal:=w.wf.args
 have hlo:=w.lo
 have hhi:=w.hi
 unfold enE at sp
 unfold vG at k
 have hin:=vl (here:=e.place) (f:=f) fun a ha=>(w.wf.arg a ha).2.2
 have vals:(∀ tail:AV→QT,¬ (cz e∧e.place.tmod 2≠0)→
   (∀ fv h',Fr [] h h'→Row iE 1 h' fv (aV e.place f e.x.2.args).1→¬ ((aV e.place f e.x.2.args).2=4∧e.x.2.kind=9∧jz f (l.map (·.2)) (bn e)=true)→tail fv (I (aV e.place f e.x.2.args).2) h')→
   A4 (.ptr i 0) (.ptr p 0) tail h Q):=by
  intro tail hno ht
  rw[if_neg hno]at k
  unfold A4
  refine wQ hp w.wf hi m fun v E h1 a s1=>?_
  have s1':St h [] h1 (E++[]):=by simpa using s1
  have r1:Row iE 1 h1 v (aV e.place f e.x.2.args).1:=a.rd s1'
  refine aw rfl (aw rfl (aA ?_))
  refine af (fun h4=>?_) (fun h4=>?_)<;>simp only[za,zb,zc,zd,ze,zf,zg,zh,zi,u8i,zj,zk,zl]at h4
  ·have sp1:=St.startr (s1.fr.get hp (by simp))
   unfold enE at sp1
   refine ap (ak (ak (ai sp1 (.head _) rfl (aA ?_))))
   refine af (fun h9=>?_) (fun h9=>?_)<;>simp only[za,zb,zc,zd,ze,zf,zg,zh,zi,u8i,zj,zk,zl]at h9
   ·have h9:e.x.2.kind=9:=by omega
    have hne:=w.wf.data (by omega) (by omega)
    have hlast:=t0 w.wf hne
    refine ua (s1.fr.get hp (by simp)) w.wf hne fun h2 f2=>?_
    have f2':Fr [] h h2:=s1.fr.trans f2 (by simp)
    refine II (f2'.get hi (by simp)) (m.fr f2') hl (rl.fr f2') (fun x hx=>f2'.get (he x hx) (by simp)) hlast.1 hlast.2 fun h3 f3=>?_
    have f3':Fr [] h h3:=f2'.trans f3 (by simp)
    cases hd:jz f (l.map (·.2)) (bn e) with
    | true=>
      rw[if_pos ⟨h4,h9,hd⟩]at k
      exact af (fun _=>k h3 f3') (fun h=>by cases h)
    | false=>exact af (fun h=>by cases h) (fun _=>ht v h3 f3' (r1.fr (f2.trans f3 (by simp))) (by simp[hd]))
   ·exact ht v h1 s1.fr r1 (fun hh=>by omega)
  ·exact ht v h1 s1.fr r1 (fun hh=>by omega)
 have hA:¬ (cz e∧e.place.tmod 2≠0)→cz e→∀ fv h',Fr [] h h'→Row iE 1 h' fv (aV e.place f e.x.2.args).1→¬ ((aV e.place f e.x.2.args).2=4∧e.x.2.kind=9∧jz f (l.map (·.2)) (bn e)=true)→(aV e.place f e.x.2.args).2=0→Ak (.ptr p 0) fv h' Q:=by
  intro hno hc fv h' f' r' hnd hz
  refine Od hF hL (f'.get hp (by simp)) w hc hz r' fun h2 f2=>?_
  have:=k h2 (f'.trans f2 (by simp))
  rw[if_neg hno,if_neg hnd,if_neg (by omega)]at this
  by_cases hcode:(fH (bw e) (dt e.place (cM (aU (bw e))) (aV e.place f e.x.2.args).1)).isSome=false
  ·rw[if_pos ⟨hc,hcode⟩]at this
   rw[if_pos hcode];exact this
  ·rw[if_neg (fun h=>hcode h.2)]at this
   rw[if_neg hcode]
   have hnd:¬ cT e:=by unfold cT;unfold cz at hc;omega
   rw[if_neg (fun h=>hnd h.1)]at this
   exact this
 have hD:¬ cz e→∀ fv h',Fr [] h h'→Row iE 1 h' fv (aV e.place f e.x.2.args).1→¬ ((aV e.place f e.x.2.args).2=4∧e.x.2.kind=9∧jz f (l.map (·.2)) (bn e)=true)→(aV e.place f e.x.2.args).2=0→Af (.ptr p 0) fv h' Q:=by
  intro hc fv h' f' r' hnd hz
  have hlen:=n9 hz
  refine Ec (f'.get hp (by simp)) (fun hd=>?_) (by omega) r' ?_
  ·have:e.x.2.args≠[]:=w.wf.data (by unfold cT at hd;omega) (by unfold cT at hd;omega)
   intro hv;rw[hv]at hlen;exact this (List.length_eq_zero_iff.1 hlen.symm)
  ·have:=k h' f'
   rw[if_neg (fun h=>hc h.1),if_neg hnd,if_neg (by omega),if_neg (fun h=>hc h.1)]at this
   exact this
 have hE:¬ (cz e∧e.place.tmod 2≠0)→∀ h',Fr [] h h'→¬ ((aV e.place f e.x.2.args).2=4∧e.x.2.kind=9∧jz f (l.map (·.2)) (bn e)=true)→(aV e.place f e.x.2.args).2≠0→Q (I (aV e.place f e.x.2.args).2) h':=by
  intro hno h' f' hnd hz
  have:=k h' f'
  rw[if_neg hno,if_neg hnd,if_pos hz]at this
  exact this
 have odd:cz e→e.place.tmod 2≠0→Q (I 7) h:=fun hc ho=>by
  have:=k h (Fr.refl _ _)
  rw[if_pos ⟨hc,ho⟩]at this;exact this
 refine ap (ak (ak (ai sp (.head _) rfl (aA ?_))))
 refine af (fun h1=>?_) (fun h1=>?_)<;>simp only[za,zb,zc,zd,ze,zf,zg,zh,zi,u8i,zj,zk,zl]at h1
 ·have hc:cz e:=.inl (by omega)
  refine ap (ak (ai sp (.head _) rfl (pm (by decide) (cr ?_))))
  refine af (fun ho=>?_) (fun ho=>?_)<;>simp only[za,zb,zc,zd,ze,zf,zg,zh,zi,u8i,zj,zk,zl]at ho
  ·exact odd hc ho
  ·have hno:¬ (cz e∧e.place.tmod 2≠0):=fun h=>h.2 ho
   refine vals (fun t37 t38 h=>wrA (.ptr p 0) t37 t38 h Q) hno fun fv h' f' r' hnd=>?_
   unfold wrA
   refine cr ?_
   refine af (fun hz=>?_) (fun hz=>?_)<;>simp only[za,zb,zc,zd,ze,zf,zg,zh,zi,u8i,zj,zk,zl]at hz
   ·exact hE hno h' f' hnd hz
   ·exact hA hno hc fv h' f' r' hnd hz
 ·refine ap (ak (ak (ai sp (.head _) rfl (aA ?_))))
  refine af (fun h2=>?_) (fun h2=>?_)<;>simp only[za,zb,zc,zd,ze,zf,zg,zh,zi,u8i,zj,zk,zl]at h2
  ·have hc:cz e:=.inr (by omega)
   refine ap (ak (ai sp (.head _) rfl (pm (by decide) (cr ?_))))
   refine af (fun ho=>?_) (fun ho=>?_)<;>simp only[za,zb,zc,zd,ze,zf,zg,zh,zi,u8i,zj,zk,zl]at ho
   ·exact odd hc ho
   ·have hno:¬ (cz e∧e.place.tmod 2≠0):=fun h=>h.2 ho
    have hb2:decide ((e.x.2.kind:Int)=2)=true:=by simpa using h2
    refine vals (fun t37 t38 h=>wrB (B (decide ((e.x.2.kind:Int)=2))) (.ptr p 0) t37 t38 h Q) hno fun fv h' f' r' hnd=>?_
    unfold wrB
    refine cr ?_
    refine af (fun hz=>?_) (fun hz=>?_)<;>simp only[za,zb,zc,zd,ze,zf,zg,zh,zi,u8i,zj,zk,zl]at hz
    ·exact hE hno h' f' hnd hz
    ·rw[hb2]
     exact af (fun _=>hA hno hc fv h' f' r' hnd hz) (fun h=>by cases h)
  ·have hc:¬ cz e:=by unfold cz;omega
   have hno:¬ (cz e∧e.place.tmod 2≠0):=fun h=>hc h.1
   have hb2:decide ((e.x.2.kind:Int)=2)=false:=by simpa using h2
   refine vals (fun t37 t38 h=>wrB (B (decide ((e.x.2.kind:Int)=2))) (.ptr p 0) t37 t38 h Q) hno fun fv h' f' r' hnd=>?_
   unfold wrB
   refine cr ?_
   refine af (fun hz=>?_) (fun hz=>?_)<;>simp only[za,zb,zc,zd,ze,zf,zg,zh,zi,u8i,zj,zk,zl]at hz
   ·exact hE hno h' f' hnd hz
   ·rw[hb2]
    exact af (fun h=>by cases h) (fun _=>hD hc fv h' f' r' hnd hz)
end
end
section
def beB:Nat→Int→List Int
 | 0,_=>[]
 | n+1,v=>IntKind.u8.wrap (v.fdiv (2^(8*n)))::beB n v
theorem Lz:∀ n v,(beB n v).length=n
 | 0,_=>rfl
 | n+1,v=>by simp[beB,Lz]
section
variable [Tabs]
def kG (syms f:Str→Option Int) (e:En):List Int:=
 if cz e then (Cq (bw e) (dt e.place (cM (aU (bw e))) (aV e.place f e.x.2.args).1)).getD []
 else if cT e then (aV e.place f e.x.2.args).1.flatMap (beB (2^(e.x.2.kind-3)))
 else if e.x.2.kind=6 then e.x.2.text.map fun b=>(b.toNat:Int)
 else List.replicate (fM syms e).toNat 0
abbrev bE (v:Int):List AV:=[BI v]
variable {h:ab}{Q:QT}{K:AV→Prop}{h0:ab}{M:List Nat}{L:Own}{KH:QT}
theorem Hh {l:Str}(s:St h0 M h L) (k:∀ i h',St h0 M h' ((i,true,.cells ((l.map fun b=>(b.toNat:Int)).flatMap bE))::L)→KH (.sl i 0 l.length 1) h'):mU (T l) h KH:=⟨by
 simp only[ij]
 have:((⟨⟨l⟩⟩:ByteArray).data.toList.map fun b=>AV.lit (.int .u8 b.toNat))=(l.map fun b=>(b.toNat:Int)).flatMap bE:=by
  clear k s
  induction l with
  | nil=>rfl
  | cons a r ih=>simpa using ih
 rw[this]
 exact k _ _ (s.push _)⟩
theorem rS {f:Str→Option Int}{e:En}(w:WfS e.x.2) (hs:SzOk f e) (hp:0≤e.place):0≤fM f e∧fM f e≤4000000000:=by
 have hal:=w.args
 have htl:=w.text
 unfold fM
 split
 ·unfold jo;split<;>simp
 ·split
  ·split<;>simp
  ·split
   ·rename_i hk
    rcases hk with hk|hk|hk<;>rw[hk]<;>simp<;>omega
   ·split
    ·simp;omega
    ·split
     ·rename_i h7
      have hv:=hs.1 h7
      have hm1:=Int.tmod_nonneg (bi 0 f (bn e)).1 hp
      have hm2:=Int.tmod_lt_of_pos e.place (show 0<(bi 0 f (bn e)).1 by omega)
      have h3:=Int.tmod_nonneg (bi 0 f (bn e)).1 (show 0≤(bi 0 f (bn e)).1-e.place.tmod (bi 0 f (bn e)).1 by omega)
      have h4:=Int.tmod_lt_of_pos ((bi 0 f (bn e)).1-e.place.tmod (bi 0 f (bn e)).1) (show 0<(bi 0 f (bn e)).1 by omega)
      omega
     ·split
      ·rename_i h8
       have hv:=hs.2 h8
       omega
      ·simp
theorem QA (hF:cg) (hL:da) {e:En}{p:Nat}(hp:h[p]?=some (.cells (enE e))) (w:PlE e) {i js jk:Nat}{lv dv:AV}{sz:Int}(hi:h[i]?=some (dY lv js (.map jk) dv sz)) {f g:Str→Option Int}(m:MapAt h jk f) (mg:MapAt h js g) (hs:SzOk g e)
  (hc:cz e→(aV e.place f e.x.2.args).2=0∧(Cq (bw e) (dt e.place (cM (aU (bw e))) (aV e.place f e.x.2.args).1)).isSome=true)
  (k:∀ v h',Fr [] h h'→Row bE 1 h' v (kG g f e)→Q v h'):C iw [.ptr i 0,.ptr p 0] h Q:=by
 refine ug _ _ _ _ ?_
 unfold pQ
 have hlo:=w.lo
 have hhi:=w.hi
 have hal:=w.wf.args
 refine wQ hp w.wf hi m fun v E h1 a s1=>?_
 have s1':St h [] h1 (E++[]):=by simpa using s1
 have r1:Row iE 1 h1 v (aV e.place f e.x.2.args).1:=a.rd s1'
 have hin:=vl (here:=e.place) (f:=f) fun a ha=>(w.wf.arg a ha).2.2
 have hlen:=n9 (here:=e.place) (f:=f) (args:=e.x.2.args)
 have hle:=KC (here:=e.place) (f:=f) (args:=e.x.2.args)
 have sp:=St.startr (s1.fr.get hp (by simp))
 unfold enE at sp
 refine aw rfl (aw rfl (ap (ak (ak (ai sp (.head _) rfl (aA ?_))))))
 unfold kG at k
 have hj12:∀ b:Bool,(b=true↔cz e)→eS (B b) (I (e.x.2.kind:Nat)) v (.ptr i 0) (.ptr p 0) h1 Q:=by
  intro b hb
  unfold eS
  refine af (fun hbt=>?_) (fun hbf=>?_)
  ·have hcode:=hb.1 hbt
   obtain⟨hz,he⟩:=hc hcode
   rw[if_pos hcode]at k
   have hlen:=hlen hz
   generalize (aV e.place f e.x.2.args).1=vs at r1 k hin hlen he ⊢
   obtain⟨ho,hkl⟩:=Qt w.wf hcode
   refine LR hF (s1.fr.get hp (by simp)) w.wf hcode vs hlen (fun v hv=>by have:=hin v hv;omega) r1 fun v2 E2 h2 a2 s2=>?_
   have s2':St h1 [] h2 (E2++[]):=by simpa using s2
   cases hen:Cq (bw e) (dt e.place (cM (aU (bw e))) vs) with
   | none=>rw[hen]at he;cases he
   | some bs=>
     rw[hen]at k
     refine MJ hF hL ho _ (HE ⟨hlo,hhi⟩ hin) hen (a2.rd s2') fun h3 f3=>?_
     refine aw rfl (aw rfl ?_)
     exact k _ h3 (s1.fr.trans (s2.fr.trans f3 (by simp)) (by simp)) (Row.snap (enc:=bE) (fun _=>rfl) bs)
  ·have hcode:¬ cz e:=by rw[← hb,hbf];simp
   rw[if_neg hcode]at k
   have hj11:∀ b:Bool,(b=true↔cT e)→dI (B b) (I (e.x.2.kind:Nat)) v (.ptr i 0) (.ptr p 0) h1 Q:=by
    intro b hb
    unfold dI
    refine af (fun hbt=>?_) (fun hbf=>?_)
    ·have hd:=hb.1 hbt
     rw[if_pos hd]at k
     have hkn:3≤e.x.2.kind∧e.x.2.kind≤5:=by unfold cT at hd;omega
     generalize (aV e.place f e.x.2.args).1=vs at r1 k hin hlen hle ⊢
     refine r1.len ?_
     have hw:2^(e.x.2.kind-3)≤4∧1≤2^(e.x.2.kind-3):=by unfold cT at hd;rcases hd with h|h|h<;>rw[h]<;>decide
     have hkind:(8:Int)*2^(min ((e.x.2.kind:Int)-3).toNat IntKind.i64.bits)=8*(2^(e.x.2.kind-3):Nat):=by
      have hb:IntKind.i64.bits=64:=rfl
      rw[hb]
      unfold cT at hd
      rcases hd with hk|hk|hk<;>rw[hk]<;>rfl
     generalize hW:2^(e.x.2.kind-3)=W at hw hkind k
     refine aP (fun n vs' h'=>∃ (q:Nat) (u:AV) (E:Own) (bs:List Int),vs'=[u,I (q:Nat)]∧n+q=vs.length∧bs=(vs.take q).flatMap (beB W)∧bs.length=q*W∧AccE 1 u bs.length (bs.flatMap bE) E∧St h1 [] h' (E++[])) vs.length ⟨0,.full 0 [],[],[],rfl,by omega,rfl,by simp,.none 1,St.start h1⟩ ?_
     rintro n vs' h2 ⟨q,u,E2,bs,rfl,hn,hbs,hbl,a2,s2⟩
     unfold mq
     refine aL ?_
     refine af (fun hq=>?_) (fun hq=>?_)<;>simp only[za,zb,zc,zd,ze,zf,zg,zh,zi,u8i,zj,zk,zl]at hq
     ·have hq:q<vs.length:=hq
      refine (r1.fr s2.fr).idx (fun _=>rfl) hq fun p1 t=>?_
      refine aD t ?_
      have sp2:=sp.call s2.fr
      refine ap (ak (ak (ai sp2 (.head _) rfl (dh (by omega) ?_))))
      refine iB (by omega) ?_
      rw[hkind]
      rw[show IntKind.i64.wrap (8*(W:Nat):Int)=8*(W:Nat) from rP (by omega)]
      refine dh (by omega) ?_
      have hqW:q*W≤vs.length*4:=Nat.mul_le_mul (by omega) hw.1
      refine aP (fun n2 vs'' h''=>∃ (r:Nat) (u:AV) (E:Own) (cs:List Int),vs''=[u,I (8*(r:Nat)-8)]∧n2=r∧r≤W∧cs.length+r=bs.length+W∧cs++beB r vs[q]=bs++beB W vs[q]∧AccE 1 u cs.length (cs.flatMap bE) E∧St h1 [] h'' (E++[])) W ⟨W,u,E2,bs,rfl,rfl,Nat.le_refl _,rfl,rfl,a2,s2⟩ ?_
      rintro n2 vs'' h3 ⟨r,u3,E3,cs,rfl,rfl,hrW,hcl,hcs,a3,s3⟩
      unfold mp
      refine cO ?_
      refine af (fun hr=>?_) (fun hr=>?_)<;>simp only[za,zb,zc,zd,ze,zf,zg,zh,zi,u8i,zj,zk,zl]at hr
      ·obtain⟨r',rfl⟩:∃ r',n2=r'+1:=⟨n2-1,by omega⟩
       refine tz (by omega) ?_
       have hmin:min ((8*((r'+1:Nat):Int)-8)).toNat IntKind.i64.bits=8*r':=by
        have hb:IntKind.i64.bits=64:=rfl
        rw[hb];omega
       rw[hmin]
       refine eB ?_
       refine aF rfl rfl ?_
       refine a3.app s3 (xs:=bE (IntKind.u8.wrap (vs[q].fdiv (2^(8*r'))))) (m:=1) (Rd.full rfl) rfl (by omega) fun v4 E4 h8 a4 s8=>?_
       refine dh (by omega) ?_
       refine⟨r',by omega,r',v4,E4,cs++[IntKind.u8.wrap (vs[q].fdiv (2^(8*r')))],by rw[show 8*((r'+1:Nat):Int)-8-8=8*(r':Nat)-8 by omega],rfl,by omega,by simp;omega,?_,by simpa using a4,s8⟩
       rw[← hcs];simp[beB]
      ·have hr0:n2=0:=by omega
       subst hr0
       refine aJ (by omega) ?_
       simp only[beB,List.append_nil]at hcs
       refine⟨n-1,by omega,q+1,u3,E3,cs,rfl,by omega,?_,by rw[Nat.add_mul];omega,a3,s3⟩
       rw[hcs,hbs,List.take_succ_eq_append_getElem hq,List.flatMap_append,List.flatMap_cons,List.flatMap_nil,List.append_nil]
     ·rw[List.take_of_length_le (by omega)]at hbs
      subst hbs
      exact k u h2 (s1.fr.trans s2.fr (by simp)) (a2.rd s2)
    ·have hd:¬ cT e:=by rw[← hb,hbf];simp
     rw[if_neg hd]at k
     refine aA ?_
     refine af (fun h6=>?_) (fun h6=>?_)<;>simp only[za,zb,zc,zd,ze,zf,zg,zh,zi,u8i,zj,zk,zl]at h6
     ·rw[if_pos (by omega)]at k
      refine ap (ak (ak (ai sp (.head _) rfl ?_)))
      refine Hh (St.start h1) fun j h2 s2=>?_
      refine k _ h2 (s1.fr.trans s2.fr (by simp)) ?_
      have:=Row.sl (enc:=bE) (sz:=1) (fun _=>rfl) (s2.get (.head _))
      simpa using this
     ·rw[if_neg (by omega)]at k
      refine FU (s1.fr.get hp (by simp)) w.wf (s1.fr.get hi (by simp)) (mg.fr s1.fr) hs ⟨hlo,hhi⟩ fun h2 f2=>?_
      have hli:=rS w.wf hs hlo
      obtain⟨n,hn⟩:=Int.eq_ofNat_of_zero_le hli.1
      rw[hn]at hli k ⊢
      refine wg (s1.call f2) (Nat.le_refl _) (by simp at hli;omega) (by simp at hli;omega) fun j h3 s3=>?_
      refine k _ h3 s3.fr ?_
      have hrep:∀ n:Nat,List.replicate n (BI 0)=(List.replicate n (0:Int)).flatMap bE:=by
       intro n
       induction n with
       | zero=>rfl
       | succ n ih=>rw[List.replicate_succ,List.replicate_succ,List.flatMap_cons,← ih];rfl
      have e3:=s3.get (.head _)
      rw[hrep]at e3
      have:=Row.sl (enc:=bE) (sz:=1) (fun _=>rfl) e3
      simpa using this
   refine aA ?_
   refine af (fun h3=>?_) (fun h3=>?_)<;>simp only[za,zb,zc,zd,ze,zf,zg,zh,zi,u8i,zj,zk,zl]at h3
   ·exact hj11 _ (by unfold cT;simp;omega)
   ·refine aA ?_
    refine af (fun h4=>?_) (fun h4=>?_)<;>simp only[za,zb,zc,zd,ze,zf,zg,zh,zi,u8i,zj,zk,zl]at h4
    ·exact hj11 _ (by unfold cT;simp;omega)
    ·refine aA ?_
     exact hj11 _ (by unfold cT;simp;omega)
 refine af (fun h1=>?_) (fun h1=>?_)<;>simp only[za,zb,zc,zd,ze,zf,zg,zh,zi,u8i,zj,zk,zl]at h1
 ·exact hj12 _ (by unfold cz;simp;omega)
 ·refine aA ?_
  exact hj12 _ (by unfold cz;simp;omega)
end
end
section
abbrev Dg:=Str×Nat×Int
def dE (d:Dg):List AV:=[T d.1,I (d.2.1:Nat),I d.2.2]
theorem Sub.pre {L L':Own}{e e':Nat×Bool×AObj}(s:Sub L e L' e'):∀ A:Own,Sub (A++L) e (A++L') e'
 | []=>s
 | _::A=>.tail (Sub.pre s A)
theorem Sub.post {L L':Own}{e e':Nat×Bool×AObj}(s:Sub L e L' e') (R:Own):Sub (L++R) e (L'++R) e':=by
 induction s with
 | head=>exact .head
 | tail _ ih=>exact .tail ih
def cf (l:List (Nat×En)):Own:=l.map fun x=>(x.1,true,.cells (enE x.2))
theorem QM {l:List (Nat×En)}{x:Nat×En}(h:x∈l):(x.1,true,AObj.cells (enE x.2))∈cf l:=List.mem_map.2 ⟨x,h,rfl⟩
theorem G9:∀ {l:List (Nat×En)}{q:Nat}(hq:q<l.length) (e':En),Sub (cf l) (l[q].1,true,.cells (enE l[q].2)) (cf (l.set q (l[q].1,e'))) (l[q].1,true,.cells (enE e'))
 | [],q,hq,_=>by simp at hq
 | x::l,0,_,e'=>.head
 | x::l,q+1,hq,e'=>by
   have:=G9 (l:=l) (q:=q) (by simpa using hq) e'
   simpa [cf] using Sub.tail this
section
variable [Tabs]
variable {h0 h h':ab}{M:List Nat}{Q:QT}{K:AV→Prop}
structure SS (h0:ab) (M:List Nat) (h:ab) (i js:Nat) (l:List (Nat×En)) (ds:List Dg) (lv dv kn:AV) (sz:Int) (kvs:KV) (EL ED R:Own):Prop where
 al:AccE 1 lv l.length (l.flatMap pE) EL
 ad:AccE 3 dv ds.length (ds.flatMap dE) ED
 st:St h0 M h (ED++((i,true,dY lv js kn dv sz)::(js,true,bp kvs)::(EL++(cf l++R))))
variable {i js:Nat}{l:List (Nat×En)}{ds:List Dg}{lv dv kn:AV}{sz:Int}{kvs:KV}{EL ED R:Own}
theorem SS.src (s:SS h0 M h i js l ds lv dv kn sz kvs EL ED R):h[i]?=some (dY lv js kn dv sz):=s.st.get (b:=true) (by simp)
theorem SS.syms (s:SS h0 M h i js l ds lv dv kn sz kvs EL ED R):h[js]?=some (bp kvs):=s.st.get (b:=true) (by simp)
theorem SS.row (s:SS h0 M h i js l ds lv dv kn sz kvs EL ED R):Row pE 1 h lv l:=by
 have hp:(ED++((i,true,dY lv js kn dv sz)::(js,true,bp kvs)::(EL++(cf l++R)))).Perm (EL++(ED++((i,true,dY lv js kn dv sz)::(js,true,bp kvs)::(cf l++R)))):=by
  have h1:(ED++((i,true,dY lv js kn dv sz)::(js,true,bp kvs)::(EL++(cf l++R))))=(ED++[(i,true,dY lv js kn dv sz),(js,true,bp kvs)])++(EL++(cf l++R)):=by simp
  have h2:(ED++((i,true,dY lv js kn dv sz)::(js,true,bp kvs)::(cf l++R)))=(ED++[(i,true,dY lv js kn dv sz),(js,true,bp kvs)])++(cf l++R):=by simp
  rw[h1,h2,← List.append_assoc,← List.append_assoc EL]
  exact List.Perm.append_right _ List.perm_append_comm
 exact s.al.rd (s.st.perm hp)
theorem SS.ent (s:SS h0 M h i js l ds lv dv kn sz kvs EL ED R):∀ x∈l,h[x.1]?=some (.cells (enE x.2)):=fun x hx=>s.st.get (b:=true) (by
 have:=QM hx
 simp[this])
theorem SS.rget (s:SS h0 M h i js l ds lv dv kn sz kvs EL ED R) {e:Nat×Bool×AObj}(he:e∈R):h[e.1]?=some e.2.2:=s.st.get (b:=e.2.1) (by
 show e∈_
 simp[he])
theorem SS.call (s:SS h0 M h i js l ds lv dv kn sz kvs EL ED R) (f:Fr [] h h'):SS h0 M h' i js l ds lv dv kn sz kvs EL ED R:=⟨s.al,s.ad,s.st.call f⟩
theorem SS.front {e:Nat×Bool×AObj}(s:SS h0 M h i js l ds lv dv kn sz kvs EL ED R) (s':St h0 M h' (e::(ED++((i,true,dY lv js kn dv sz)::(js,true,bp kvs)::(EL++(cf l++R)))))):SS h0 M h' i js l ds lv dv kn sz kvs EL ED (e::R):=⟨s.al,s.ad,s'.perm (by
 have hx:∀ R:Own,(ED++((i,true,dY lv js kn dv sz)::(js,true,bp kvs)::(EL++(cf l++R))))=(ED++((i,true,dY lv js kn dv sz)::(js,true,bp kvs)::(EL++cf l)))++R:=fun R=>by simp
 rw[hx R,hx (e::R)]
 exact List.perm_middle.symm)⟩
theorem SS.unR {R':Own}(s:SS h0 M h i js l ds lv dv kn sz kvs EL ED R) (hs:R'.Sublist R):SS h0 M h i js l ds lv dv kn sz kvs EL ED R':=⟨s.al,s.ad,s.st.sub (List.Sublist.append (List.Sublist.refl _) (((List.Sublist.append (List.Sublist.refl _) (List.Sublist.append (List.Sublist.refl _) hs)).cons₂ _).cons₂ _))⟩
theorem SS.subR {R':Own}{e e':Nat×Bool×AObj}(u:Sub R e R' e'):Sub (ED++((i,true,dY lv js kn dv sz)::(js,true,bp kvs)::(EL++(cf l++R)))) e (ED++((i,true,dY lv js kn dv sz)::(js,true,bp kvs)::(EL++(cf l++R')))) e':=
 Sub.pre (.tail (.tail (Sub.pre (Sub.pre u _) _))) _
theorem SS.subE {q:Nat}(hq:q<l.length) (e':En):Sub (ED++((i,true,dY lv js kn dv sz)::(js,true,bp kvs)::(EL++(cf l++R)))) (l[q].1,true,.cells (enE l[q].2)) (ED++((i,true,dY lv js kn dv sz)::(js,true,bp kvs)::(EL++(cf (l.set q (l[q].1,e'))++R)))) (l[q].1,true,.cells (enE e')):=
 Sub.pre (.tail (.tail (Sub.pre (Sub.post (G9 hq e') _) _))) _
theorem SS.subS {kn':AV}{sz':Int}{lv' dv':AV}:Sub (ED++((i,true,dY lv js kn dv sz)::(js,true,bp kvs)::(EL++(cf l++R)))) (i,true,dY lv js kn dv sz) (ED++((i,true,dY lv' js kn' dv' sz')::(js,true,bp kvs)::(EL++(cf l++R)))) (i,true,dY lv' js kn' dv' sz'):=Sub.pre .head _
theorem yq:∀ {l:List (Nat×En)}{q:Nat}(hq:q<l.length) (e':En),(l.set q (l[q].1,e')).flatMap pE=l.flatMap pE
 | [],q,hq,_=>by simp at hq
 | x::l,0,_,e'=>rfl
 | x::l,q+1,hq,e'=>by
   have:=yq (l:=l) (q:=q) (by simpa using hq) e'
   simp only[List.set_cons_succ,List.flatMap_cons,List.getElem_cons_succ]
   rw[this]
theorem SS.setE {q:Nat}{e':En}(s:SS h0 M h i js l ds lv dv kn sz kvs EL ED R) (hq:q<l.length) (s':St h0 M h' (ED++((i,true,dY lv js kn dv sz)::(js,true,bp kvs)::(EL++(cf (l.set q (l[q].1,e'))++R))))):SS h0 M h' i js (l.set q (l[q].1,e')) ds lv dv kn sz kvs EL ED R:=
 ⟨by rw[yq hq,List.length_set];exact s.al,s.ad,s'⟩
theorem vY {f:Str}{n:Nat}{er:Int}(hd:ds.length<1000000000) (s:SS h0 M h i js l ds lv dv kn sz kvs EL ED R)
  (k:∀ dv' ED' h',SS h0 M h' i js l (ds++[(f,n,er)]) lv dv' kn sz kvs EL ED' R→Q (.tup []) h'):C aM [.ptr i 0,T f,I (n:Nat),I er] h Q:=by
 refine vi _ _ _ _ _ _ ?_
 unfold ri
 have si:=St.startr s.src
 (repeat (first|refine ap ?_|refine ak ?_|refine ai ‹_› (.head _) rfl ?_|refine aK rfl ?_|refine aF rfl rfl ?_))
 refine s.ad.app s.st (xs:=dE (f,n,er)) (m:=1) (Rd.full rfl) rfl (by omega) fun dv' ED' h1 a1 s1=>?_
 refine ap (ak ?_)
 refine xw (L':=ED'++((i,true,dY lv js kn dv' sz)::(js,true,bp kvs)::(EL++(cf l++R)))) a1.v1 s1 (Sub.pre .head _) (nle rfl) fun h2 s2=>?_
 exact k dv' ED' h2 ⟨s.al,by simpa using a1,s2⟩
def yg (syms:Str→Option Int) (e:En):Bool:=if e.x.2.kind=7 then [1,2,4,8,16].any (fun y=>decide ((bi 0 syms (bn e)).1=y)) else decide (0≤(bi 0 syms (bn e)).1)&&decide ((bi 0 syms (bn e)).1≤1000)
def wq (syms:Str→Option Int) (e:En):Bool:=(decide (e.x.2.kind=7)||decide (e.x.2.kind=8))&&(mA (bn e)||decide ((bi 0 syms (bn e)).2≠0)||!yg syms e)
def szD (syms:Str→Option Int) (e:En):List Dg:=if wq syms e=true then [(e.frag,e.x.1,3)] else []
theorem Tc {syms:Str→Option Int}{e:En}(h:szD syms e=[]):SzOk syms e:=by
 unfold szD at h
 split at h
 ·cases h
 ·rename_i hb
  unfold wq yg at hb
  unfold SzOk
  constructor
  ·intro h7
   rw[h7]at hb
   simp only[decide_true,Bool.true_or,Bool.true_and,Bool.or_eq_true,not_or,if_true,Bool.not_eq_true',Bool.not_eq_false,List.any_eq_true,decide_eq_true_eq]at hb
   obtain⟨x,hx,he⟩:=hb.2
   simp at hx
   omega
  ·intro h8
   rw[h8]at hb
   simp at hb
   obtain⟨_,h⟩:=hb
   omega
theorem pI {α:Type}{g:α→List Dg}(hg:∀ x,(g x).length≤1):∀ l:List α,(l.flatMap g).length≤l.length
 | []=>by simp
 | x::l=>by
   have:=pI hg l
   have:=hg x
   simp only[List.flatMap_cons,List.length_append,List.length_cons];omega
theorem LA (syms:Str→Option Int) (e:En):(szD syms e).length≤1:=by unfold szD;split<;>simp
def QL (s0 s3 s12:AV) (h7:ab) (next0:NT):Prop:=
 aE s3 fun t68=>
 ae 0 t68 fun t69=>
 ah t69 h7 fun t70=>
 aE s3 fun t72=>
 ae 1 t72 fun t73=>
 ae 0 t73 fun t74=>
 ah t74 h7 fun t75=>
 C aM [s0,t70,t75,(I 3)] h7 fun t76 h8=>
 aG s12 h8 next0
def Ul (t38 t39 t15 s12 s0:AV) (h4:ab) (next0:NT):Prop:=
 ag .geq t38 (I 0) fun t41=>
 ifB t41 (ag .leq t38 (I 1000) fun t44=>
 aE t15 fun t47=>
 ae 1 t47 fun t48=>
 ae 2 t48 fun t49=>
 ah t49 h4 fun t50=>
 ag .eql t50 (I 7) fun t51=>
 ifB t51 (
 ao 5 1 [(I 1),(I 2),(I 4),(I 8),(I 16)] fun t52=>
 C aX [t52,t38] h4 fun t54 h5=>
 bq t54 t39 t15 s12 s0 h5 next0) (
 bq t44 t39 t15 s12 s0 h4 next0)) (
 aE t15 fun t47=>
 ae 1 t47 fun t48=>
 ae 2 t48 fun t49=>
 ah t49 h4 fun t50=>
 ag .eql t50 (I 7) fun t51=>
 ifB t51 (
 ao 5 1 [(I 1),(I 2),(I 4),(I 8),(I 16)] fun t52=>
 C aX [t52,t38] h4 fun t54 h12=>
 bq t54 t39 t15 s12 s0 h12 next0) (
 bq (B false) t39 t15 s12 s0 h4 next0))
def Tu (s0 t15:AV) (h:ab) (KK:AV→QT):Prop:=
 aE s0 fun t34=>
 ae 1 t34 fun t35=>
 ah t35 h fun t36=>
 C bj [t15] h fun t32 h3=>
 (ah t35 h3 fun _t=>
 _t=t36)∧
 C eT [t32,(I 0),t36] h3 fun t37 h4=>
 aj 0 t37 fun t38=>
 aj 1 t37 fun t39=>KK t38 t39 h4
theorem Te {f:Str→Option Int}{e:En}{p:Nat}{may:Bool}{er:Int}{q:Nat}{next:NT}(hd:ds.length<100000000) (s:SS h0 M h i js l ds lv dv kn sz kvs EL ED R) (hm:(p,e)∈l) (w:WfS e.x.2) (hne:e.x.2.args≠[]) (hq:q<1000000000)
  (k0:(mA (bn e)||decide (er≠0)||!may)=false→∀ h',SS h0 M h' i js l ds lv dv kn sz kvs EL ED R→next [I ((q+1:Nat):Int)] h')
  (k1:(mA (bn e)||decide (er≠0)||!may)=true→∀ dv' ED' h',SS h0 M h' i js l (ds++[(e.frag,e.x.1,3)]) lv dv' kn sz kvs EL ED' R→next [I ((q+1:Nat):Int)] h'):bq (B may) (I er) (.ptr p 0) (I (q:Nat)) (.ptr i 0) h next:=by
 unfold bq
 have hp:=s.ent _ hm
 refine ua hp w hne fun h1 f1=>?_
 have hlast:=t0 w hne
 refine SK _ hlast.1 _ _ fun h2 f2=>?_
 have s2:=(s.call f1).call f2
 have told:(mA (bn e)||decide (er≠0)||!may)=true→QL (.ptr i 0) (.ptr p 0) (I (q:Nat)) h2 next:=by
  unfold QL
  intro hb
  have sp:=St.startr (s2.ent _ hm)
  unfold enE at sp
  (repeat (first|refine ap ?_|refine ak ?_|refine ai ‹_› (.head _) rfl ?_))
  refine vY (by omega) s2 fun dv' ED' h3 s3=>?_
  unfold aG fo
  refine aJ (by omega) ?_
  exact k1 hb dv' ED' h3 s3
 cases hh:mA (bn e) with
 | true=>exact af (fun _=>told (by rw[hh];rfl)) (fun h=>by cases h)
 | false=>
   refine af (fun h=>by cases h) (fun _=>?_)
   refine cr ?_
   refine af (fun he=>told (by rw[hh,he];rfl)) (fun he=>?_)
   refine dy ?_
   refine af (fun hn=>told (by rw[hn];simp)) (fun hn=>?_)
   unfold aG fo
   refine aJ (by omega) ?_
   exact k0 (by rw[hh,he,hn];rfl) h2 s2
theorem O4 {f:Str→Option Int}(hl:l.length<10000000) (hd:ds=[]) (s:SS h0 M h i js l ds lv dv kn sz kvs EL ED R) (nd:(bC kvs).Nodup) (hf:∀ k,bl k kvs=f k) (w:∀ x∈l,WfS x.2.x.2)
  (k:∀ dv' ED' h',SS h0 M h' i js l ((l.map (·.2)).flatMap (szD f)) lv dv' kn sz kvs EL ED' R→Q (.tup []) h'):C bV [.ptr i 0] h Q:=by
 subst hd
 refine ul _ _ _ ?_
 unfold pY
 have si:=St.startr s.src
 (repeat (first|refine ap ?_|refine ak ?_|refine ai ‹_› (.head _) rfl ?_))
 refine s.row.len ?_
 clear si
 refine aP (fun n vs h'=>∃ (q:Nat) (dv':AV) (ED':Own),vs=[I (q:Nat)]∧n+q=l.length∧SS h0 M h' i js l (((l.take q).map (·.2)).flatMap (szD f)) lv dv' kn sz kvs EL ED' R) l.length ⟨0,dv,ED,rfl,by omega,s⟩ ?_
 rintro n vs h1 ⟨q,dv1,ED1,rfl,hn,s1⟩
 have hdl:=pI (LA f) ((l.take q).map (·.2))
 rw[List.length_map,List.length_take]at hdl
 unfold lW
 (repeat refine aL ?_)
 refine af (fun hq=>?_) (fun hq=>?_)<;>simp only[za,zb,zc,zd,ze,zf,zg,zh,zi,u8i,zj,zk,zl]at hq
 ·have hq:q<l.length:=hq
  have hm:=List.getElem_mem hq
  have hsucc:((l.take (q+1)).map (·.2)).flatMap (szD f)=((l.take q).map (·.2)).flatMap (szD f)++szD f l[q].2:=by
   rw[List.take_succ_eq_append_getElem hq,List.map_append,List.flatMap_append,List.map_cons,List.map_nil,List.flatMap_cons,List.flatMap_nil,List.append_nil]
  refine s1.row.idx (fun _=>rfl) hq fun p t=>?_
  refine aD t ?_
  have hp:=s1.ent _ hm
  have sp:=St.startr hp
  unfold enE at sp
  refine ap (ak (ak (ai sp (.head _) rfl (cr ?_))))
  have body:∀ (h2:ab),(l[q].2.x.2.kind=7∨l[q].2.x.2.kind=8)→SS h0 M h2 i js l (((l.take q).map (·.2)).flatMap (szD f)) lv dv1 kn sz kvs EL ED1 R→∀ may,may=yg f l[q].2→bq (B may) (I (bi 0 f (bn l[q].2)).2) (.ptr l[q].1 0) (I (q:Nat)) (.ptr i 0) h2 (fun vs' h'=>∃ m,m<n∧∃ (q:Nat) (dv':AV) (ED':Own),vs'=[I (q:Nat)]∧m+q=l.length∧SS h0 M h' i js l (((l.take q).map (·.2)).flatMap (szD f)) lv dv' kn sz kvs EL ED' R):=by
   intro h2 h78 s2 may hmay
   have hdec:(decide (l[q].2.x.2.kind=7)||decide (l[q].2.x.2.kind=8))=true:=by simpa using h78
   refine Te (f:=f) (e:=l[q].2) (p:=l[q].1) (by omega) s2 hm (w _ hm) ((w _ hm).data (by omega) (by omega)) (by omega) (fun hb h3 s3=>?_) (fun hb dv3 ED3 h3 s3=>?_)
   ·refine⟨n-1,by omega,q+1,dv1,ED1,rfl,by omega,?_⟩
    rw[hsucc,szD,wq,hdec,← hmay,hb];simpa using s3
   ·refine⟨n-1,by omega,q+1,dv3,ED3,rfl,by omega,?_⟩
    rw[hsucc,szD,wq,hdec,← hmay,hb];simpa using s3
  have ev:∀ (KK:AV→QT),(l[q].2.x.2.kind=7∨l[q].2.x.2.kind=8)→(∀ h2,Fr [] h1 h2→KK (I (bi 0 f (bn l[q].2)).1) (I (bi 0 f (bn l[q].2)).2) h2)→Tu (.ptr i 0) (.ptr l[q].1 0) h1 KK:=by
   unfold Tu
   intro KK h78 hk
   have hne:=(w _ hm).data (by omega) (by omega)
   have hlast:=t0 (w _ hm) hne
   have si:=St.startr s1.src
   refine ap (ak (ai si (.head _) rfl ?_))
   refine ua hp (w _ hm) hne fun h2 f2=>?_
   refine⟨ai (si.call f2) (.head _) rfl rfl,?_⟩
   refine m8 hlast.1 hlast.2 0 (MapAt.fr ⟨kvs,s1.syms,nd,hf⟩ f2) fun h3 f3=>?_
   exact aw rfl (aw rfl (hk h3 (f2.trans f3 (by simp))))
  have fin:(l[q].2.x.2.kind=7∨l[q].2.x.2.kind=8)→Tu (.ptr i 0) (.ptr l[q].1 0) h1 fun t38 t39 h4=>Ul t38 t39 (.ptr l[q].1 0) (I (q:Nat)) (.ptr i 0) h4 (fun vs' h'=>∃ m,m<n∧∃ (q:Nat) (dv':AV) (ED':Own),vs'=[I (q:Nat)]∧m+q=l.length∧SS h0 M h' i js l (((l.take q).map (·.2)).flatMap (szD f)) lv dv' kn sz kvs EL ED' R):=by
   intro h78
   refine ev _ h78 fun h2 f2=>?_
   unfold Ul
   have s2:=s1.call f2
   have sp2:=St.startr (s2.ent _ hm)
   unfold enE at sp2
   have cont:∀ h7:l[q].2.x.2.kind=7,C aX [.full 5 [I 1,I 2,I 4,I 8,I 16],I (bi 0 f (bn l[q].2)).1] h2 fun t54 h5=>bq t54 (I (bi 0 f (bn l[q].2)).2) (.ptr l[q].1 0) (I (q:Nat)) (.ptr i 0) h5 (fun vs' h'=>∃ m,m<n∧∃ (q:Nat) (dv':AV) (ED':Own),vs'=[I (q:Nat)]∧m+q=l.length∧SS h0 M h' i js l (((l.take q).map (·.2)).flatMap (szD f)) lv dv' kn sz kvs EL ED' R):=by
    intro h7
    refine y6 (bi 0 f (bn l[q].2)).1 [1,2,4,8,16] (by decide) (Row.full (enc:=iE) (fun _=>rfl) [1,2,4,8,16]) ?_
    exact body h2 h78 s2 _ (by rw[yg,if_pos h7])
   refine cO ?_
   refine af (fun hg=>?_) (fun hg=>?_)<;>simp only[za,zb,zc,zd,ze,zf,zg,zh,zi,u8i,zj,zk,zl]at hg
   ·refine tC ?_
    refine ap (ak (ak (ai sp2 (.head _) rfl (aA ?_))))
    refine af (fun h7=>?_) (fun h7=>?_)<;>simp only[za,zb,zc,zd,ze,zf,zg,zh,zi,u8i,zj,zk,zl]at h7
    ·exact aF rfl rfl (cont (by omega))
    ·refine body h2 h78 s2 _ ?_
     rw[yg,if_neg (by omega),show decide (0≤(bi 0 f (bn l[q].2)).1)=true by simpa using hg];rfl
   ·refine ap (ak (ak (ai sp2 (.head _) rfl (aA ?_))))
    refine af (fun h7=>?_) (fun h7=>?_)<;>simp only[za,zb,zc,zd,ze,zf,zg,zh,zi,u8i,zj,zk,zl]at h7
    ·exact aF rfl rfl (cont (by omega))
    ·refine body h2 h78 s2 _ ?_
     rw[yg,if_neg (by omega),show decide (0≤(bi 0 f (bn l[q].2)).1)=false by simp;omega];rfl
  refine af (fun h7=>?_) (fun h7=>?_)<;>simp only[za,zb,zc,zd,ze,zf,zg,zh,zi,u8i,zj,zk,zl]at h7
  ·refine ap (ak (ak (ai sp (.head _) rfl (cr ?_))))
   refine af (fun h8=>?_) (fun h8=>?_)<;>simp only[za,zb,zc,zd,ze,zf,zg,zh,zi,u8i,zj,zk,zl]at h8
   ·unfold aG fo
    refine aJ (by omega) ?_
    refine⟨n-1,by omega,q+1,dv1,ED1,rfl,by omega,?_⟩
    have hdec:(decide (l[q].2.x.2.kind=7)||decide (l[q].2.x.2.kind=8))=false:=by simp;omega
    rw[hsucc,szD,wq,hdec];simpa using s1
   ·exact fin (.inr (by omega))
  ·exact fin (.inl (by omega))
 ·have hq:q=l.length:=by omega
  subst hq
  rw[List.take_length]at s1
  exact k dv1 ED1 h1 s1
end
end
section
def upd (f:Str→Option Int) (k:Str) (v:Int):Str→Option Int:=fun x=>if x=k then some v else f x
structure FillInv (g:Int→Int) (kvs:KV) (sn:List Nat) (kv:KV):Prop where
 nd:(bC kv).Nodup
 snd:sn.Nodup
 lt:∀ q∈sn,q<kvs.length
 at_:∀ k,bl k kv=if ∃ q∈sn,(bC kvs)[q]?=some k then (bl k kvs).map g else none
theorem FillInv.start {g:Int→Int}{kvs:KV}:FillInv g kvs [] []:=⟨by simp[bC],by simp,by simp,by simp[bl]⟩
theorem FillInv.step {g:Int→Int}{kvs kv:KV}{sn:List Nat}(I:FillInv g kvs sn kv) (nd:(bC kvs).Nodup) {q:Nat}(hq:q<kvs.length) (hn:q∉sn):FillInv g kvs (sn++[q]) (nl kvs[q].1 (g kvs[q].2) kv) where
 nd:=m9 I.nd
 snd:=by
  rw[List.nodup_append]
  exact⟨I.snd,by simp,fun a ha b hb e=>by simp at hb;subst hb;subst e;exact hn ha⟩
 lt:=by
  intro x hx
  simp only[List.mem_append,List.mem_singleton]at hx
  rcases hx with hx|rfl
  ·exact I.lt x hx
  ·exact hq
 at_:=by
  intro k
  rw[kN]
  have hkq:(bC kvs)[q]?=some kvs[q].1:=by simp[bC,hq]
  by_cases hk:k=kvs[q].1
  ·subst hk
   rw[if_pos rfl,if_pos ⟨q,by simp,hkq⟩]
   have hl:bl kvs[q].1 kvs=some kvs[q].2:=(Ds nd).2 (List.getElem_mem hq)
   rw[hl];rfl
  ·rw[if_neg hk,I.at_ k]
   have:(∃ x∈sn++[q],(bC kvs)[x]?=some k)↔∃ x∈sn,(bC kvs)[x]?=some k:=by
    constructor
    ·rintro ⟨x,hx,he⟩
     simp only[List.mem_append,List.mem_singleton]at hx
     rcases hx with hx|rfl
     ·exact⟨x,hx,he⟩
     ·rw[hkq]at he;exact (hk (Option.some.inj he).symm).elim
    ·rintro ⟨x,hx,he⟩
     exact⟨x,by simp[hx],he⟩
   simp only[this]
theorem FillInv.done {g:Int→Int}{kvs kv:KV}{sn:List Nat}(I:FillInv g kvs sn kv) (hall:∀ q,q<kvs.length→q∈sn) (k:Str):bl k kv=(bl k kvs).map g:=by
 rw[I.at_ k]
 split
 ·rfl
 ·rename_i hn
  have:bl k kvs=none:=by
   rw[vK]
   intro hk
   obtain⟨q,hq,e⟩:=List.getElem_of_mem hk
   exact hn ⟨q,hall q (by simpa [bC] using hq),by rw[List.getElem?_eq_getElem hq,e]⟩
  rw[this];rfl
theorem FillInv.less {g:Int→Int}{kvs kv:KV}{sn:List Nat}(I:FillInv g kvs sn kv) {q:Nat}(hq:q<kvs.length) (hn:q∉sn):sn.length<kvs.length:=by
 have hnd:(sn++[q]).Nodup:=by
  rw[List.nodup_append]
  exact⟨I.snd,by simp,fun a ha b hb e=>by simp at hb;subst hb;subst e;exact hn ha⟩
 have:=hnd.length_le_of_subset (l₂:=List.range kvs.length) (fun x hx=>List.mem_range.2 (by
  simp only[List.mem_append,List.mem_singleton]at hx
  rcases hx with hx|rfl
  ·exact I.lt x hx
  ·exact hq))
 simp at this;omega
def lg (e:En):List Str:=e.x.2.lab::(if e.x.2.kind=9 then [e.x.2.text] else [])
abbrev TwS:=(Str→Option Int)×List Dg
def twN (e:En) (st:TwS) (n:Str):TwS:=
 if n=[] then st else (upd st.1 n ((st.1 n).getD 0+1),if 0<(st.1 n).getD 0 then st.2++[(e.frag,e.x.1,2)] else st.2)
def twE (st:TwS) (e:En):TwS:=(lg e).foldl (twN e) st
def tw0 (f:Str→Option Int):TwS:=(fun k=>(f k).map fun _=>1,[])
def qt (f:Str→Option Int) (es:List En):List Dg:=(es.foldl twE (tw0 f)).2
def TwB (st:TwS) (b:Nat):Prop:=st.2.length≤b∧∀ k,0≤(st.1 k).getD 0∧(st.1 k).getD 0≤1+b
theorem TwB.step {st:TwS}{b:Nat}(h:TwB st b) (e:En) (n:Str):TwB (twN e st n) (b+1):=by
 unfold twN
 split
 ·exact⟨by have:=h.1;omega,fun k=>by have:=h.2 k;omega⟩
 ·refine⟨?_,fun k=>?_⟩
  ·have:=h.1
   simp only
   split
   ·simp;omega
   ·omega
  ·have:=h.2 k
   have:=h.2 n
   simp only[upd]
   split
   ·simp;omega
   ·omega
section
variable [Tabs]
variable {h0 h h':ab}{M:List Nat}{Q:QT}{K:AV→Prop}
variable {i js:Nat}{l:List (Nat×En)}{ds:List Dg}{lv dv kn:AV}{sz:Int}{kvs:KV}{EL ED R:Own}
theorem SS.memR {e:Nat×Bool×AObj}(h:e∈R):e∈(ED++((i,true,dY lv js kn dv sz)::(js,true,bp kvs)::(EL++(cf l++R)))):=
 List.mem_append_right _ (.tail _ (.tail _ (List.mem_append_right _ (List.mem_append_right _ h))))
theorem SS.back {e:Nat×Bool×AObj}(s:SS h0 M h i js l ds lv dv kn sz kvs EL ED (e::R)):St h0 M h (e::(ED++((i,true,dY lv js kn dv sz)::(js,true,bp kvs)::(EL++(cf l++R))))):=s.st.perm (by
 have hx:∀ R:Own,(ED++((i,true,dY lv js kn dv sz)::(js,true,bp kvs)::(EL++(cf l++R))))=(ED++((i,true,dY lv js kn dv sz)::(js,true,bp kvs)::(EL++cf l)))++R:=fun R=>by simp
 rw[hx R,hx (e::R)]
 exact List.perm_middle)
def chD (f:Str→Option Int) (es:List En) (e:En):List Dg:=if vG f es e≠0 then [(e.frag,e.x.1,vG f es e)] else []
theorem Mc (f:Str→Option Int) (es:List En) (e:En):(chD f es e).length≤1:=by unfold chD;split<;>simp
theorem sO {β:Type}(g:En→List β) {l:List (Nat×En)}{q:Nat}(hq:q<l.length):((l.take (q+1)).map (·.2)).flatMap g=((l.take q).map (·.2)).flatMap g++g l[q].2:=by
 rw[List.take_succ_eq_append_getElem hq,List.map_append,List.flatMap_append,List.map_cons,List.map_nil,List.flatMap_cons,List.flatMap_nil,List.append_nil]
theorem Qn (hF:cg) (hL:da) {f:Str→Option Int}{jk:Nat}{kvk:KV}(hl:l.length<10000000) (s:SS h0 M h i js l ds lv dv (.map jk) sz kvs EL ED R) (hds:ds=[]) (hk:(jk,true,bp kvk)∈R) (nd:(bC kvk).Nodup) (hf:∀ k,bl k kvk=f k) (w:∀ x∈l,PlE x.2)
  (k:∀ dv' ED' h',SS h0 M h' i js l ((l.map (·.2)).flatMap (chD f (l.map (·.2)))) lv dv' (.map jk) sz kvs EL ED' R→Q (.tup []) h'):C bW [.ptr i 0] h Q:=by
 subst hds
 refine um _ _ _ ?_
 unfold pZ
 have si:=St.startr s.src
 (repeat (first|refine ap ?_|refine ak ?_|refine ai ‹_› (.head _) rfl ?_))
 refine s.row.len ?_
 clear si
 refine aP (fun n vs h'=>∃ (q:Nat) (dv':AV) (ED':Own),vs=[I (q:Nat)]∧n+q=l.length∧SS h0 M h' i js l (((l.take q).map (·.2)).flatMap (chD f (l.map (·.2)))) lv dv' (.map jk) sz kvs EL ED' R) l.length ⟨0,dv,ED,rfl,by omega,s⟩ ?_
 rintro n vs h1 ⟨q,dv1,ED1,rfl,hn,s1⟩
 have hdl:=pI (Mc f (l.map (·.2))) ((l.take q).map (·.2))
 rw[List.length_map,List.length_take]at hdl
 unfold mn
 (repeat refine aL ?_)
 refine af (fun hq=>?_) (fun hq=>?_)<;>simp only[za,zb,zc,zd,ze,zf,zg,zh,zi,u8i,zj,zk,zl]at hq
 ·have hq:q<l.length:=hq
  have hm:=List.getElem_mem hq
  have hsucc:=sO (chD f (l.map (·.2))) hq
  refine s1.row.idx (fun _=>rfl) hq fun p t=>?_
  refine aD t ?_
  refine Pc hF hL (s1.ent _ hm) (w _ hm) s1.src ⟨kvk,s1.rget hk,nd,hf⟩ (by omega) s1.row s1.ent fun h2 f2=>?_
  have s2:=s1.call f2
  refine cr ?_
  refine af (fun hb=>?_) (fun hb=>?_)<;>simp only[za,zb,zc,zd,ze,zf,zg,zh,zi,u8i,zj,zk,zl]at hb
  ·have sp2:=St.startr (s2.ent _ hm)
   unfold enE at sp2
   (repeat (first|refine ap ?_|refine ak ?_|refine ai ‹_› (.head _) rfl ?_))
   refine vY (by omega) s2 fun dv' ED' h3 s3=>?_
   unfold fp iL
   refine aJ (by omega) ?_
   refine⟨n-1,by omega,q+1,dv',ED',rfl,by omega,?_⟩
   rw[hsucc,chD,if_pos hb];exact s3
  ·unfold fp iL
   refine aJ (by omega) ?_
   refine⟨n-1,by omega,q+1,dv1,ED1,rfl,by omega,?_⟩
   rw[hsucc,chD,if_neg (by simpa using hb)];simpa using s2
 ·have hq:q=l.length:=by omega
  subst hq
  rw[List.take_length]at s1
  exact k dv1 ED1 h1 s1
theorem Rh {sz bytes n m:Nat}{x:AV}{as1 cs:List AV}{L:Own}{KH:QT}(s:St h0 M h L) (r:Rd h sz x m cs) (ha:as1.length=n*sz) (hm:0<m) (hb:(n+m)*bytes≤1099511627776) (k1:∀ i h',St h0 M h' ((i,true,.cells (as1++cs))::L)→KH (.sl i 0 (n+m) sz) h'):
  bF sz bytes (.full n as1) x h KH:=⟨by
 simp only[j0,r.2]
 refine⟨⟨ha,hb⟩,?_⟩
 rw[if_neg (by omega)]
 exact k1 _ _ (s.push _)⟩
theorem Bq {e:En}{p jm b:Nat}(hm:(p,e)∈l) (hb:b<100000000) (nm:List Str) (hnm:nm.length≤2) {nv:AV}(hrow:∀ h dv ds ED kv,SS h0 M h i js l ds lv dv kn sz kvs EL ED ((jm,true,bp kv)::R)→Row sE 1 h nv nm)
  {st:TwS} (hst:TwB st b) {kv:KV} (nd:(bC kv).Nodup) (hf:∀ k,bl k kv=st.1 k) {q:Nat} (hq:q<1000000000) (s:SS h0 M h i js l st.2 lv dv kn sz kvs EL ED ((jm,true,bp kv)::R)) {next:NT}
  (k:∀ dv' ED' kv' h',TwB (nm.foldl (twN e) st) (b+nm.length)→(bC kv').Nodup→(∀ k,bl k kv'=(nm.foldl (twN e) st).1 k)→SS h0 M h' i js l (nm.foldl (twN e) st).2 lv dv' kn sz kvs EL ED' ((jm,true,bp kv')::R)→next [I ((q+1:Nat):Int)] h'):
  eK nv (.ptr p 0) (I (q:Nat)) (.map jm) (.ptr i 0) h next:=by
 unfold eK
 refine (hrow _ _ _ _ _ s).len ?_
 refine aP (fun n vs h'=>∃ (t:Nat) (dv':AV) (ED':Own) (kv':KV),vs=[I (t:Nat)]∧n+t=nm.length∧TwB ((nm.take t).foldl (twN e) st) (b+t)∧(bC kv').Nodup∧(∀ k,bl k kv'=((nm.take t).foldl (twN e) st).1 k)∧SS h0 M h' i js l ((nm.take t).foldl (twN e) st).2 lv dv' kn sz kvs EL ED' ((jm,true,bp kv')::R)) nm.length ⟨0,dv,ED,kv,rfl,by omega,hst,nd,hf,s⟩ ?_
 rintro n vs h1 ⟨t,dv1,ED1,kv1,rfl,hn,hb1,nd1,hf1,s1⟩
 unfold lK
 (repeat refine aL ?_)
 refine af (fun ht=>?_) (fun ht=>?_)<;>simp only[za,zb,zc,zd,ze,zf,zg,zh,zi,u8i,zj,zk,zl]at ht
 ·have ht:t<nm.length:=ht
  refine (hrow _ _ _ _ _ s1).idx (fun _=>rfl) ht fun p2 t2=>?_
  refine aD t2 ?_
  have hsucc:(nm.take (t+1)).foldl (twN e) st=twN e ((nm.take t).foldl (twN e) st) nm[t]:=by
   rw[List.take_succ_eq_append_getElem ht,List.foldl_append];rfl
  have hb2:=hb1.step e nm[t]
  generalize hst1:(nm.take t).foldl (twN e) st=st1 at hb1 hf1 s1 hsucc hb2 ⊢
  refine be ?_
  refine af (fun he=>?_) (fun he=>?_)<;>simp only[za,zb,zc,zd,ze,zf,zg,zh,zi,u8i,zj,zk,zl]at he
  ·unfold fu ix
   refine aJ (by omega) ?_
   refine⟨n-1,by omega,t+1,dv1,ED1,kv1,rfl,by omega,?_⟩
   rw[hsucc]
   refine⟨by rw[Nat.add_assoc]at hb2;exact hb2,nd1,?_⟩
   rw[twN,if_pos he]
   exact⟨hf1,s1⟩
  ·have he:nm[t]≠[]:=he
   have hbk:=hb1.2 nm[t]
   have hbl:=hb1.1
   have mm:MapAt h1 jm st1.1:=⟨kv1,s1.rget (.head _),nd1,hf1⟩
   refine mm.look0 ?_
   have hj12:∀ dv2 ED2 h2,SS h0 M h2 i js l (if 0<(st1.1 nm[t]).getD 0 then st1.2++[(e.frag,e.x.1,2)] else st1.2) lv dv2 kn sz kvs EL ED2 ((jm,true,bp kv1)::R)→eO (T nm[t]) (I (t:Nat)) (.map jm) h2 (fun vs' h'=>∃ m,m<n∧∃ (t:Nat) (dv':AV) (ED':Own) (kv':KV),vs'=[I (t:Nat)]∧m+t=nm.length∧TwB ((nm.take t).foldl (twN e) st) (b+t)∧(bC kv').Nodup∧(∀ k,bl k kv'=((nm.take t).foldl (twN e) st).1 k)∧SS h0 M h' i js l ((nm.take t).foldl (twN e) st).2 lv dv' kn sz kvs EL ED' ((jm,true,bp kv')::R)):=by
    intro dv2 ED2 h2 s2
    unfold eO
    have mm2:MapAt h2 jm st1.1:=⟨kv1,s2.rget (.head _),nd1,hf1⟩
    refine mm2.look0 ?_
    refine aJ (by omega) ?_
    refine pq s2.st (SS.subR .head) fun h3 s3=>?_
    unfold fu ix
    refine aJ (by omega) ?_
    refine⟨n-1,by omega,t+1,dv2,ED2,nl nm[t] ((st1.1 nm[t]).getD 0+1) kv1,rfl,by omega,?_⟩
    rw[hsucc]
    refine⟨by rw[Nat.add_assoc]at hb2;exact hb2,m9 nd1,?_⟩
    rw[twN,if_neg he]
    exact⟨fun k=>by rw[kN,hf1];rfl,⟨s2.al,s2.ad,s3⟩⟩
   refine cH ?_
   refine af (fun hg=>?_) (fun hg=>?_)<;>simp only[za,zb,zc,zd,ze,zf,zg,zh,zi,u8i,zj,zk,zl]at hg
   ·have sp:=St.startr (s1.ent _ hm)
    unfold enE at sp
    refine ap (ak (ai sp (.head _) rfl (ap (ak (ak (ai sp (.head _) rfl ?_))))))
    refine vY (by omega) s1 fun dv' ED' h3 s3=>?_
    exact hj12 dv' ED' h3 (by rw[if_pos hg];exact s3)
   ·exact hj12 dv1 ED1 h1 (by rw[if_neg (by omega)];exact s1)
 ·have ht:t=nm.length:=by omega
  subst ht
  rw[List.take_length]at hb1 hf1 s1
  refine aJ (by omega) ?_
  exact k dv1 ED1 kv1 h1 hb1 nd1 hf1 s1
theorem P7 {f:Str→Option Int}(hl:l.length<10000000) (hds:ds=[]) (s:SS h0 M h i js l ds lv dv kn sz kvs EL ED R) (nd:(bC kvs).Nodup) (hf:∀ k,bl k kvs=f k)
  (k:∀ dv' ED' h',SS h0 M h' i js l (qt f (l.map (·.2))) lv dv' kn sz kvs EL ED' R→Q (.tup []) h'):C bU [.ptr i 0] h Q:=by
 subst hds
 refine uq _ _ _ ?_
 unfold p8
 refine u7 s.st fun jm h1 s1=>?_
 have s1:=s.front s1
 have si:=St.startr s1.src
 (repeat (first|refine ap ?_|refine ak ?_|refine ai ‹_› (.head _) rfl ?_))
 clear si
 refine Dh s1.st s1.syms fun it h2 s2=>?_
 have s2:=s1.front s2
 refine aP (fun n vs h'=>∃ (sn:List Nat) (kv:KV),vs=[]∧n+sn.length=kvs.length∧FillInv (fun _=>1) kvs sn kv∧SS h0 M h' i js l [] lv dv kn sz kvs EL ED ((it,true,DV js kvs sn)::(jm,true,bp kv)::R)) kvs.length ⟨[],[],rfl,by simp,.start,s2⟩ ?_
 rintro n vs h3 ⟨sn,kv,rfl,hn,fi,s3⟩
 unfold lO
 refine IP s3.back s3.syms (fun hall=>?_) (fun q hq hnq h4 s4=>?_)
 ·refine aw rfl (af (fun h=>by cases h) (fun _=>?_))
  have hdone:=fi.done hall
  have s5:=s3.unR (List.sublist_cons_self _ _)
  have si:=St.startr s5.src
  (repeat (first|refine ap ?_|refine ak ?_|refine ai ‹_› (.head _) rfl ?_))
  clear si
  refine s5.row.len ?_
  refine aP (fun n vs h'=>∃ (q:Nat) (dv':AV) (ED':Own) (kv':KV),vs=[I (q:Nat)]∧n+q=l.length∧TwB (((l.take q).map (·.2)).foldl twE (tw0 f)) (2*q)∧(bC kv').Nodup∧(∀ k,bl k kv'=(((l.take q).map (·.2)).foldl twE (tw0 f)).1 k)∧SS h0 M h' i js l (((l.take q).map (·.2)).foldl twE (tw0 f)).2 lv dv' kn sz kvs EL ED' ((jm,true,bp kv')::R)) l.length ⟨0,dv,ED,kv,rfl,by omega,⟨by simp[tw0],fun k=>by simp[tw0];cases f k<;>simp⟩,fi.nd,fun k=>by rw[hdone,hf];rfl,s5⟩ ?_
  rintro n vs h6 ⟨q,dv1,ED1,kv1,rfl,hn,hb1,nd1,hf1,s6⟩
  unfold lN
  (repeat refine aL ?_)
  refine af (fun hq=>?_) (fun hq=>?_)<;>simp only[za,zb,zc,zd,ze,zf,zg,zh,zi,u8i,zj,zk,zl]at hq
  ·have hq:q<l.length:=hq
   have hm:=List.getElem_mem hq
   have hsucc:((l.take (q+1)).map (·.2)).foldl twE (tw0 f)=twE (((l.take q).map (·.2)).foldl twE (tw0 f)) l[q].2:=by
    rw[List.take_succ_eq_append_getElem hq,List.map_append,List.foldl_append];rfl
   generalize hst1:((l.take q).map (·.2)).foldl twE (tw0 f)=st1 at hb1 hf1 s6 hsucc
   refine s6.row.idx (fun _=>rfl) hq fun p t=>?_
   refine aD t ?_
   have sp:=St.startr (s6.ent _ hm)
   unfold enE at sp
   refine ap (ak (ak (ai sp (.head _) rfl (aF rfl rfl (ap (ak (ak (ai sp (.head _) rfl (aA ?_)))))))))
   have fin:∀ (nm:List Str) (dv' ED' kv' h'),nm=lg l[q].2→TwB (nm.foldl (twN l[q].2) st1) (2*q+nm.length)→(bC kv').Nodup→(∀ k,bl k kv'=(nm.foldl (twN l[q].2) st1).1 k)→SS h0 M h' i js l (nm.foldl (twN l[q].2) st1).2 lv dv' kn sz kvs EL ED' ((jm,true,bp kv')::R)→nm.length≤2→
     (fun vs' h'=>∃ m,m<n∧∃ (q:Nat) (dv':AV) (ED':Own) (kv':KV),vs'=[I (q:Nat)]∧m+q=l.length∧TwB (((l.take q).map (·.2)).foldl twE (tw0 f)) (2*q)∧(bC kv').Nodup∧(∀ k,bl k kv'=(((l.take q).map (·.2)).foldl twE (tw0 f)).1 k)∧SS h0 M h' i js l (((l.take q).map (·.2)).foldl twE (tw0 f)).2 lv dv' kn sz kvs EL ED' ((jm,true,bp kv')::R)) [I ((q+1:Nat):Int)] h':=by
    rintro nm dv' ED' kv' h' rfl hb' nd' hf' s' hl2
    refine⟨n-1,by omega,q+1,dv',ED',kv',rfl,by omega,?_⟩
    rw[hsucc]
    exact⟨⟨by have:=hb'.1;unfold twE;omega,fun k=>by have:=hb'.2 k;unfold twE;omega⟩,nd',hf',s'⟩
   refine af (fun h9=>?_) (fun h9=>?_)<;>simp only[za,zb,zc,zd,ze,zf,zg,zh,zi,u8i,zj,zk,zl]at h9
   ·have h9:l[q].2.x.2.kind=9:=by omega
    have hnm:[l[q].2.x.2.lab,l[q].2.x.2.text]=lg l[q].2:=by rw[lg,if_pos h9]
    refine ap (ak (ak (ai sp (.head _) rfl (aF rfl rfl ?_))))
    refine Rh s6.st (Rd.full (n:=1) (cs:=[T l[q].2.x.2.text]) rfl) rfl (by decide) (by decide) fun jn h7 s7=>?_
    have s7:=s6.front s7
    have s8:SS h0 M h7 i js l st1.2 lv dv1 kn sz kvs EL ED1 ((jm,true,bp kv1)::(jn,true,.cells [T l[q].2.x.2.lab,T l[q].2.x.2.text])::R):=⟨s7.al,s7.ad,s7.st.perm (by
     refine List.Perm.append_left _ (List.Perm.cons _ (List.Perm.cons _ (List.Perm.append_left _ (List.Perm.append_left _ (List.Perm.swap _ _ _))))))⟩
    refine Bq (e:=l[q].2) hm (b:=2*q) (by omega) [l[q].2.x.2.lab,l[q].2.x.2.text] (by simp) (fun h dv ds ED kv s=>?_) hb1 nd1 hf1 (by omega) s8 fun dv' ED' kv' h' b1 n1 f1 s9=>?_
    ·exact Row.sl (enc:=sE) (l:=[l[q].2.x.2.lab,l[q].2.x.2.text]) (fun _=>rfl) (s.rget (.tail _ (.head _)))
    ·refine fin _ dv' ED' kv' h' hnm b1 n1 f1 ⟨s9.al,s9.ad,?_⟩ (by simp)
     exact (s9.unR (.cons₂ _ (List.sublist_cons_self _ _))).st
   ·have hnm:[l[q].2.x.2.lab]=lg l[q].2:=by rw[lg,if_neg (by omega)]
    refine Bq (e:=l[q].2) hm (b:=2*q) (by omega) [l[q].2.x.2.lab] (by simp) (fun h dv ds ED kv s=>?_) hb1 nd1 hf1 (by omega) s6 fun dv' ED' kv' h' b1 n1 f1 s9=>?_
    ·exact Row.full (enc:=sE) (fun _=>rfl) [l[q].2.x.2.lab]
    ·exact fin _ dv' ED' kv' h' hnm b1 n1 f1 s9 (by simp)
  ·have hq:q=l.length:=by omega
   subst hq
   rw[List.take_length]at s6
   exact k dv1 ED1 h6 (s6.unR (List.sublist_cons_self _ _))
 ·have s4:=(s3.unR (List.sublist_cons_self _ _)).front s4
  refine aw rfl (af (fun _=>?_) (fun h=>by cases h))
  refine Db s4.st (b:=true) (i:=it) (SS.memR (.head _)) s4.syms hq ?_
  refine aw rfl ?_
  refine pq s4.st (SS.subR (.tail .head)) fun h5 s5=>?_
  have hlt:=fi.less hq hnq
  exact⟨n-1,by omega,sn++[q],_,rfl,by simp;omega,fi.step nd hq hnq,⟨s4.al,s4.ad,s5⟩⟩
end
end
section
section
variable [Tabs]
def ny (e:En) (a:Int):En:=⟨e.frag,e.x,a,e.grown⟩
def dx (syms:Str→Option Int) (st:List En×Int) (e:En):List En×Int:=(st.1++[(ny e st.2)],st.2+fM syms (ny e st.2))
def cd (syms:Str→Option Int) (es:List En):List En×Int:=es.foldl (dx syms) ([],0)
end
def M7 (f:Str→Option Int) (e:En):Str→Option Int:=if e.x.2.lab≠[] then upd f e.x.2.lab e.place else f
def Bo (f:Str→Option Int) (es:List En):Str→Option Int:=es.foldl M7 f
abbrev EqS:=(Str→Option Int)×Bool
def dB (st:EqS) (e:En):EqS:=if e.x.2.kind=9∧st.1 e.x.2.text=none∧(bi e.place st.1 (bn e)).2=0 then (upd st.1 e.x.2.text (bi e.place st.1 (bn e)).1,true) else st
def ik (es:List En) (f:Str→Option Int):EqS:=es.foldl dB (f,false)
def uE (es:List En):Nat→(Str→Option Int)→(Str→Option Int)
 | 0,f=>f
 | n+1,f=>if (ik es f).2=true then uE es n (ik es f).1 else (ik es f).1
def Rc (f:Str→Option Int) (e:En):Bool:=decide (e.x.2.kind=9)&&(f e.x.2.text).isNone
def und (es:List En) (f:Str→Option Int):Nat:=es.countP (Rc f)
theorem x8 {α:Type}{p q:α→Bool}:∀ {l:List α},(∀ x∈l,p x=true→q x=true)→(∃ x∈l,q x=true∧p x=false)→l.countP p<l.countP q
 | [],_,⟨x,hx,_⟩=>by simp at hx
 | a::l,h1,⟨x,hx,hq,hp⟩=>by
   have hle:l.countP p≤l.countP q:=List.countP_mono_left fun y hy=>h1 y (.tail _ hy)
   rw[List.countP_cons,List.countP_cons]
   rcases List.mem_cons.1 hx with rfl|hx
   ·rw[hq,hp];simp;omega
   ·have:=x8 (fun y hy=>h1 y (.tail _ hy)) ⟨x,hx,hq,hp⟩
    have h3:=h1 a (.head _)
    cases hpa:p a with
    | true=>rw[h3 hpa];simp;omega
    | false=>simp only[Bool.false_eq_true,if_false];split<;>omega
theorem H6 (st:EqS) (e:En) (k:Str) (h:(st.1 k).isSome=true):((dB st e).1 k).isSome=true:=by
 unfold dB
 split
 ·simp only[upd];split
  ·rfl
  ·exact h
 ·exact h
theorem sU (k:Str):∀ (es:List En) (st:EqS),(st.1 k).isSome=true→((es.foldl dB st).1 k).isSome=true
 | [],_,h=>h
 | e::es,st,h=>sU k es _ (H6 st e k h)
theorem B4:∀ (es:List En) (st:EqS),st.2=false→(es.foldl dB st).2=true→∃ e∈es,e.x.2.kind=9∧st.1 e.x.2.text=none∧((es.foldl dB st).1 e.x.2.text).isSome=true
 | [],st,h0,h=>by simp at h;rw[h0]at h;cases h
 | e::es,st,h0,h=>by
   rw[List.foldl_cons]at h ⊢
   by_cases hc:e.x.2.kind=9∧st.1 e.x.2.text=none∧(bi e.place st.1 (bn e)).2=0
   ·refine⟨e,.head _,hc.1,hc.2.1,sU _ es _ ?_⟩
    unfold dB;rw[if_pos hc];simp[upd]
   ·have:dB st e=st:=by unfold dB;rw[if_neg hc]
    rw[this]at h ⊢
    obtain⟨x,hx,h1⟩:=B4 es st h0 h
    exact⟨x,.tail _ hx,h1⟩
theorem Gk {es:List En}{f:Str→Option Int}(h:(ik es f).2=true):und es (ik es f).1<und es f:=by
 obtain⟨e,he,h9,hn,hs⟩:=B4 es (f,false) rfl h
 refine x8 (fun x hx hp=>?_) ⟨e,he,?_,?_⟩
 ·unfold Rc at hp ⊢
  simp only[Bool.and_eq_true]at hp ⊢
  refine⟨hp.1,?_⟩
  cases hf:f x.x.2.text with
  | none=>rfl
  | some v=>
    have:=sU x.x.2.text es (f,false) (by simp[hf])
    unfold ik at hp
    simp only[Option.isNone_iff_eq_none]at hp
    rw[hp.2]at this;cases this
 ·unfold Rc;simp only at hn;rw[hn];simp[h9]
 ·unfold Rc
  unfold ik
  simp only[Bool.and_eq_false_iff]
  right
  cases hx:(List.foldl dB (f,false) es).1 e.x.2.text with
  | none=>rw[hx]at hs;cases hs
  | some v=>rfl
section
variable [Tabs]
def bR (syms:Str→Option Int) (es:List En):List En×(Str→Option Int)×Int:=
 ((cd syms es).1,uE (cd syms es).1 (es.length+1) (Bo syms (cd syms es).1),(cd syms es).2)
theorem vj (syms:Str→Option Int):∀ (es:List En) (st:List En×Int),(es.foldl (dx syms) st).1.length=st.1.length+es.length
 | [],st=>by simp
 | e::es,st=>by rw[List.foldl_cons,vj syms es];simp[dx];omega
variable {h0 h h':ab}{M:List Nat}{Q:QT}{K:AV→Prop}
variable {i js:Nat}{l:List (Nat×En)}{ds:List Dg}{lv dv kn:AV}{sz:Int}{kvs:KV}{EL ED R:Own}
theorem Th {jk:Nat}{f F:Str→Option Int}{kv:KV}(hl:l.length<10000000) (w:∀ x∈l,WfS x.2.x.2) (nd:(bC kv).Nodup) (hf:∀ k,bl k kv=f k) (hF:F=uE (l.map (·.2)) (l.length+1) f) (s:SS h0 M h i js l ds lv dv (.map jk) sz kvs EL ED ((jk,true,bp kv)::R))
  (k:∀ kv' h',(bC kv').Nodup→(∀ k,bl k kv'=F k)→SS h0 M h' i js l ds lv dv (.map jk) sz kvs EL ED ((jk,true,bp kv')::R)→Q (.tup []) h'):
  cC [(B true)] h fun vs12 h next12=>fX (.ptr i 0) Q vs12 h next12:=by
 generalize hes:l.map (·.2)=es at hF
 refine aP (fun n vs h'=>∃ (f:Str→Option Int) (kv:KV),(bC kv).Nodup∧(∀ k,bl k kv=f k)∧SS h0 M h' i js l ds lv dv (.map jk) sz kvs EL ED ((jk,true,bp kv)::R)∧((vs=[B true]∧und es f<n∧uE es n f=F)∨(vs=[B false]∧f=F))) (l.length+1) ⟨f,kv,nd,hf,s,.inl ⟨rfl,?_,hF.symm⟩⟩ ?_
 ·have:und es f≤es.length:=List.countP_le_length
  rw[← hes,List.length_map]at this
  rw[← hes];omega
 rintro n vs h1 ⟨f1,kv1,nd1,hf1,s1,⟨rfl,hu,hfix⟩|⟨rfl,rfl⟩⟩
 ·unfold fX
  refine af (fun _=>?_) (fun h=>by cases h)
  obtain⟨m,rfl⟩:∃ m,n=m+1:=⟨n-1,by omega⟩
  rw[uE]at hfix
  have si:=St.startr s1.src
  (repeat (first|refine ap ?_|refine ak ?_|refine ai ‹_› (.head _) rfl ?_))
  clear si
  refine s1.row.len ?_
  refine aP (fun n2 vs h'=>∃ (q:Nat) (kv:KV),vs=[B ((es.take q).foldl dB (f1,false)).2,I (q:Nat)]∧n2+q=l.length∧(bC kv).Nodup∧(∀ k,bl k kv=((es.take q).foldl dB (f1,false)).1 k)∧SS h0 M h' i js l ds lv dv (.map jk) sz kvs EL ED ((jk,true,bp kv)::R)) l.length ⟨0,kv1,rfl,by omega,nd1,hf1,s1⟩ ?_
  rintro n2 vs h2 ⟨q,kv2,rfl,hn,nd2,hf2,s2⟩
  unfold nb
  (repeat refine aL ?_)
  refine af (fun hq=>?_) (fun hq=>?_)<;>simp only[za,zb,zc,zd,ze,zf,zg,zh,zi,u8i,zj,zk,zl]at hq
  ·have hq:q<l.length:=hq
   have hqe:q<es.length:=by rw[← hes];simpa using hq
   have heq:es[q]=l[q].2:=by subst hes;simp
   have hm:=List.getElem_mem hq
   have hw:=w _ hm
   have hsucc:(es.take (q+1)).foldl dB (f1,false)=dB ((es.take q).foldl dB (f1,false)) l[q].2:=by
    rw[List.take_succ_eq_append_getElem hqe,List.foldl_append,heq];rfl
   generalize hst:(es.take q).foldl dB (f1,false)=st at hf2 hsucc ⊢
   refine s2.row.idx (fun _=>rfl) hq fun p t=>?_
   refine aD t ?_
   have si:=St.startr s2.src
   have sp:=St.startr (s2.ent _ hm)
   unfold enE at sp
   refine ap (ak (ai si (.head _) rfl (ap (ak (ak (ai sp (.head _) rfl ?_))))))
   have mm:MapAt h2 jk st.1:=⟨kv2,s2.rget (.head _),nd2,hf2⟩
   refine mm.look ?_
   refine aw rfl (aw rfl (ap (ak (ak (ai sp (.head _) rfl (cr ?_))))))
   have skip:dB st l[q].2=st→∀ h',SS h0 M h' i js l ds lv dv (.map jk) sz kvs EL ED ((jk,true,bp kv2)::R)→cL (B st.2) (I (q:Nat)) h' (fun vs' h'=>∃ m,m<n2∧∃ (q:Nat) (kv:KV),vs'=[B ((es.take q).foldl dB (f1,false)).2,I (q:Nat)]∧m+q=l.length∧(bC kv).Nodup∧(∀ k,bl k kv=((es.take q).foldl dB (f1,false)).1 k)∧SS h0 M h' i js l ds lv dv (.map jk) sz kvs EL ED ((jk,true,bp kv)::R)):=by
    intro he h' s'
    unfold cL jl
    refine aJ (by omega) ?_
    refine⟨n2-1,by omega,q+1,kv2,?_⟩
    rw[hsucc,he]
    exact⟨rfl,by omega,nd2,hf2,s'⟩
   refine af (fun h9=>?_) (fun h9=>?_)<;>simp only[za,zb,zc,zd,ze,zf,zg,zh,zi,u8i,zj,zk,zl]at h9
   ·exact skip (by unfold dB;rw[if_neg (fun hc=>by omega)]) h2 s2
   ·have h9:l[q].2.x.2.kind=9:=by omega
    cases hl:st.1 l[q].2.x.2.text with
    | some y=>
      refine af (fun _=>?_) (fun h=>by cases h)
      exact skip (by unfold dB;rw[if_neg (fun hc=>by rw[hl]at hc;cases hc.2.1)]) h2 s2
    | none=>
      refine af (fun h=>by cases h) (fun _=>?_)
      refine ap (ak (ai sp (.head _) rfl (ap (ak (ai si (.head _) rfl ?_)))))
      have hne:=hw.data (by omega) (by omega)
      have hlast:=t0 hw hne
      refine ua (s2.ent _ hm) hw hne fun h3 f3=>?_
      refine⟨ai (si.call f3) (.head _) rfl rfl,ai (sp.call f3) (.head _) rfl rfl,?_⟩
      refine m8 hlast.1 hlast.2 _ (mm.fr f3) fun h4 f4=>?_
      have s4:=(s2.call f3).call f4
      refine aw rfl (aw rfl (aA ?_))
      refine af (fun he=>?_) (fun he=>?_)<;>simp only[za,zb,zc,zd,ze,zf,zg,zh,zi,u8i,zj,zk,zl]at he
      ·have si4:=St.startr s4.src
       have sp4:=St.startr (s4.ent _ hm)
       unfold enE at sp4
       refine ap (ak (ai si4 (.head _) rfl (ap (ak (ak (ai sp4 (.head _) rfl ?_))))))
       refine MF s4.st (by rw[hf2];exact hl) (SS.subR .head) fun h5 s5=>?_
       unfold cL jl
       refine aJ (by omega) ?_
       refine⟨n2-1,by omega,q+1,nl l[q].2.x.2.text (bi l[q].2.place st.1 (bn l[q].2)).1 kv2,?_⟩
       rw[hsucc,dB,if_pos ⟨h9,hl,he⟩]
       exact⟨rfl,by omega,m9 nd2,fun k=>by rw[kN,hf2];rfl,⟨s4.al,s4.ad,s5⟩⟩
      ·exact skip (by unfold dB;rw[if_neg (fun hc=>he hc.2.2)]) h4 s4
  ·have hql:es.length≤q:=by rw[← hes,List.length_map];omega
   rw[List.take_of_length_le hql]at hf2 ⊢
   have hr:ik es f1=es.foldl dB (f1,false):=rfl
   rw[← hr]at hf2 ⊢
   cases hmore:(ik es f1).2 with
   | true=>
     rw[if_pos hmore]at hfix
     have:=Gk hmore
     exact⟨m,by omega,_,kv2,nd2,hf2,s2,.inl ⟨rfl,by omega,hfix⟩⟩
   | false=>
     rw[if_neg (by rw[hmore];simp)]at hfix
     exact⟨0,by omega,_,kv2,nd2,hf2,s2,.inr ⟨rfl,hfix⟩⟩
 ·unfold fX
  refine af (fun h=>by cases h) (fun _=>?_)
  exact k kv1 h1 nd1 hf1 s1
end
end
section
section
variable [Tabs]
variable {h0 h h':ab}{M:List Nat}{Q:QT}{K:AV→Prop}
variable {i js:Nat}{l:List (Nat×En)}{ds:List Dg}{lv dv kn:AV}{sz:Int}{kvs:KV}{EL ED R:Own}
theorem SzOk.place {f:Str→Option Int}{e:En}(h:SzOk f e) (at_:Int):SzOk f (ny e at_):=h
theorem sI (syms:Str→Option Int) {es:List En}{q:Nat}(hq:q<es.length):cd syms (es.take (q+1))=dx syms (cd syms (es.take q)) es[q]:=by
 unfold cd
 rw[List.take_succ_eq_append_getElem hq,List.foldl_append];rfl
theorem xf {syms:Str→Option Int}{es:List En}(w:∀ e∈es,WfS e.x.2) (hs:∀ e∈es,SzOk syms e):∀ q,q≤es.length→0≤(cd syms (es.take q)).2∧(cd syms (es.take q)).2≤4000000000*(q:Int)
 | 0,_=>by simp[cd]
 | q+1,hq=>by
   have ih:=xf w hs q (by omega)
   have hq:q<es.length:=by omega
   rw[sI syms hq]
   have hm:=List.getElem_mem hq
   have:=rS (f:=syms) (e:=(ny es[q] (cd syms (es.take q)).2)) (w es[q] hm) (SzOk.place (hs es[q] hm) _) ih.1
   simp only[dx];omega
theorem xH {syms:Str→Option Int}{es:List En}(w:∀ e∈es,WfS e.x.2) (hs:∀ e∈es,SzOk syms e):∀ q,q≤es.length→∀ e∈(cd syms (es.take q)).1,(∃ e0∈es,e.x=e0.x∧e.frag=e0.frag∧e.grown=e0.grown)∧0≤e.place∧e.place≤4000000000*(q:Int)
 | 0,_,e,he=>by simp[cd]at he
 | q+1,hq,e,he=>by
   have hq:q<es.length:=by omega
   have hin:=xf w hs q (by omega)
   rw[sI syms hq]at he
   simp only[dx,List.mem_append,List.mem_singleton]at he
   rcases he with he|rfl
   ·have:=xH w hs q (by omega) e he
    exact⟨this.1,this.2.1,by omega⟩
   ·exact⟨⟨es[q],List.getElem_mem hq,rfl,rfl,rfl⟩,hin.1,by simp only[ny];omega⟩
theorem Q4 (hl:l.length<100000) {f:Str→Option Int}{jk:Nat}{kv0:KV}(nds:(bC kvs).Nodup) (hfs:∀ k,bl k kvs=f k) (w:∀ x∈l,WfS x.2.x.2) (hs:∀ x∈l,SzOk f x.2) (nd0:(bC kv0).Nodup) (hf0:∀ k,bl k kv0=f k)
  (s:SS h0 M h i js l ds lv dv (.map jk) sz kvs EL ED ((jk,true,bp kv0)::R))
  (k:∀ l' kv' h',l'.map (·.1)=l.map (·.1)→l'.map (·.2)=(bR f (l.map (·.2))).1→(bC kv').Nodup→(∀ k,bl k kv'=(bR f (l.map (·.2))).2.1 k)→SS h0 M h' i js l' ds lv dv (.map jk) (bR f (l.map (·.2))).2.2 kvs EL ED ((jk,true,bp kv')::R)→Q (.tup []) h'):
  cC [(I 0),(I 0)] h fun vs6 h next6=>jb (I (l.length:Nat)) lv (.ptr i 0) Q vs6 h next6:=by
 generalize hes:l.map (·.2)=es at k
 have hel:es.length=l.length:=by rw[← hes];simp
 have wes:∀ e∈es,WfS e.x.2:=by
  intro e he;rw[← hes,List.mem_map]at he;obtain⟨x,hx,rfl⟩:=he;exact w x hx
 have ses:∀ e∈es,SzOk f e:=by
  intro e he;rw[← hes,List.mem_map]at he;obtain⟨x,hx,rfl⟩:=he;exact hs x hx
 refine aP (fun n vs h'=>∃ (q:Nat) (l':List (Nat×En)) (kv:KV),vs=[I (cd f (es.take q)).2,I (q:Nat)]∧n+q=l.length∧l'.map (·.1)=l.map (·.1)∧l'.map (·.2)=(cd f (es.take q)).1++es.drop q∧(bC kv).Nodup∧(∀ k,bl k kv=Bo f (cd f (es.take q)).1 k)∧SS h0 M h' i js l' ds lv dv (.map jk) sz kvs EL ED ((jk,true,bp kv)::R)) l.length ⟨0,l,kv0,rfl,by omega,rfl,by rw[hes];rfl,nd0,hf0,s⟩ ?_
 rintro n vs h1 ⟨q,l1,kv1,rfl,hn,hp1,he1,nd1,hf1,s1⟩
 have hl1:l1.length=l.length:=by simpa using congrArg List.length hp1
 have hpl:=vj f (es.take q) ([],0)
 have hpl:(cd f (es.take q)).1.length=q:=by
  unfold cd;rw[hpl,List.length_take];simp;omega
 unfold jb
 (repeat refine aL ?_)
 refine af (fun hq=>?_) (fun hq=>?_)<;>simp only[za,zb,zc,zd,ze,zf,zg,zh,zi,u8i,zj,zk,zl]at hq
 ·have hq:q<l1.length:=by omega
  have hqe:q<es.length:=by omega
  have hq0:q<l.length:=by omega
  have hm:=List.getElem_mem hq
  have hin:=xf wes ses q (by omega)
  have hsucc:=sI f hqe
  have hent:l1[q].2=es[q]:=by
   have:(l1.map (·.2))[q]?=some es[q]:=by
    rw[he1,List.getElem?_append_right (by omega),hpl];simp[hqe]
   rw[List.getElem?_map,List.getElem?_eq_getElem hq]at this
   simpa using this
  generalize hat:(cd f (es.take q)).2=at_ at hin ⊢
  refine s1.row.idx (fun _=>rfl) hq fun p t=>?_
  refine aD t ?_
  refine ap (ak ?_)
  refine aB (L':=ED++((i,true,dY lv js (.map jk) dv sz)::(js,true,bp kvs)::(EL++(cf (l1.set q (l1[q].1,(ny l1[q].2 at_)))++((jk,true,bp kv1)::R))))) (cs:=enE l1[q].2) s1.st (SS.subE hq (ny l1[q].2 at_)) rfl rfl rfl (nle rfl) fun h2 s2=>?_
  have s2:=s1.setE hq s2
  have hm2:(l1[q].1,(ny l1[q].2 at_))∈l1.set q (l1[q].1,(ny l1[q].2 at_)):=List.mem_set hq _
  have hmap1:(l1.set q (l1[q].1,(ny l1[q].2 at_))).map (·.1)=l.map (·.1):=by
   have h1:l1[q].1=(l1.map (·.1))[q]'(by simpa using hq):=by simp
   rw[List.map_set,h1,List.set_getElem_self];exact hp1
  have hmap2:(l1.set q (l1[q].1,(ny l1[q].2 at_))).map (·.2)=((cd f (es.take q)).1++[(ny es[q] at_)])++es.drop (q+1):=by
   rw[List.map_set,he1,List.set_append_right _ _ (by omega),hpl,List.drop_eq_getElem_cons hqe,Nat.sub_self,List.set_cons_zero,hent,List.append_assoc]
   rfl
  have hw:WfS l1[q].2.x.2:=by rw[hent];exact wes _ (List.getElem_mem hqe)
  have hso:SzOk f (ny l1[q].2 at_):=by rw[hent];exact SzOk.place (ses _ (List.getElem_mem hqe)) _
  have hex:(ny l1[q].2 at_).x=l1[q].2.x:=rfl
  have hepl:(ny l1[q].2 at_).place=at_:=rfl
  have hpe:dx f (cd f (es.take q)) es[q]=((cd f (es.take q)).1++[(ny l1[q].2 at_)],at_+fM f (ny l1[q].2 at_)):=by rw[dx,hat,hent]
  rw[← hent]at hmap2
  generalize he2:(ny l1[q].2 at_)=e2 at s2 hm2 hmap1 hmap2 hso hex hepl hpe
  rw[← hex]at hw
  generalize hl2:l1.set q (l1[q].1,e2)=l2 at s2 hm2 hmap1 hmap2
  have sp:=St.startr (s2.ent _ hm2)
  unfold enE at sp
  have hj:∀ h3 kv3,(bC kv3).Nodup→(∀ k,bl k kv3=M7 (Bo f (cd f (es.take q)).1) e2 k)→SS h0 M h3 i js l2 ds lv dv (.map jk) sz kvs EL ED ((jk,true,bp kv3)::R)→ga (.ptr l1[q].1 0) (I at_) (I (q:Nat)) (.ptr i 0) h3 (fun vs' h'=>∃ m,m<n∧∃ (q:Nat) (l':List (Nat×En)) (kv:KV),vs'=[I (cd f (es.take q)).2,I (q:Nat)]∧m+q=l.length∧l'.map (·.1)=l.map (·.1)∧l'.map (·.2)=(cd f (es.take q)).1++es.drop q∧(bC kv).Nodup∧(∀ k,bl k kv=Bo f (cd f (es.take q)).1 k)∧SS h0 M h' i js l' ds lv dv (.map jk) sz kvs EL ED ((jk,true,bp kv)::R)):=by
   intro h3 kv3 nd3 hf3 s3
   unfold ga
   refine FU (e:=e2) (s3.ent _ hm2) hw s3.src ⟨kvs,s3.syms,nds,hfs⟩ hso (by rw[hepl];omega) fun h4 f4=>?_
   have hlong:=rS (f:=f) (e:=e2) hw hso (by rw[hepl];exact hin.1)
   refine aJ (by omega) ?_
   refine aJ (by omega) ?_
   refine⟨n-1,by omega,q+1,l2,kv3,?_⟩
   rw[hsucc,hpe]
   refine⟨rfl,by omega,hmap1,?_,nd3,?_,s3.call f4⟩
   ·exact hmap2
   ·intro k;rw[hf3];simp only[Bo,List.foldl_append,List.foldl_cons,List.foldl_nil]
  refine ap (ak (ak (ai sp (.head _) rfl (sZ ?_))))
  refine af (fun hlab=>?_) (fun hlab=>?_)<;>simp only[za,zb,zc,zd,ze,zf,zg,zh,zi,u8i,zj,zk,zl]at hlab
  ·have si:=St.startr s2.src
   refine ap (ak (ai si (.head _) rfl (ap (ak (ak (ai sp (.head _) rfl ?_))))))
   refine pq s2.st (SS.subR .head) fun h3 s3=>?_
   refine hj h3 _ (m9 nd1) (fun k=>?_) ⟨s2.al,s2.ad,s3⟩
   rw[kN,hf1,M7,if_pos (show e2.x.2.lab≠[] from hlab),hepl];rfl
  ·refine hj h2 kv1 nd1 (fun k=>?_) s2
   rw[hf1,M7,if_neg (by simpa using hlab)]
 ·have hq:q=l.length:=by omega
  subst hq
  rw[show es.take l.length=es by rw[← hel,List.take_length]]at he1 hf1 ⊢
  rw[show es.drop l.length=[] by rw[← hel,List.drop_length],List.append_nil]at he1
  refine ap (ak ?_)
  refine aB (L':=ED++((i,true,dY lv js (.map jk) dv (cd f es).2)::(js,true,bp kvs)::(EL++(cf l1++((jk,true,bp kv1)::R))))) (cs:=[lv,.map js,.map jk,dv,I sz]) s1.st SS.subS rfl rfl rfl (nle rfl) fun h2 s2=>?_
  have s2:SS h0 M h2 i js l1 ds lv dv (.map jk) (cd f es).2 kvs EL ED ((jk,true,bp kv1)::R):=⟨s1.al,s1.ad,s2⟩
  refine Th (F:=(bR f es).2.1) (by omega) (fun x hx=>?_) nd1 hf1 ?_ s2 fun kv' h' nd' hf' s'=>?_
  ·have hx2:x.2∈(cd f es).1:=by rw[← he1];exact List.mem_map.2 ⟨x,hx,rfl⟩
   have:=xH wes ses es.length (Nat.le_refl _) x.2 (by rw[List.take_length];exact hx2)
   obtain⟨⟨e0,h0,h1,_⟩,_⟩:=this
   rw[h1];exact wes _ h0
  ·rw[he1,hl1,← hel];rfl
  ·exact k l1 kv' h' hp1 he1 nd' hf' s'
theorem Pw (hl:l.length<100000) {f:Str→Option Int}(nds:(bC kvs).Nodup) (hfs:∀ k,bl k kvs=f k) (w:∀ x∈l,WfS x.2.x.2) (hs:∀ x∈l,SzOk f x.2)
  (s:SS h0 M h i js l ds lv dv kn sz kvs EL ED R)
  (k:∀ l' jk kv' h',l'.map (·.1)=l.map (·.1)→l'.map (·.2)=(bR f (l.map (·.2))).1→(bC kv').Nodup→(∀ k,bl k kv'=(bR f (l.map (·.2))).2.1 k)→SS h0 M h' i js l' ds lv dv (.map jk) (bR f (l.map (·.2))).2.2 kvs EL ED ((jk,true,bp kv')::R)→Q (.tup []) h'):C gH [.ptr i 0] h Q:=by
 refine vM _ _ _ ?_
 unfold sB
 refine u7 s.st fun jk h1 s1=>?_
 have s1:=s.front s1
 refine ap (ak ?_)
 refine aB (L':=ED++((i,true,dY lv js (.map jk) dv sz)::(js,true,bp kvs)::(EL++(cf l++((jk,true,.amap [] 0)::R))))) (cs:=[lv,.map js,kn,dv,I sz]) s1.st SS.subS rfl rfl rfl (nle rfl) fun h2 s2=>?_
 have s2:SS h0 M h2 i js l ds lv dv (.map jk) sz kvs EL ED ((jk,true,bp [])::R):=⟨s.al,s.ad,s2⟩
 have si:=St.startr s2.src
 (repeat (first|refine ap ?_|refine ak ?_|refine ai ‹_› (.head _) rfl ?_))
 clear si
 refine Dh s2.st s2.syms fun it h3 s3=>?_
 have s3:=s2.front s3
 refine aP (fun n vs h'=>∃ (sn:List Nat) (kv:KV),vs=[]∧n+sn.length=kvs.length∧FillInv (fun v=>v) kvs sn kv∧SS h0 M h' i js l ds lv dv (.map jk) sz kvs EL ED ((it,true,DV js kvs sn)::(jk,true,bp kv)::R)) kvs.length ⟨[],[],rfl,by simp,.start,s3⟩ ?_
 rintro n vs h4 ⟨sn,kv,rfl,hn,fi,s4⟩
 unfold nz
 refine IP s4.back s4.syms (fun hall=>?_) (fun q hq hnq h5 s5=>?_)
 ·refine aw rfl (af (fun h=>by cases h) (fun _=>?_))
  have hdone:=fi.done hall
  have s5:=s4.unR (List.sublist_cons_self _ _)
  have si:=St.startr s5.src
  (repeat (first|refine ap ?_|refine ak ?_|refine ai ‹_› (.head _) rfl ?_))
  clear si
  refine s5.row.len ?_
  refine Q4 hl nds hfs w hs fi.nd (fun k=>by rw[hdone,hfs];cases f k<;>rfl) s5 fun l' kv' h' a b c d e=>k l' jk kv' h' a b c d e
 ·have s5:=(s4.unR (List.sublist_cons_self _ _)).front s5
  refine aw rfl (af (fun _=>?_) (fun h=>by cases h))
  refine Db s5.st (b:=true) (i:=it) (SS.memR (.head _)) s5.syms hq ?_
  have si:=St.startr s5.src
  (repeat (first|refine ap ?_|refine ak ?_|refine aw rfl ?_|refine ai ‹_› (.head _) rfl ?_))
  clear si
  refine pq s5.st (SS.subR (.tail .head)) fun h6 s6=>?_
  have hlt:=fi.less hq hnq
  exact⟨n-1,by omega,sn++[q],_,rfl,by simp;omega,fi.step nds hq hnq,⟨s5.al,s5.ad,s6⟩⟩
end
end
section
section
variable [Tabs]
def gZ (f:Str→Option Int) (e:En):Bool:=decide (e.x.2.kind=2)&&(!e.grown&&(decide ((bi e.place f (bn e)).2=0)&&!(fH (gb 0) [(bi e.place f (bn e)).1-e.place]).isSome))
end
def JI (e:En):En:=⟨e.frag,e.x,e.place,true⟩
def gX (x:Nat×En):Nat×En:=(x.1,JI x.2)
def grF (p:Nat×En→Bool):Nat→List (Nat×En)→List (Nat×En)
 | 0,l=>l
 | _+1,[]=>[]
 | t+1,x::l=>if p x=true then gX x::grF p t l else x::grF p (t+1) l
theorem QX (p:Nat×En→Bool) (l:List (Nat×En)):grF p 0 l=l:=by cases l<;>simp[grF]
theorem Bx (p:Nat×En→Bool):∀ (l:List (Nat×En)) (t:Nat) (ht:t<(l.filter p).length),∃ q,∃ hq:q<(grF p t l).length,(grF p t l)[q]=(l.filter p)[t]∧grF p (t+1) l=(grF p t l).set q (gX (l.filter p)[t])
 | [],t,ht=>by simp at ht
 | x::l,t,ht=>by
   by_cases hp:p x=true
   ·cases t with
    | zero=>exact⟨0,by simp[grF],by simp[grF,hp],by simp[grF,hp]⟩
    | succ t=>
      have ht2:t<(l.filter p).length:=by simpa [List.filter_cons,hp] using ht
      obtain⟨q,hq,h1,h2⟩:=Bx p l t ht2
      refine⟨q+1,by simp[grF,hp];exact hq,?_,?_⟩
      ·simp[grF,hp,List.filter_cons,h1]
      ·simp[grF,hp,List.filter_cons,h2]
   ·have hf:(x::l).filter p=l.filter p:=by simp[List.filter_cons,hp]
    have ht2:t<(l.filter p).length:=by rw[hf]at ht;exact ht
    obtain⟨q,hq,h1,h2⟩:=Bx p l t ht2
    cases t with
    | zero=>
      refine⟨q+1,by simp[grF]at hq ⊢;exact hq,?_,?_⟩
      ·simp[grF,hf];simpa [grF] using h1
      ·simp[grF,hp,hf];simpa [grF] using h2
    | succ t=>
      refine⟨q+1,by simp[grF,hp];exact hq,?_,?_⟩
      ·simp[grF,hp,hf,h1]
      ·simp[grF,hp,hf];simpa [grF] using h2
theorem zH (p:Nat×En→Bool):∀ l:List (Nat×En),grF p (l.filter p).length l=l.map fun x=>if p x=true then gX x else x
 | []=>by simp[grF]
 | x::l=>by
   by_cases hp:p x=true
   ·simp[List.filter_cons,hp,grF,zH p l]
   ·have hf:(x::l).filter p=l.filter p:=by simp[List.filter_cons,hp]
    rw[hf,List.map_cons,if_neg hp]
    cases hn:(l.filter p).length with
    | zero=>
      have:=zH p l
      rw[hn]at this
      simp only[grF]at this ⊢
      rw[← this]
    | succ n=>
      have:=zH p l
      rw[hn]at this
      rw[grF,if_neg hp,this]
section
variable [Tabs]
def gD (f:Str→Option Int) (e:En):En:=if gZ f e=true then JI e else e
variable {h0 h h':ab}{M:List Nat}{Q:QT}{K:AV→Prop}
variable {i js:Nat}{l:List (Nat×En)}{ds:List Dg}{lv dv kn:AV}{sz:Int}{kvs:KV}{EL ED R:Own}
theorem SS.frontL {E:Own}(s':St h0 M h' (E++(ED++((i,true,dY lv js kn dv sz)::(js,true,bp kvs)::(EL++(cf l++R)))))) (s:SS h0 M h i js l ds lv dv kn sz kvs EL ED R):SS h0 M h' i js l ds lv dv kn sz kvs EL ED (E++R):=⟨s.al,s.ad,s'.perm (by
 have hx:∀ R:Own,(ED++((i,true,dY lv js kn dv sz)::(js,true,bp kvs)::(EL++(cf l++R))))=(ED++((i,true,dY lv js kn dv sz)::(js,true,bp kvs)::(EL++cf l)))++R:=fun R=>by simp
 rw[hx R,hx (E++R),← List.append_assoc,← List.append_assoc _ E]
 exact List.Perm.append_right _ List.perm_append_comm)⟩
theorem SS.backL {E:Own}(s:SS h0 M h i js l ds lv dv kn sz kvs EL ED (E++R)):St h0 M h (E++(ED++((i,true,dY lv js kn dv sz)::(js,true,bp kvs)::(EL++(cf l++R))))):=s.st.perm (by
 have hx:∀ R:Own,(ED++((i,true,dY lv js kn dv sz)::(js,true,bp kvs)::(EL++(cf l++R))))=(ED++((i,true,dY lv js kn dv sz)::(js,true,bp kvs)::(EL++cf l)))++R:=fun R=>by simp
 rw[hx R,hx (E++R)]
 exact List.perm_append_comm_assoc _ _ _)
theorem SS.unL {E:Own}(s:SS h0 M h i js l ds lv dv kn sz kvs EL ED (E++R)):SS h0 M h i js l ds lv dv kn sz kvs EL ED R:=s.unR (List.sublist_append_right _ _)
theorem P8:gb 0<tbl.length:=by decide
theorem Rt (hF:cg) (hL:da) (hl:l.length<10000000) {f:Str→Option Int}{jk:Nat}{kv:KV}(nd:(bC kv).Nodup) (hf:∀ k,bl k kv=f k) (w:∀ x∈l,PlE x.2)
  (s:SS h0 M h i js l ds lv dv (.map jk) sz kvs EL ED ((jk,true,bp kv)::R))
  (k:∀ h',SS h0 M h' i js (l.map fun x=>(x.1,gD f x.2)) ds lv dv (.map jk) sz kvs EL ED ((jk,true,bp kv)::R)→Q (B ((l.map (·.2)).any (gZ f))) h'):C ju [.ptr i 0] h Q:=by
 refine u5 _ _ _ ?_
 unfold rt
 have si:=St.startr s.src
 (repeat (first|refine ap ?_|refine ak ?_|refine ai ‹_› (.head _) rfl ?_))
 clear si
 refine s.row.len ?_
 let pB:Nat×En→Bool:=fun x=>gZ f x.2
 refine aP (fun n vs h'=>∃ (q:Nat) (v:AV) (E:Own),vs=[v,I (q:Nat)]∧n+q=l.length∧AccE 1 v ((l.take q).filter pB).length (((l.take q).filter pB).flatMap pE) E∧SS h0 M h' i js l ds lv dv (.map jk) sz kvs EL ED (E++((jk,true,bp kv)::R))) l.length ⟨0,.full 0 [],[],rfl,by omega,.none 1,s⟩ ?_
 rintro n vs h1 ⟨q,v,E,rfl,hn,a,s1⟩
 unfold mu
 (repeat refine aL ?_)
 refine af (fun hq=>?_) (fun hq=>?_)<;>simp only[za,zb,zc,zd,ze,zf,zg,zh,zi,u8i,zj,zk,zl]at hq
 ·have hq:q<l.length:=hq
  have hm:=List.getElem_mem hq
  have hw:=w _ hm
  have hlo:=hw.lo
  have hhi:=hw.hi
  have hfl:((l.take q).filter pB).length≤q:=by
   have:=List.length_filter_le pB (l.take q)
   rw[List.length_take]at this;omega
  refine s1.row.idx (fun _=>rfl) hq fun p t=>?_
  refine aD t ?_
  have sp:=St.startr (s1.ent _ hm)
  have si:=St.startr s1.src
  unfold enE at sp
  have hno:pB l[q]=false→(l.take (q+1)).filter pB=(l.take q).filter pB:=fun hb=>by
   rw[List.take_succ_eq_append_getElem hq,List.filter_append];simp[hb]
  have hyes:pB l[q]=true→(l.take (q+1)).filter pB=(l.take q).filter pB++[l[q]]:=fun hb=>by
   rw[List.take_succ_eq_append_getElem hq,List.filter_append];simp[hb]
  have skip:pB l[q]=false→∀ h',SS h0 M h' i js l ds lv dv (.map jk) sz kvs EL ED (E++((jk,true,bp kv)::R))→cn v (I (q:Nat)) h' (fun vs' h'=>∃ m,m<n∧∃ (q:Nat) (v:AV) (E:Own),vs'=[v,I (q:Nat)]∧m+q=l.length∧AccE 1 v ((l.take q).filter pB).length (((l.take q).filter pB).flatMap pE) E∧SS h0 M h' i js l ds lv dv (.map jk) sz kvs EL ED (E++((jk,true,bp kv)::R))):=by
   intro hb h' s'
   unfold cn je
   refine aJ (by omega) ?_
   exact⟨n-1,by omega,q+1,v,E,rfl,by omega,by rw[hno hb];exact a,s'⟩
  refine ap (ak (ak (ai sp (.head _) rfl (cr ?_))))
  refine af (fun h2=>?_) (fun h2=>?_)<;>simp only[za,zb,zc,zd,ze,zf,zg,zh,zi,u8i,zj,zk,zl]at h2
  ·exact skip (by show gZ f l[q].2=false;unfold gZ;rw[show decide (l[q].2.x.2.kind=2)=false by simp;omega];rfl) h1 s1
  ·have h2:l[q].2.x.2.kind=2:=by omega
   refine ap (ak (ai sp (.head _) rfl ?_))
   have hgb:pB l[q]=(!l[q].2.grown&&(decide ((bi l[q].2.place f (bn l[q].2)).2=0)&&!(fH (gb 0) [(bi l[q].2.place f (bn l[q].2)).1-l[q].2.place]).isSome)):=by
    show gZ f l[q].2=_
    unfold gZ;rw[show decide (l[q].2.x.2.kind=2)=true by simpa using h2,Bool.true_and]
   cases hg:l[q].2.grown with
   | true=>exact af (fun _=>skip (by rw[hgb,hg];rfl) h1 s1) (fun h=>by cases h)
   | false=>
     refine af (fun h=>by cases h) (fun _=>?_)
     rw[hg,Bool.not_false,Bool.true_and]at hgb
     have hrd:0<l[q].2.x.2.args.length:=by
      have:=(hw.wf.grow h2).2.1
      have h3:∀ n,n<3→0<(cM (aU (gb n))).length:=by decide
      have:=h3 _ (hw.wf.grow h2).1
      omega
     have hne:l[q].2.x.2.args≠[]:=List.length_pos_iff.1 hrd
     have hlast:=t0 hw.wf hne
     refine ap (ak (ai sp (.head _) rfl (ap (ak (ai si (.head _) rfl ?_)))))
     refine ua (s1.ent _ hm) hw.wf hne fun h3 f3=>?_
     refine⟨ai (si.call f3) (.head _) rfl rfl,ai (sp.call f3) (.head _) rfl rfl,?_⟩
     have mm:MapAt h1 jk f:=⟨kv,s1.rget (List.mem_append_right _ (.head _)),nd,hf⟩
     refine m8 hlast.1 hlast.2 _ (mm.fr f3) fun h4 f4=>?_
     have s4:=(s1.call f3).call f4
     have hin:=Bh l[q].2.place f (bn l[q].2)
     generalize bi l[q].2.place f (bn l[q].2)=ev at hgb hin ⊢
     refine aw rfl (aw rfl (aA ?_))
     refine af (fun he=>?_) (fun he=>?_)<;>simp only[za,zb,zc,zd,ze,zf,zg,zh,zi,u8i,zj,zk,zl]at he
     ·rw[show decide (ev.2=0)=true by simpa using he,Bool.true_and]at hgb
      have sp4:=St.startr (s4.ent _ hm)
      unfold enE at sp4
      refine ap (ak (ai sp4 (.head _) rfl (dh (by omega) (aF rfl rfl ?_))))
      refine Gp (n:=0) (by decide) fun h5 f5=>?_
      refine⟨ai (sp4.call f5) (.head _) rfl rfl,?_⟩
      refine aK rfl ?_
      have s5:=s4.call f5
      refine H9 hF hL P8 [ev.1-l[q].2.place] (by intro x hx;simp at hx;subst hx;unfold dp;omega) (Row.full (enc:=iE) (fun _=>rfl) [ev.1-l[q].2.place]) fun h6 f6=>?_
      have s6:=s5.call f6
      refine dy ?_
      cases hc:(fH (gb 0) [ev.1-l[q].2.place]).isSome with
      | true=>exact af (fun h=>by cases h) (fun _=>skip (by rw[hgb,hc];rfl) h6 s6)
      | false=>
        refine af (fun _=>?_) (fun h=>by cases h)
        refine aF rfl rfl ?_
        have hb:pB l[q]=true:=by rw[hgb,hc];rfl
        refine a.app s6.backL (xs:=pE l[q]) (m:=1) (Rd.full rfl) rfl (by omega) fun v3 E3 h8 a3 s8=>?_
        unfold cn je
        refine aJ (by omega) ?_
        refine⟨n-1,by omega,q+1,v3,E3,rfl,by omega,?_,SS.frontL s8 s6.unL⟩
        rw[hyes hb];simpa using a3
     ·exact skip (by rw[hgb,show decide (ev.2=0)=false by simpa using he];rfl) h4 s4
 ·have hq:q=l.length:=by omega
  subst hq
  rw[List.take_length]at a
  have hflen:(l.filter pB).length≤l.length:=List.length_filter_le _ _
  have rowF:∀ h l',SS h0 M h i js l' ds lv dv (.map jk) sz kvs EL ED (E++((jk,true,bp kv)::R))→Row pE 1 h v (l.filter pB):=fun h l' s=>a.rd s.backL
  refine (rowF _ _ s1).len ?_
  have hany:(l.map (·.2)).any (gZ f)=decide (0<(l.filter pB).length):=by
   rw[List.any_map,Bool.eq_iff_iff,decide_eq_true_eq,List.any_eq_true]
   constructor
   ·rintro ⟨x,hx,hp⟩;exact List.length_pos_of_mem (List.mem_filter.2 ⟨hx,hp⟩)
   ·intro hp
    obtain⟨x,hx⟩:=List.exists_mem_of_length_pos hp
    rw[List.mem_filter]at hx
    exact⟨x,hx.1,hx.2⟩
  rw[hany]at k
  have hall:(l.map fun x=>(x.1,gD f x.2))=grF pB (l.filter pB).length l:=by
   rw[zH]
   apply List.map_congr_left
   intro x _
   unfold gD
   show _=if gZ f x.2=true then _ else _
   split<;>rfl
  rw[hall]at k
  refine aP (fun n vs h'=>∃ (t:Nat),vs=[I (t:Nat)]∧n+t=(l.filter pB).length∧SS h0 M h' i js (grF pB t l) ds lv dv (.map jk) sz kvs EL ED (E++((jk,true,bp kv)::R))) (l.filter pB).length ⟨0,rfl,by omega,by rw[QX];exact s1⟩ ?_
  rintro n2 vs h2 ⟨t,rfl,hn2,s2⟩
  unfold mD
  (repeat refine aL ?_)
  refine af (fun ht=>?_) (fun ht=>?_)<;>simp only[za,zb,zc,zd,ze,zf,zg,zh,zi,u8i,zj,zk,zl]at ht
  ·have ht:t<(l.filter pB).length:=ht
   refine (rowF _ _ s2).idx (fun _=>rfl) ht fun p2 t2=>?_
   refine aD t2 ?_
   obtain⟨q,hq,h1q,h2q⟩:=Bx pB l t ht
   rw[← h1q]at h2q ⊢
   refine ap (ak ?_)
   refine aB (L':=ED++((i,true,dY lv js (.map jk) dv sz)::(js,true,bp kvs)::(EL++(cf ((grF pB t l).set q ((grF pB t l)[q].1,JI (grF pB t l)[q].2))++(E++((jk,true,bp kv)::R)))))) (cs:=enE (grF pB t l)[q].2) s2.st (SS.subE hq (JI (grF pB t l)[q].2)) rfl rfl rfl (nle rfl) fun h3 s3=>?_
   have s3:=s2.setE hq s3
   refine aJ (by omega) ?_
   refine⟨n2-1,by omega,t+1,rfl,by omega,?_⟩
   rw[h2q];exact s3
  ·have ht:t=(l.filter pB).length:=by omega
   rw[ht]at s2
   refine (rowF _ _ s2).len ?_
   refine cH ?_
   rw[show decide ((0:Int)<((l.filter pB).length:Nat))=decide (0<(l.filter pB).length) by simp]
   exact k h2 s2.unL
end
end
section
section
variable [Tabs]
abbrev Pl:=List En×(Str→Option Int)×Int
def ew (f:Str→Option Int):Nat→List En→Pl
 | 0,es=>bR f es
 | n+1,es=>if (bR f es).1.any (gZ (bR f es).2.1)=true then ew f n ((bR f es).1.map (gD (bR f es).2.1)) else bR f es
def unG (e:En):Bool:=decide (e.x.2.kind=2)&&!e.grown
theorem zG (f:Str→Option Int) (e:En):(gD f e).x=e.x∧(gD f e).frag=e.frag∧(gD f e).place=e.place:=by unfold gD;split<;>exact⟨rfl,rfl,rfl⟩
theorem qa (syms:Str→Option Int):∀ (es:List En) (st:List En×Int),((es.foldl (dx syms) st).1).countP unG=st.1.countP unG+es.countP unG
 | [],st=>by simp
 | e::es,st=>by
   rw[List.foldl_cons,qa syms es,List.countP_cons]
   simp only[dx,List.countP_append,List.countP_cons,List.countP_nil]
   have:unG (ny e st.2)=unG e:=rfl
   rw[this];omega
theorem w7 {f:Str→Option Int}{es:List En}(h:es.any (gZ f)=true):(es.map (gD f)).countP unG<es.countP unG:=by
 rw[List.countP_map]
 refine x8 (fun e he hp=>?_) ?_
 ·simp only[Function.comp]at hp
  unfold gD at hp
  split at hp
  ·simp[unG,JI]at hp
  ·exact hp
 ·rw[List.any_eq_true]at h
  obtain⟨e,he,hg⟩:=h
  refine⟨e,he,?_,?_⟩
  ·unfold gZ at hg;unfold unG
   simp only[Bool.and_eq_true]at hg ⊢
   exact⟨hg.1,hg.2.1⟩
  ·simp only[Function.comp]
   unfold gD;rw[if_pos hg];simp[unG,JI]
theorem SE {f:Str→Option Int}{es:List En}(h:es.any (gZ f)=true):0<es.countP unG:=by
 have:=w7 h;omega
variable {h0 h h':ab}{M:List Nat}{Q:QT}{K:AV→Prop}
variable {i js:Nat}{l:List (Nat×En)}{ds:List Dg}{lv dv kn:AV}{sz:Int}{kvs:KV}{EL ED R:Own}
theorem Ka {f:Str→Option Int}{es:List En}(hl:es.length<100000) (w:∀ e∈es,WfS e.x.2) (hs:∀ e∈es,SzOk f e):∀ e∈(bR f es).1,PlE e∧SzOk f e:=by
 intro e he
 have:=xH w hs es.length (Nat.le_refl _) e (by rw[List.take_length];exact he)
 obtain⟨⟨e0,h0,h1,h2,h3⟩,h4,h5⟩:=this
 refine⟨⟨by rw[h1];exact w _ h0,h4,by omega⟩,?_⟩
 have:=hs _ h0
 unfold SzOk bn sG at this ⊢
 rw[h1];exact this
theorem iW (f:Str→Option Int) (es:List En):(bR f es).1.length=es.length:=by
 have:=vj f es ([],0)
 simpa [bR,cd] using this
theorem MZ (hF:cg) (hL:da) (hl:l.length<100000) {f:Str→Option Int}(nds:(bC kvs).Nodup) (hfs:∀ k,bl k kvs=f k) (w:∀ x∈l,WfS x.2.x.2) (hs:∀ x∈l,SzOk f x.2) (hds:ds=[])
  (s:SS h0 M h i js l ds lv dv kn sz kvs EL ED R)
  (k:∀ l' jk kv' dv' ED' h',l'.map (·.1)=l.map (·.1)→l'.map (·.2)=(ew f l.length (l.map (·.2))).1→(∀ x∈l',PlE x.2∧SzOk f x.2)→(bC kv').Nodup→(∀ k,bl k kv'=(ew f l.length (l.map (·.2))).2.1 k)→
   SS h0 M h' i js l' (if 4096<(ew f l.length (l.map (·.2))).2.2 then [([],0,8)] else []) lv dv' (.map jk) (ew f l.length (l.map (·.2))).2.2 kvs EL ED' ((jk,true,bp kv')::R)→Q (.tup []) h'):C bP [.ptr i 0] h Q:=by
 subst hds
 generalize hP:ew f l.length (l.map (·.2))=P at k
 refine rM _ _ _ ?_
 unfold og
 refine Pw hl nds hfs w hs s fun l1 jk1 kv1 h1 hm1 he1 nd1 hf1 s1=>?_
 have hw1:∀ e∈l.map (·.2),WfS e.x.2:=by
  intro e he;rw[List.mem_map]at he;obtain⟨x,hx,rfl⟩:=he;exact w x hx
 have hs1:∀ e∈l.map (·.2),SzOk f e:=by
  intro e he;rw[List.mem_map]at he;obtain⟨x,hx,rfl⟩:=he;exact hs x hx
 refine aP (fun n vs h'=>∃ (es:List En) (l1:List (Nat×En)) (jk:Nat) (kv:KV),vs=[]∧es.length<100000∧(∀ e∈es,WfS e.x.2)∧(∀ e∈es,SzOk f e)∧l1.map (·.1)=l.map (·.1)∧l1.map (·.2)=(bR f es).1∧(bC kv).Nodup∧(∀ k,bl k kv=(bR f es).2.1 k)∧
  es.countP unG≤n∧ew f n es=P∧SS h0 M h' i js l1 [] lv dv (.map jk) (bR f es).2.2 kvs EL ED ((jk,true,bp kv)::R)) l.length ⟨l.map (·.2),l1,jk1,kv1,rfl,by simpa using hl,hw1,hs1,hm1,he1,nd1,hf1,by have:=List.countP_le_length (p:=unG) (l:=l.map (·.2));simpa using this,hP,s1⟩ ?_
 rintro n vs h2 ⟨es,l2,jk,kv,rfl,hel,hwe,hse,hm2,he2,nd2,hf2,hcnt,hfix,s2⟩
 unfold l7
 have hl2:l2.length=l.length:=by simpa using congrArg List.length hm2
 have hwl:∀ x∈l2,PlE x.2∧SzOk f x.2:=fun x hx=>Ka hel hwe hse x.2 (by rw[← he2];exact List.mem_map.2 ⟨x,hx,rfl⟩)
 have hcl:(bR f es).1.countP unG=es.countP unG:=by
  have:=qa f es ([],0)
  simpa [bR,cd] using this
 refine Rt hF hL (by omega) nd2 hf2 (fun x hx=>(hwl x hx).1) s2 fun h3 s3=>?_
 rw[he2]
 cases hany:(bR f es).1.any (gZ (bR f es).2.1) with
 | true=>
   refine af (fun _=>?_) (fun h=>by cases h)
   have hpos:=SE hany
   obtain⟨m,rfl⟩:∃ m,n=m+1:=⟨n-1,by omega⟩
   rw[ew,if_pos hany]at hfix
   have hmap2:(l2.map fun x=>(x.1,gD (bR f es).2.1 x.2)).map (·.2)=(bR f es).1.map (gD (bR f es).2.1):=by
    rw[List.map_map,← he2,List.map_map];rfl
   have hmap1:(l2.map fun x=>(x.1,gD (bR f es).2.1 x.2)).map (·.1)=l.map (·.1):=by
    rw[List.map_map,← hm2];rfl
   refine Pw (by rw[List.length_map];omega) nds hfs (fun x hx=>?_) (fun x hx=>?_) s3 fun l4 jk4 kv4 h4 hm4 he4 nd4 hf4 s4=>?_
   ·rw[List.mem_map]at hx;obtain⟨y,hy,rfl⟩:=hx
    simp only[(zG _ _).1];exact (hwl y hy).1.wf
   ·rw[List.mem_map]at hx;obtain⟨y,hy,rfl⟩:=hx
    have:=(hwl y hy).2
    unfold SzOk bn sG at this ⊢
    simp only[(zG _ _).1];exact this
   rw[hmap2]at he4 hf4 s4
   refine⟨m,by omega,(bR f es).1.map (gD (bR f es).2.1),l4,jk4,kv4,rfl,by rw[List.length_map,iW];exact hel,fun e he=>?_,fun e he=>?_,by rw[hm4,hmap1],he4,nd4,hf4,?_,hfix,s4.unR ((List.sublist_cons_self _ _).cons₂ _)⟩
   ·rw[List.mem_map]at he;obtain⟨y,hy,rfl⟩:=he
    rw[(zG _ _).1];exact (Ka hel hwe hse y hy).1.wf
   ·rw[List.mem_map]at he;obtain⟨y,hy,rfl⟩:=he
    have:=(Ka hel hwe hse y hy).2
    unfold SzOk bn sG at this ⊢
    rw[(zG _ _).1];exact this
   ·have:=w7 hany;omega
 | false=>
   refine af (fun h=>by cases h) (fun _=>?_)
   have hP2:bR f es=P:=by
    rw[← hfix]
    cases n with
    | zero=>rfl
    | succ n=>rw[ew,if_neg (by rw[hany];simp)]
   have hid:(l2.map fun x=>(x.1,gD (bR f es).2.1 x.2))=l2:=by
    have:∀ x∈l2,(x.1,gD (bR f es).2.1 x.2)=x:=by
     intro x hx
     have hx2:x.2∈(bR f es).1:=by rw[← he2];exact List.mem_map.2 ⟨x,hx,rfl⟩
     rw[List.any_eq_false]at hany
     have:=hany _ hx2
     unfold gD;rw[if_neg this]
    conv=>rhs;rw[← List.map_id l2]
    exact List.map_congr_left this
   rw[hid]at s3
   rw[hP2]at he2 hf2 s3
   have si:=St.startr s3.src
   (repeat (first|refine ap ?_|refine ak ?_|refine cH ?_|refine ai ‹_› (.head _) rfl ?_))
   clear si
   refine af (fun hb=>?_) (fun hb=>?_)<;>simp only[za,zb,zc,zd,ze,zf,zg,zh,zi,u8i,zj,zk,zl]at hb
   ·rw[if_pos hb]at k
    refine vY (by simp) s3 fun dv' ED' h4 s4=>?_
    exact k l2 jk kv dv' ED' h4 hm2 he2 hwl nd2 hf2 s4
   ·rw[if_neg (by omega)]at k
    exact k l2 jk kv dv ED h3 hm2 he2 hwl nd2 hf2 s3
