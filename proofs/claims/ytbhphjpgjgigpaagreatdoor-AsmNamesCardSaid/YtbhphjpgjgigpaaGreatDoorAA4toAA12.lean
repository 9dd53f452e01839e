import Derived.Test.YtbhphjpgjgigpaaGreatDoorAN2toAA3
set_option linter.all false
set_option autoImplicit true
set_option relaxedAutoImplicit true
set_option maxRecDepth 100000
namespace Go.Proofs.YtbhphjpgjgigpaaGreatDoor.AL
noncomputable section
section
def cm (e:En):Prop:=e.x.2.kind=1∨e.x.2.kind=2
instance (e:En):Decidable (cm e):=inferInstanceAs (Decidable (_∨_))
def cC (e:En):Prop:=e.x.2.kind=3∨e.x.2.kind=4∨e.x.2.kind=5
instance (e:En):Decidable (cC e):=inferInstanceAs (Decidable (_∨_))
section
variable [Tabs]
def uc (kind:Nat) (vs:List Int):Bool:=vs.any (fun v=>decide (v<(mU kind).1))||vs.any (fun v=>decide ((mU kind).2<v))
def vO (f:Str→Option Int) (es:List En) (e:En):Int:=
 if cm e∧e.place.tmod 2≠0 then 7
 else if (aU e.place f e.x.2.args).2=4∧e.x.2.kind=9∧jL f es (bm e)=true then 5
 else if (aU e.place f e.x.2.args).2≠0 then (aU e.place f e.x.2.args).2
 else if cm e∧(fM (bt e) (dx e.place (cS (aZ (bt e))) (aU e.place f e.x.2.args).1)).isSome=false then 6
 else if cC e∧uc e.x.2.kind (aU e.place f e.x.2.args).1=true then 6
 else 0
variable {h:ab}{Q:QT}{K:AV→Prop}
theorem Tj {vs:List Int}(hn:vs≠[]) (hl:vs.length<1000000000) {fv:AV}(r:Row iE 1 h fv vs) (k:∀ m,m∈vs→(∀ x∈vs,m≤x)→Q (I m) h):C gb [fv] h Q:=by
 refine qo _ _ _ ?_
 unfold mq
 have hp:0<vs.length:=List.length_pos_iff.2 hn
 refine r.len ?_
 refine aP ?_
 refine ag (fun hb=>(by exfalso;first|(simp at hb;done)|(simp at hb;omega)|(revert hb;decide)|omega)) (fun _=>?_)
 unfold jX
 refine r.idx (j:=0) (fun _=>rfl) hp fun p t=>?_
 refine aE t ?_
 refine aR (fun n vs' h'=>∃ (q:Nat) (m:Int),vs'=[I m,I (q:Nat)]∧n+q=vs.length∧h'=h∧m∈vs∧∀ j (hj:j<q) (hj2:j<vs.length),m≤vs[j]) (vs.length-1) ⟨1,vs[0],rfl,by omega,rfl,List.getElem_mem hp,fun j hj hj2=>(by
  have hz:j=0:=by omega
  subst hz;exact Int.le_refl _)⟩ ?_
 rintro n vs' h1 ⟨q,m,rfl,hn,rfl,hm,hall⟩
 unfold ki
 refine r.len ?_
 (repeat refine aP ?_)
 refine ag (fun hq=>?_) (fun hq=>?_)<;>simp only[za,zb,zc,zd,ze,zf,zg,zh,zi,u8i,zj,zk,zl]at hq
 ·have hq:q<vs.length:=hq
  refine r.idx (fun _=>rfl) hq fun p t=>?_
  refine aE t ?_
  (repeat (first|refine aH (by omega) ?_|refine Lh ?_))
  refine⟨n-1,by omega,q+1,min m vs[q],rfl,by omega,rfl,?_,fun j hj hj2=>?_⟩
  ·rw[Int.min_def]
   split
   ·exact hm
   ·exact List.getElem_mem hq
  ·by_cases hjq:j=q
   ·subst hjq;exact Int.min_le_right _ _
   ·exact Int.le_trans (Int.min_le_left _ _) (hall j (by omega) hj2)
 ·refine k m hm fun x hx=>?_
  obtain⟨j,hj,rfl⟩:=List.getElem_of_mem hx
  exact hall j (by omega) hj
theorem Sx {vs:List Int}(hn:vs≠[]) (hl:vs.length<1000000000) {fv:AV}(r:Row iE 1 h fv vs) (k:∀ m,m∈vs→(∀ x∈vs,x≤m)→Q (I m) h):C fW [fv] h Q:=by
 refine qG _ _ _ ?_
 unfold mF
 have hp:0<vs.length:=List.length_pos_iff.2 hn
 refine r.len ?_
 refine aP ?_
 refine ag (fun hb=>(by exfalso;first|(simp at hb;done)|(simp at hb;omega)|(revert hb;decide)|omega)) (fun _=>?_)
 unfold jV
 refine r.idx (j:=0) (fun _=>rfl) hp fun p t=>?_
 refine aE t ?_
 refine aR (fun n vs' h'=>∃ (q:Nat) (m:Int),vs'=[I m,I (q:Nat)]∧n+q=vs.length∧h'=h∧m∈vs∧∀ j (hj:j<q) (hj2:j<vs.length),vs[j]≤m) (vs.length-1) ⟨1,vs[0],rfl,by omega,rfl,List.getElem_mem hp,fun j hj hj2=>(by
  have hz:j=0:=by omega
  subst hz;exact Int.le_refl _)⟩ ?_
 rintro n vs' h1 ⟨q,m,rfl,hn,rfl,hm,hall⟩
 unfold kf
 refine r.len ?_
 (repeat refine aP ?_)
 refine ag (fun hq=>?_) (fun hq=>?_)<;>simp only[za,zb,zc,zd,ze,zf,zg,zh,zi,u8i,zj,zk,zl]at hq
 ·have hq:q<vs.length:=hq
  refine r.idx (fun _=>rfl) hq fun p t=>?_
  refine aE t ?_
  (repeat (first|refine aH (by omega) ?_|refine AE ?_))
  refine⟨n-1,by omega,q+1,max m vs[q],rfl,by omega,rfl,?_,fun j hj hj2=>?_⟩
  ·rw[Int.max_def]
   split
   ·exact List.getElem_mem hq
   ·exact hm
  ·by_cases hjq:j=q
   ·subst hjq;exact Int.le_max_right _ _
   ·exact Int.le_trans (hall j (by omega) hj2) (Int.le_max_left _ _)
 ·refine k m hm fun x hx=>?_
  obtain⟨j,hj,rfl⟩:=List.getElem_of_mem hx
  exact hall j (by omega) hj
theorem O8 {e:En}{p:Nat}(hp:h[p]?=some (.cells (enE e))) {vs:List Int}(hn:vs≠[]) (hl:vs.length<1000000000) {fv:AV}(r:Row iE 1 h fv vs) (k:Q (I (if uc e.x.2.kind vs=true then 6 else 0)) h):Di (.ptr p 0) fv h Q:=by
 have sp:=St.startr hp
 unfold enE at sp
 unfold Di
 (repeat (first|refine aq ?_|refine an ?_|refine aj ‹_› (.head _) rfl ?_))
 refine EK ?_
 unfold uc at k
 (repeat refine ax rfl ?_)
 refine Tj hn hl r fun m hm hall=>?_
 refine aP ?_
 refine ag (fun hb=>?_) (fun hb=>?_)<;>simp only[za,zb,zc,zd,ze,zf,zg,zh,zi,u8i,zj,zk,zl]at hb
 ·rw[if_pos]at k
  ·exact k
  ·rw[Bool.or_eq_true];exact .inl (List.any_eq_true.2 ⟨m,hm,by simpa using hb⟩)
 ·have h1:(vs.any fun v=>decide (v<(mU e.x.2.kind).1))=false:=by
   rw[List.any_eq_false];intro x hx;have:=hall x hx;simp;omega
  rw[h1,Bool.false_or]at k
  refine Sx hn hl r fun m hm hall=>?_
  refine cO ?_
  refine ag (fun hb=>?_) (fun hb=>?_)<;>simp only[za,zb,zc,zd,ze,zf,zg,zh,zi,u8i,zj,zk,zl]at hb
  ·rw[if_pos (List.any_eq_true.2 ⟨m,hm,by simpa using hb⟩)]at k;exact k
  ·have h1:(vs.any fun v=>decide ((mU e.x.2.kind).2<v))=false:=by
    rw[List.any_eq_false];intro x hx;have:=hall x hx;simp;omega
   rw[h1,if_neg (by simp)]at k
   exact k
theorem Ei {e:En}{p:Nat}(hp:h[p]?=some (.cells (enE e))) {vs:List Int}(hn:cC e→vs≠[]) (hl:vs.length<1000000000) {fv:AV}(r:Row iE 1 h fv vs) (k:Q (I (if cC e∧uc e.x.2.kind vs=true then 6 else 0)) h):AK (.ptr p 0) fv h Q:=by
 have sp:=St.startr hp
 unfold enE at sp
 unfold AK
 have one:cC e→Di (.ptr p 0) fv h Q:=fun hd=>O8 hp (hn hd) hl r (by simpa [hd] using k)
 refine aq (an (an (aj sp (.head _) rfl (aB ?_))))
 refine ag (fun h3=>?_) (fun h3=>?_)<;>simp only[za,zb,zc,zd,ze,zf,zg,zh,zi,u8i,zj,zk,zl]at h3
 ·exact one (.inl (by omega))
 ·refine aq (an (an (aj sp (.head _) rfl (aB ?_))))
  refine ag (fun h4=>?_) (fun h4=>?_)<;>simp only[za,zb,zc,zd,ze,zf,zg,zh,zi,u8i,zj,zk,zl]at h4
  ·exact one (.inr (.inl (by omega)))
  ·refine aq (an (an (aj sp (.head _) rfl (aB ?_))))
   refine ag (fun h5=>?_) (fun h5=>?_)<;>simp only[za,zb,zc,zd,ze,zf,zg,zh,zi,u8i,zj,zk,zl]at h5
   ·exact one (.inr (.inr (by omega)))
   ·have:¬ cC e:=by unfold cC;omega
    show Q (I 0) h
    simpa [this] using k
end
end
section
section
variable [Tabs]
variable {h:ab}{Q:QT}{K:AV→Prop}
theorem Sz {here:Int}{f:Str→Option Int}{a:Ar}(hr:a.reg<1000):-1099511627776≤(fg here f a).1∧(fg here f a).1≤1099511627776:=by
 unfold fg
 split
 ·exact AI _ _ _
 ·simp;omega
theorem vt {here:Int}{f:Str→Option Int}{args:List Ar}(hr:∀ a∈args,a.reg<1000):∀ v∈(aU here f args).1,-1099511627776≤v∧v≤1099511627776:=by
 unfold aU
 split
 ·simp
 ·intro v hv
  simp only[List.mem_map]at hv
  obtain⟨a,ha,rfl⟩:=hv
  exact Sz (hr a ha)
theorem nW {here:Int}{f:Str→Option Int}{args:List Ar}(hz:(aU here f args).2=0):(aU here f args).1.length=args.length:=by
 unfold aU at hz ⊢
 split
 ·rename_i a ha
  rw[ha]at hz
  have:=List.find?_some ha
  simp at this
  exact (this hz).elim
 ·simp
theorem Lp {here:Int}{f:Str→Option Int}{args:List Ar}:(aU here f args).1.length≤args.length:=by
 unfold aU
 split<;>simp
theorem HW {place:Int}{ks:List Str}{vs:List Int}(hp:0≤place∧place≤1000000000000000) (hv:∀ v∈vs,-1099511627776≤v∧v≤1099511627776):∀ v∈dx place ks vs,dt v:=by
 intro v hm
 unfold dx at hm
 obtain⟨j,hj,rfl⟩:=List.getElem_of_mem hm
 simp only[List.length_zipWith]at hj
 rw[List.getElem_zipWith]
 have:=hv _ (List.getElem_mem (show j<vs.length by omega))
 unfold nL dt
 split<;>omega
structure PlE (e:En):Prop where
 wf:WfS e.x.2
 lo:0≤e.place
 hi:e.place≤1000000000000000
theorem M8 (hF:ct) (hL:dq) {e:En}{p:Nat}(hp:h[p]?=some (.cells (enE e))) (w:PlE e) (hk:cm e) {f:Str→Option Int}(hz:(aU e.place f e.x.2.args).2=0) {fv:AV}(r:Row iE 1 h fv (aU e.place f e.x.2.args).1)
  (k:∀ h',Fr [] h h'→Q (I (if (fM (bt e) (dx e.place (cS (aZ (bt e))) (aU e.place f e.x.2.args).1)).isSome=false then 6 else 0)) h'):An (.ptr p 0) fv h Q:=by
 unfold An
 have hin:=vt (here:=e.place) (f:=f) fun a ha=>(w.wf.arg a ha).2.2
 have hlen:=nW hz
 have hal:=w.wf.args
 generalize (aU e.place f e.x.2.args).1=vs at r k hin hlen ⊢
 have hlo:=w.lo
 have hhi:=w.hi
 obtain⟨ho,hkl⟩:=Qk w.wf hk
 refine LD hF hp w.wf hk vs hlen (fun v hv=>by have:=hin v hv;omega) r fun v E h1 a s1=>?_
 have s1':St h [] h1 (E++[]):=by simpa using s1
 refine GZ hF hL ho _ (HW ⟨hlo,hhi⟩ hin) (a.rd s1') fun h2 f2=>?_
 have s2:=s1.call f2
 refine dA ?_
 cases hc:(fM (bt e) (dx e.place (cS (aZ (bt e))) vs)).isSome with
 | false=>
   rw[hc]at k
   exact ag (fun _=>k h2 s2.fr) (fun h=>by cases h)
 | true=>
   rw[hc]at k
   refine ag (fun h=>by cases h) (fun _=>?_)
   have hnd:¬ cC e:=by unfold cC;unfold cm at hk;omega
   refine Ei (s2.fr.get hp (by simp)) (fun h=>(hnd h).elim) (by omega) (r.fr s2.fr) ?_
   rw[if_neg (fun h=>hnd h.1)]
   exact k h2 s2.fr
theorem O4 (hF:ct) (hL:dq) {e:En}{p:Nat}(hp:h[p]?=some (.cells (enE e))) (w:PlE e) {i js jk:Nat}{lv dv:AV}{sz:Int}(hi:h[i]?=some (d8 lv js (.map jk) dv sz)) {f:Str→Option Int}(m:MapAt h jk f)
  {l:List (Nat×En)} (hl:l.length<1000000000) (rl:Row pE 1 h lv l) (he:∀ x∈l,h[x.1]?=some (.cells (enE x.2))) (k:∀ h',Fr [] h h'→Q (I (vO f (l.map (·.2)) e)) h'):C iO [.ptr i 0,.ptr p 0] h Q:=by
 refine ut _ _ _ _ ?_
 unfold pJ
 have sp:=St.startr hp
 have hal:=w.wf.args
 have hlo:=w.lo
 have hhi:=w.hi
 unfold enE at sp
 unfold vO at k
 have hin:=vt (here:=e.place) (f:=f) fun a ha=>(w.wf.arg a ha).2.2
 have vals:(∀ tail:AV→QT,¬ (cm e∧e.place.tmod 2≠0)→
   (∀ fv h',Fr [] h h'→Row iE 1 h' fv (aU e.place f e.x.2.args).1→¬ ((aU e.place f e.x.2.args).2=4∧e.x.2.kind=9∧jL f (l.map (·.2)) (bm e)=true)→tail fv (I (aU e.place f e.x.2.args).2) h')→
   BV (.ptr i 0) (.ptr p 0) tail h Q):=by
  intro tail hno ht
  rw[if_neg hno]at k
  unfold BV
  refine wC hp w.wf hi m fun v E h1 a s1=>?_
  have s1':St h [] h1 (E++[]):=by simpa using s1
  have r1:Row iE 1 h1 v (aU e.place f e.x.2.args).1:=a.rd s1'
  refine ax rfl (ax rfl (aB ?_))
  refine ag (fun h4=>?_) (fun h4=>?_)<;>simp only[za,zb,zc,zd,ze,zf,zg,zh,zi,u8i,zj,zk,zl]at h4
  ·have sp1:=St.startr (s1.fr.get hp (by simp))
   unfold enE at sp1
   refine aq (an (an (aj sp1 (.head _) rfl (aB ?_))))
   refine ag (fun h9=>?_) (fun h9=>?_)<;>simp only[za,zb,zc,zd,ze,zf,zg,zh,zi,u8i,zj,zk,zl]at h9
   ·have h9:e.x.2.kind=9:=by omega
    have hne:=w.wf.data (by omega) (by omega)
    have hlast:=tZ w.wf hne
    refine un (s1.fr.get hp (by simp)) w.wf hne fun h2 f2=>?_
    have f2':Fr [] h h2:=s1.fr.trans f2 (by simp)
    refine Iv (f2'.get hi (by simp)) (m.fr f2') hl (rl.fr f2') (fun x hx=>f2'.get (he x hx) (by simp)) hlast.1 hlast.2 fun h3 f3=>?_
    have f3':Fr [] h h3:=f2'.trans f3 (by simp)
    cases hd:jL f (l.map (·.2)) (bm e) with
    | true=>
      rw[if_pos ⟨h4,h9,hd⟩]at k
      exact ag (fun _=>k h3 f3') (fun h=>by cases h)
    | false=>exact ag (fun h=>by cases h) (fun _=>ht v h3 f3' (r1.fr (f2.trans f3 (by simp))) (by simp[hd]))
   ·exact ht v h1 s1.fr r1 (fun hh=>by omega)
  ·exact ht v h1 s1.fr r1 (fun hh=>by omega)
 have hA:¬ (cm e∧e.place.tmod 2≠0)→cm e→∀ fv h',Fr [] h h'→Row iE 1 h' fv (aU e.place f e.x.2.args).1→¬ ((aU e.place f e.x.2.args).2=4∧e.x.2.kind=9∧jL f (l.map (·.2)) (bm e)=true)→(aU e.place f e.x.2.args).2=0→An (.ptr p 0) fv h' Q:=by
  intro hno hc fv h' f' r' hnd hz
  refine M8 hF hL (f'.get hp (by simp)) w hc hz r' fun h2 f2=>?_
  have:=k h2 (f'.trans f2 (by simp))
  rw[if_neg hno,if_neg hnd,if_neg (by omega)]at this
  by_cases hcode:(fM (bt e) (dx e.place (cS (aZ (bt e))) (aU e.place f e.x.2.args).1)).isSome=false
  ·rw[if_pos ⟨hc,hcode⟩]at this
   rw[if_pos hcode];exact this
  ·rw[if_neg (fun h=>hcode h.2)]at this
   rw[if_neg hcode]
   have hnd:¬ cC e:=by unfold cC;unfold cm at hc;omega
   rw[if_neg (fun h=>hnd h.1)]at this
   exact this
 have hD:¬ cm e→∀ fv h',Fr [] h h'→Row iE 1 h' fv (aU e.place f e.x.2.args).1→¬ ((aU e.place f e.x.2.args).2=4∧e.x.2.kind=9∧jL f (l.map (·.2)) (bm e)=true)→(aU e.place f e.x.2.args).2=0→AK (.ptr p 0) fv h' Q:=by
  intro hc fv h' f' r' hnd hz
  have hlen:=nW hz
  refine Ei (f'.get hp (by simp)) (fun hd=>?_) (by omega) r' ?_
  ·have:e.x.2.args≠[]:=w.wf.data (by unfold cC at hd;omega) (by unfold cC at hd;omega)
   intro hv;rw[hv]at hlen;exact this (List.length_eq_zero_iff.1 hlen.symm)
  ·have:=k h' f'
   rw[if_neg (fun h=>hc h.1),if_neg hnd,if_neg (by omega),if_neg (fun h=>hc h.1)]at this
   exact this
 have hE:¬ (cm e∧e.place.tmod 2≠0)→∀ h',Fr [] h h'→¬ ((aU e.place f e.x.2.args).2=4∧e.x.2.kind=9∧jL f (l.map (·.2)) (bm e)=true)→(aU e.place f e.x.2.args).2≠0→Q (I (aU e.place f e.x.2.args).2) h':=by
  intro hno h' f' hnd hz
  have:=k h' f'
  rw[if_neg hno,if_neg hnd,if_pos hz]at this
  exact this
 have odd:cm e→e.place.tmod 2≠0→Q (I 7) h:=fun hc ho=>by
  have:=k h (Fr.refl _ _)
  rw[if_pos ⟨hc,ho⟩]at this;exact this
 refine aq (an (an (aj sp (.head _) rfl (aB ?_))))
 refine ag (fun h1=>?_) (fun h1=>?_)<;>simp only[za,zb,zc,zd,ze,zf,zg,zh,zi,u8i,zj,zk,zl]at h1
 ·have hc:cm e:=.inl (by omega)
  refine aq (an (aj sp (.head _) rfl (pa (by decide) (cE ?_))))
  refine ag (fun ho=>?_) (fun ho=>?_)<;>simp only[za,zb,zc,zd,ze,zf,zg,zh,zi,u8i,zj,zk,zl]at ho
  ·exact odd hc ho
  ·have hno:¬ (cm e∧e.place.tmod 2≠0):=fun h=>h.2 ho
   refine vals (fun t37 t38 h=>wrA (.ptr p 0) t37 t38 h Q) hno fun fv h' f' r' hnd=>?_
   unfold wrA
   refine cE ?_
   refine ag (fun hz=>?_) (fun hz=>?_)<;>simp only[za,zb,zc,zd,ze,zf,zg,zh,zi,u8i,zj,zk,zl]at hz
   ·exact hE hno h' f' hnd hz
   ·exact hA hno hc fv h' f' r' hnd hz
 ·refine aq (an (an (aj sp (.head _) rfl (aB ?_))))
  refine ag (fun h2=>?_) (fun h2=>?_)<;>simp only[za,zb,zc,zd,ze,zf,zg,zh,zi,u8i,zj,zk,zl]at h2
  ·have hc:cm e:=.inr (by omega)
   refine aq (an (aj sp (.head _) rfl (pa (by decide) (cE ?_))))
   refine ag (fun ho=>?_) (fun ho=>?_)<;>simp only[za,zb,zc,zd,ze,zf,zg,zh,zi,u8i,zj,zk,zl]at ho
   ·exact odd hc ho
   ·have hno:¬ (cm e∧e.place.tmod 2≠0):=fun h=>h.2 ho
    have hb2:decide ((e.x.2.kind:Int)=2)=true:=by simpa using h2
    refine vals (fun t37 t38 h=>wrB (B (decide ((e.x.2.kind:Int)=2))) (.ptr p 0) t37 t38 h Q) hno fun fv h' f' r' hnd=>?_
    unfold wrB
    refine cE ?_
    refine ag (fun hz=>?_) (fun hz=>?_)<;>simp only[za,zb,zc,zd,ze,zf,zg,zh,zi,u8i,zj,zk,zl]at hz
    ·exact hE hno h' f' hnd hz
    ·rw[hb2]
     exact ag (fun _=>hA hno hc fv h' f' r' hnd hz) (fun h=>by cases h)
  ·have hc:¬ cm e:=by unfold cm;omega
   have hno:¬ (cm e∧e.place.tmod 2≠0):=fun h=>hc h.1
   have hb2:decide ((e.x.2.kind:Int)=2)=false:=by simpa using h2
   refine vals (fun t37 t38 h=>wrB (B (decide ((e.x.2.kind:Int)=2))) (.ptr p 0) t37 t38 h Q) hno fun fv h' f' r' hnd=>?_
   unfold wrB
   refine cE ?_
   refine ag (fun hz=>?_) (fun hz=>?_)<;>simp only[za,zb,zc,zd,ze,zf,zg,zh,zi,u8i,zj,zk,zl]at hz
   ·exact hE hno h' f' hnd hz
   ·rw[hb2]
    exact ag (fun h=>by cases h) (fun _=>hD hc fv h' f' r' hnd hz)
end
end
section
def beB:Nat→Int→List Int
 | 0,_=>[]
 | n+1,v=>IntKind.u8.wrap (v.fdiv (2^(8*n)))::beB n v
theorem L1:∀ n v,(beB n v).length=n
 | 0,_=>rfl
 | n+1,v=>by simp[beB,L1]
section
variable [Tabs]
def gz (syms f:Str→Option Int) (e:En):List Int:=
 if cm e then (CY (bt e) (dx e.place (cS (aZ (bt e))) (aU e.place f e.x.2.args).1)).getD []
 else if cC e then (aU e.place f e.x.2.args).1.flatMap (beB (2^(e.x.2.kind-3)))
 else if e.x.2.kind=6 then e.x.2.text.map fun b=>(b.toNat:Int)
 else List.replicate (eW syms e).toNat 0
abbrev bE (v:Int):List AV:=[BI v]
variable {h:ab}{Q:QT}{K:AV→Prop}{h0:ab}{M:List Nat}{L:Own}{KH:QT}
theorem Ie {l:Str}(s:St h0 M h L) (k:∀ i h',St h0 M h' ((i,true,.cells ((l.map fun b=>(b.toNat:Int)).flatMap bE))::L)→KH (.sl i 0 l.length 1) h'):m3 (T l) h KH:=⟨by
 simp only[io]
 have:((⟨⟨l⟩⟩:ByteArray).data.toList.map fun b=>AV.lit (.int .u8 b.toNat))=(l.map fun b=>(b.toNat:Int)).flatMap bE:=by
  clear k s
  induction l with
  | nil=>rfl
  | cons a r ih=>simpa using ih
 rw[this]
 exact k _ _ (s.push _)⟩
theorem tW {f:Str→Option Int}{e:En}(w:WfS e.x.2) (hs:SzOk f e) (hp:0≤e.place):0≤eW f e∧eW f e≤4000000000:=by
 have hal:=w.args
 have htl:=w.text
 unfold eW
 split
 ·unfold jt;split<;>simp
 ·split
  ·split<;>simp
  ·split
   ·rename_i hk
    rcases hk with hk|hk|hk<;>rw[hk]<;>simp<;>omega
   ·split
    ·simp;omega
    ·split
     ·rename_i h7
      have hv:=hs.1 h7
      have hm1:=Int.tmod_nonneg (aX 0 f (bm e)).1 hp
      have hm2:=Int.tmod_lt_of_pos e.place (show 0<(aX 0 f (bm e)).1 by omega)
      have h3:=Int.tmod_nonneg (aX 0 f (bm e)).1 (show 0≤(aX 0 f (bm e)).1-e.place.tmod (aX 0 f (bm e)).1 by omega)
      have h4:=Int.tmod_lt_of_pos ((aX 0 f (bm e)).1-e.place.tmod (aX 0 f (bm e)).1) (show 0<(aX 0 f (bm e)).1 by omega)
      omega
     ·split
      ·rename_i h8
       have hv:=hs.2 h8
       omega
      ·simp
theorem Pf (hF:ct) (hL:dq) {e:En}{p:Nat}(hp:h[p]?=some (.cells (enE e))) (w:PlE e) {i js jk:Nat}{lv dv:AV}{sz:Int}(hi:h[i]?=some (d8 lv js (.map jk) dv sz)) {f g:Str→Option Int}(m:MapAt h jk f) (mg:MapAt h js g) (hs:SzOk g e)
  (hc:cm e→(aU e.place f e.x.2.args).2=0∧(CY (bt e) (dx e.place (cS (aZ (bt e))) (aU e.place f e.x.2.args).1)).isSome=true)
  (k:∀ v h',Fr [] h h'→Row bE 1 h' v (gz g f e)→Q v h'):C iH [.ptr i 0,.ptr p 0] h Q:=by
 refine uz _ _ _ _ ?_
 unfold pP
 have hlo:=w.lo
 have hhi:=w.hi
 have hal:=w.wf.args
 refine wC hp w.wf hi m fun v E h1 a s1=>?_
 have s1':St h [] h1 (E++[]):=by simpa using s1
 have r1:Row iE 1 h1 v (aU e.place f e.x.2.args).1:=a.rd s1'
 have hin:=vt (here:=e.place) (f:=f) fun a ha=>(w.wf.arg a ha).2.2
 have hlen:=nW (here:=e.place) (f:=f) (args:=e.x.2.args)
 have hle:=Lp (here:=e.place) (f:=f) (args:=e.x.2.args)
 have sp:=St.startr (s1.fr.get hp (by simp))
 unfold enE at sp
 refine ax rfl (ax rfl (aq (an (an (aj sp (.head _) rfl (aB ?_))))))
 unfold gz at k
 have hj12:∀ b:Bool,(b=true↔cm e)→fa (B b) (I (e.x.2.kind:Nat)) v (.ptr i 0) (.ptr p 0) h1 Q:=by
  intro b hb
  unfold fa
  refine ag (fun hbt=>?_) (fun hbf=>?_)
  ·have hcode:=hb.1 hbt
   obtain⟨hz,he⟩:=hc hcode
   rw[if_pos hcode]at k
   have hlen:=hlen hz
   generalize (aU e.place f e.x.2.args).1=vs at r1 k hin hlen he ⊢
   obtain⟨ho,hkl⟩:=Qk w.wf hcode
   refine LD hF (s1.fr.get hp (by simp)) w.wf hcode vs hlen (fun v hv=>by have:=hin v hv;omega) r1 fun v2 E2 h2 a2 s2=>?_
   have s2':St h1 [] h2 (E2++[]):=by simpa using s2
   cases hen:CY (bt e) (dx e.place (cS (aZ (bt e))) vs) with
   | none=>rw[hen]at he;cases he
   | some bs=>
     rw[hen]at k
     refine MO hF hL ho _ (HW ⟨hlo,hhi⟩ hin) hen (a2.rd s2') fun h3 f3=>?_
     refine ax rfl (ax rfl ?_)
     exact k _ h3 (s1.fr.trans (s2.fr.trans f3 (by simp)) (by simp)) (Row.snap (enc:=bE) (fun _=>rfl) bs)
  ·have hcode:¬ cm e:=by rw[← hb,hbf];simp
   rw[if_neg hcode]at k
   have hj11:∀ b:Bool,(b=true↔cC e)→dQ (B b) (I (e.x.2.kind:Nat)) v (.ptr i 0) (.ptr p 0) h1 Q:=by
    intro b hb
    unfold dQ
    refine ag (fun hbt=>?_) (fun hbf=>?_)
    ·have hd:=hb.1 hbt
     rw[if_pos hd]at k
     have hkn:3≤e.x.2.kind∧e.x.2.kind≤5:=by unfold cC at hd;omega
     generalize (aU e.place f e.x.2.args).1=vs at r1 k hin hlen hle ⊢
     refine r1.len ?_
     have hw:2^(e.x.2.kind-3)≤4∧1≤2^(e.x.2.kind-3):=by unfold cC at hd;rcases hd with h|h|h<;>rw[h]<;>decide
     have hkind:(8:Int)*2^(min ((e.x.2.kind:Int)-3).toNat IntKind.i64.bits)=8*(2^(e.x.2.kind-3):Nat):=by
      have hb:IntKind.i64.bits=64:=rfl
      rw[hb]
      unfold cC at hd
      rcases hd with hk|hk|hk<;>rw[hk]<;>rfl
     generalize hW:2^(e.x.2.kind-3)=W at hw hkind k
     refine aR (fun n vs' h'=>∃ (q:Nat) (u:AV) (E:Own) (bs:List Int),vs'=[u,I (q:Nat)]∧n+q=vs.length∧bs=(vs.take q).flatMap (beB W)∧bs.length=q*W∧AccE 1 u bs.length (bs.flatMap bE) E∧St h1 [] h' (E++[])) vs.length ⟨0,.full 0 [],[],[],rfl,by omega,rfl,by simp,.none 1,St.start h1⟩ ?_
     rintro n vs' h2 ⟨q,u,E2,bs,rfl,hn,hbs,hbl,a2,s2⟩
     unfold mA
     refine aP ?_
     refine ag (fun hq=>?_) (fun hq=>?_)<;>simp only[za,zb,zc,zd,ze,zf,zg,zh,zi,u8i,zj,zk,zl]at hq
     ·have hq:q<vs.length:=hq
      refine (r1.fr s2.fr).idx (fun _=>rfl) hq fun p1 t=>?_
      refine aE t ?_
      have sp2:=sp.call s2.fr
      refine aq (an (an (aj sp2 (.head _) rfl (dD (by omega) ?_))))
      refine iJ (by omega) ?_
      rw[hkind]
      rw[show IntKind.i64.wrap (8*(W:Nat):Int)=8*(W:Nat) from tV (by omega)]
      refine dD (by omega) ?_
      have hqW:q*W≤vs.length*4:=Nat.mul_le_mul (by omega) hw.1
      refine aR (fun n2 vs'' h''=>∃ (r:Nat) (u:AV) (E:Own) (cs:List Int),vs''=[u,I (8*(r:Nat)-8)]∧n2=r∧r≤W∧cs.length+r=bs.length+W∧cs++beB r vs[q]=bs++beB W vs[q]∧AccE 1 u cs.length (cs.flatMap bE) E∧St h1 [] h'' (E++[])) W ⟨W,u,E2,bs,rfl,rfl,Nat.le_refl _,rfl,rfl,a2,s2⟩ ?_
      rintro n2 vs'' h3 ⟨r,u3,E3,cs,rfl,rfl,hrW,hcl,hcs,a3,s3⟩
      unfold mI
      refine cy ?_
      refine ag (fun hr=>?_) (fun hr=>?_)<;>simp only[za,zb,zc,zd,ze,zf,zg,zh,zi,u8i,zj,zk,zl]at hr
      ·obtain⟨r',rfl⟩:∃ r',n2=r'+1:=⟨n2-1,by omega⟩
       refine sb (by omega) ?_
       have hmin:min ((8*((r'+1:Nat):Int)-8)).toNat IntKind.i64.bits=8*r':=by
        have hb:IntKind.i64.bits=64:=rfl
        rw[hb];omega
       rw[hmin]
       refine eG ?_
       refine aG rfl rfl ?_
       refine a3.app s3 (xs:=bE (IntKind.u8.wrap (vs[q].fdiv (2^(8*r'))))) (m:=1) (Rd.full rfl) rfl (by omega) fun v4 E4 h8 a4 s8=>?_
       refine dD (by omega) ?_
       refine⟨r',by omega,r',v4,E4,cs++[IntKind.u8.wrap (vs[q].fdiv (2^(8*r')))],by rw[show 8*((r'+1:Nat):Int)-8-8=8*(r':Nat)-8 by omega],rfl,by omega,by simp;omega,?_,by simpa using a4,s8⟩
       rw[← hcs];simp[beB]
      ·have hr0:n2=0:=by omega
       subst hr0
       refine aH (by omega) ?_
       simp only[beB,List.append_nil]at hcs
       refine⟨n-1,by omega,q+1,u3,E3,cs,rfl,by omega,?_,by rw[Nat.add_mul];omega,a3,s3⟩
       rw[hcs,hbs,List.take_succ_eq_append_getElem hq,List.flatMap_append,List.flatMap_cons,List.flatMap_nil,List.append_nil]
     ·rw[List.take_of_length_le (by omega)]at hbs
      subst hbs
      exact k u h2 (s1.fr.trans s2.fr (by simp)) (a2.rd s2)
    ·have hd:¬ cC e:=by rw[← hb,hbf];simp
     rw[if_neg hd]at k
     refine aB ?_
     refine ag (fun h6=>?_) (fun h6=>?_)<;>simp only[za,zb,zc,zd,ze,zf,zg,zh,zi,u8i,zj,zk,zl]at h6
     ·rw[if_pos (by omega)]at k
      refine aq (an (an (aj sp (.head _) rfl ?_)))
      refine Ie (St.start h1) fun j h2 s2=>?_
      refine k _ h2 (s1.fr.trans s2.fr (by simp)) ?_
      have:=Row.sl (enc:=bE) (sz:=1) (fun _=>rfl) (s2.get (.head _))
      simpa using this
     ·rw[if_neg (by omega)]at k
      refine FT (s1.fr.get hp (by simp)) w.wf (s1.fr.get hi (by simp)) (mg.fr s1.fr) hs ⟨hlo,hhi⟩ fun h2 f2=>?_
      have hli:=tW w.wf hs hlo
      obtain⟨n,hn⟩:=Int.eq_ofNat_of_zero_le hli.1
      rw[hn]at hli k ⊢
      refine wt (s1.call f2) (Nat.le_refl _) (by simp at hli;omega) (by simp at hli;omega) fun j h3 s3=>?_
      refine k _ h3 s3.fr ?_
      have hrep:∀ n:Nat,List.replicate n (BI 0)=(List.replicate n (0:Int)).flatMap bE:=by
       intro n
       induction n with
       | zero=>rfl
       | succ n ih=>rw[List.replicate_succ,List.replicate_succ,List.flatMap_cons,← ih];rfl
      have e3:=s3.get (.head _)
      rw[hrep]at e3
      have:=Row.sl (enc:=bE) (sz:=1) (fun _=>rfl) e3
      simpa using this
   refine aB ?_
   refine ag (fun h3=>?_) (fun h3=>?_)<;>simp only[za,zb,zc,zd,ze,zf,zg,zh,zi,u8i,zj,zk,zl]at h3
   ·exact hj11 _ (by unfold cC;simp;omega)
   ·refine aB ?_
    refine ag (fun h4=>?_) (fun h4=>?_)<;>simp only[za,zb,zc,zd,ze,zf,zg,zh,zi,u8i,zj,zk,zl]at h4
    ·exact hj11 _ (by unfold cC;simp;omega)
    ·refine aB ?_
     exact hj11 _ (by unfold cC;simp;omega)
 refine ag (fun h1=>?_) (fun h1=>?_)<;>simp only[za,zb,zc,zd,ze,zf,zg,zh,zi,u8i,zj,zk,zl]at h1
 ·exact hj12 _ (by unfold cm;simp;omega)
 ·refine aB ?_
  exact hj12 _ (by unfold cm;simp;omega)
end
end
section
abbrev Dg:=Str×Nat×Int
def dE (d:Dg):List AV:=[T d.1,I (d.2.1:Nat),I d.2.2]
theorem Sub.pre {L L':Own}{e e':Nat×Bool×AObj}(s:Sub L e L' e'):∀ A:Own,Sub (A++L) e (A++L') e'
 | []=>s
 | _::A=>.tail (Sub.pre s A)
theorem Sub.post {L L':Own}{e e':Nat×Bool×AObj}(s:Sub L e L' e') (R:Own):Sub (L++R) e (L'++R) e':=by
 induction s with
 | head=>exact .head
 | tail _ ih=>exact .tail ih
def cj (l:List (Nat×En)):Own:=l.map fun x=>(x.1,true,.cells (enE x.2))
theorem P4 {l:List (Nat×En)}{x:Nat×En}(h:x∈l):(x.1,true,AObj.cells (enE x.2))∈cj l:=List.mem_map.2 ⟨x,h,rfl⟩
theorem IZ:∀ {l:List (Nat×En)}{q:Nat}(hq:q<l.length) (e':En),Sub (cj l) (l[q].1,true,.cells (enE l[q].2)) (cj (l.set q (l[q].1,e'))) (l[q].1,true,.cells (enE e'))
 | [],q,hq,_=>by simp at hq
 | x::l,0,_,e'=>.head
 | x::l,q+1,hq,e'=>by
   have:=IZ (l:=l) (q:=q) (by simpa using hq) e'
   simpa [cj] using Sub.tail this
section
variable [Tabs]
variable {h0 h h':ab}{M:List Nat}{Q:QT}{K:AV→Prop}
structure SS (h0:ab) (M:List Nat) (h:ab) (i js:Nat) (l:List (Nat×En)) (ds:List Dg) (lv dv kn:AV) (sz:Int) (kvs:KV) (EL ED R:Own):Prop where
 al:AccE 1 lv l.length (l.flatMap pE) EL
 ad:AccE 3 dv ds.length (ds.flatMap dE) ED
 st:St h0 M h (ED++((i,true,d8 lv js kn dv sz)::(js,true,bu kvs)::(EL++(cj l++R))))
variable {i js:Nat}{l:List (Nat×En)}{ds:List Dg}{lv dv kn:AV}{sz:Int}{kvs:KV}{EL ED R:Own}
theorem SS.src (s:SS h0 M h i js l ds lv dv kn sz kvs EL ED R):h[i]?=some (d8 lv js kn dv sz):=s.st.get (b:=true) (by simp)
theorem SS.syms (s:SS h0 M h i js l ds lv dv kn sz kvs EL ED R):h[js]?=some (bu kvs):=s.st.get (b:=true) (by simp)
theorem SS.row (s:SS h0 M h i js l ds lv dv kn sz kvs EL ED R):Row pE 1 h lv l:=by
 have hp:(ED++((i,true,d8 lv js kn dv sz)::(js,true,bu kvs)::(EL++(cj l++R)))).Perm (EL++(ED++((i,true,d8 lv js kn dv sz)::(js,true,bu kvs)::(cj l++R)))):=by
  have h1:(ED++((i,true,d8 lv js kn dv sz)::(js,true,bu kvs)::(EL++(cj l++R))))=(ED++[(i,true,d8 lv js kn dv sz),(js,true,bu kvs)])++(EL++(cj l++R)):=by simp
  have h2:(ED++((i,true,d8 lv js kn dv sz)::(js,true,bu kvs)::(cj l++R)))=(ED++[(i,true,d8 lv js kn dv sz),(js,true,bu kvs)])++(cj l++R):=by simp
  rw[h1,h2,← List.append_assoc,← List.append_assoc EL]
  exact List.Perm.append_right _ List.perm_append_comm
 exact s.al.rd (s.st.perm hp)
theorem SS.ent (s:SS h0 M h i js l ds lv dv kn sz kvs EL ED R):∀ x∈l,h[x.1]?=some (.cells (enE x.2)):=fun x hx=>s.st.get (b:=true) (by
 have:=P4 hx
 simp[this])
theorem SS.rget (s:SS h0 M h i js l ds lv dv kn sz kvs EL ED R) {e:Nat×Bool×AObj}(he:e∈R):h[e.1]?=some e.2.2:=s.st.get (b:=e.2.1) (by
 show e∈_
 simp[he])
theorem SS.call (s:SS h0 M h i js l ds lv dv kn sz kvs EL ED R) (f:Fr [] h h'):SS h0 M h' i js l ds lv dv kn sz kvs EL ED R:=⟨s.al,s.ad,s.st.call f⟩
theorem SS.front {e:Nat×Bool×AObj}(s:SS h0 M h i js l ds lv dv kn sz kvs EL ED R) (s':St h0 M h' (e::(ED++((i,true,d8 lv js kn dv sz)::(js,true,bu kvs)::(EL++(cj l++R)))))):SS h0 M h' i js l ds lv dv kn sz kvs EL ED (e::R):=⟨s.al,s.ad,s'.perm (by
 have hx:∀ R:Own,(ED++((i,true,d8 lv js kn dv sz)::(js,true,bu kvs)::(EL++(cj l++R))))=(ED++((i,true,d8 lv js kn dv sz)::(js,true,bu kvs)::(EL++cj l)))++R:=fun R=>by simp
 rw[hx R,hx (e::R)]
 exact List.perm_middle.symm)⟩
theorem SS.unR {R':Own}(s:SS h0 M h i js l ds lv dv kn sz kvs EL ED R) (hs:R'.Sublist R):SS h0 M h i js l ds lv dv kn sz kvs EL ED R':=⟨s.al,s.ad,s.st.sub (List.Sublist.append (List.Sublist.refl _) (((List.Sublist.append (List.Sublist.refl _) (List.Sublist.append (List.Sublist.refl _) hs)).cons₂ _).cons₂ _))⟩
theorem SS.subR {R':Own}{e e':Nat×Bool×AObj}(u:Sub R e R' e'):Sub (ED++((i,true,d8 lv js kn dv sz)::(js,true,bu kvs)::(EL++(cj l++R)))) e (ED++((i,true,d8 lv js kn dv sz)::(js,true,bu kvs)::(EL++(cj l++R')))) e':=
 Sub.pre (.tail (.tail (Sub.pre (Sub.pre u _) _))) _
theorem SS.subE {q:Nat}(hq:q<l.length) (e':En):Sub (ED++((i,true,d8 lv js kn dv sz)::(js,true,bu kvs)::(EL++(cj l++R)))) (l[q].1,true,.cells (enE l[q].2)) (ED++((i,true,d8 lv js kn dv sz)::(js,true,bu kvs)::(EL++(cj (l.set q (l[q].1,e'))++R)))) (l[q].1,true,.cells (enE e')):=
 Sub.pre (.tail (.tail (Sub.pre (Sub.post (IZ hq e') _) _))) _
theorem SS.subS {kn':AV}{sz':Int}{lv' dv':AV}:Sub (ED++((i,true,d8 lv js kn dv sz)::(js,true,bu kvs)::(EL++(cj l++R)))) (i,true,d8 lv js kn dv sz) (ED++((i,true,d8 lv' js kn' dv' sz')::(js,true,bu kvs)::(EL++(cj l++R)))) (i,true,d8 lv' js kn' dv' sz'):=Sub.pre .head _
theorem yu:∀ {l:List (Nat×En)}{q:Nat}(hq:q<l.length) (e':En),(l.set q (l[q].1,e')).flatMap pE=l.flatMap pE
 | [],q,hq,_=>by simp at hq
 | x::l,0,_,e'=>rfl
 | x::l,q+1,hq,e'=>by
   have:=yu (l:=l) (q:=q) (by simpa using hq) e'
   simp only[List.set_cons_succ,List.flatMap_cons,List.getElem_cons_succ]
   rw[this]
theorem SS.setE {q:Nat}{e':En}(s:SS h0 M h i js l ds lv dv kn sz kvs EL ED R) (hq:q<l.length) (s':St h0 M h' (ED++((i,true,d8 lv js kn dv sz)::(js,true,bu kvs)::(EL++(cj (l.set q (l[q].1,e'))++R))))):SS h0 M h' i js (l.set q (l[q].1,e')) ds lv dv kn sz kvs EL ED R:=
 ⟨by rw[yu hq,List.length_set];exact s.al,s.ad,s'⟩
theorem wO {f:Str}{n:Nat}{er:Int}(hd:ds.length<1000000000) (s:SS h0 M h i js l ds lv dv kn sz kvs EL ED R)
  (k:∀ dv' ED' h',SS h0 M h' i js l (ds++[(f,n,er)]) lv dv' kn sz kvs EL ED' R→Q (.tup []) h'):C aQ [.ptr i 0,T f,I (n:Nat),I er] h Q:=by
 refine vx _ _ _ _ _ _ ?_
 unfold rx
 have si:=St.startr s.src
 (repeat (first|refine aq ?_|refine an ?_|refine aj ‹_› (.head _) rfl ?_|refine aO rfl ?_|refine aG rfl rfl ?_))
 refine s.ad.app s.st (xs:=dE (f,n,er)) (m:=1) (Rd.full rfl) rfl (by omega) fun dv' ED' h1 a1 s1=>?_
 refine aq (an ?_)
 refine xJ (L':=ED'++((i,true,d8 lv js kn dv' sz)::(js,true,bu kvs)::(EL++(cj l++R)))) a1.v1 s1 (Sub.pre .head _) (nle rfl) fun h2 s2=>?_
 exact k dv' ED' h2 ⟨s.al,by simpa using a1,s2⟩
def yX (syms:Str→Option Int) (e:En):Bool:=if e.x.2.kind=7 then [1,2,4,8,16].any (fun y=>decide ((aX 0 syms (bm e)).1=y)) else decide (0≤(aX 0 syms (bm e)).1)&&decide ((aX 0 syms (bm e)).1≤1000)
def xc (syms:Str→Option Int) (e:En):Bool:=(decide (e.x.2.kind=7)||decide (e.x.2.kind=8))&&(mu (bm e)||decide ((aX 0 syms (bm e)).2≠0)||!yX syms e)
def szD (syms:Str→Option Int) (e:En):List Dg:=if xc syms e=true then [(e.frag,e.x.1,3)] else []
theorem TF {syms:Str→Option Int}{e:En}(h:szD syms e=[]):SzOk syms e:=by
 unfold szD at h
 split at h
 ·cases h
 ·rename_i hb
  unfold xc yX at hb
  unfold SzOk
  constructor
  ·intro h7
   rw[h7]at hb
   simp only[decide_true,Bool.true_or,Bool.true_and,Bool.or_eq_true,not_or,if_true,Bool.not_eq_true',Bool.not_eq_false,List.any_eq_true,decide_eq_true_eq]at hb
   obtain⟨x,hx,he⟩:=hb.2
   simp at hx
   omega
  ·intro h8
   rw[h8]at hb
   simp at hb
   obtain⟨_,h⟩:=hb
   omega
theorem p7 {α:Type}{g:α→List Dg}(hg:∀ x,(g x).length≤1):∀ l:List α,(l.flatMap g).length≤l.length
 | []=>by simp
 | x::l=>by
   have:=p7 hg l
   have:=hg x
   simp only[List.flatMap_cons,List.length_append,List.length_cons];omega
theorem LR (syms:Str→Option Int) (e:En):(szD syms e).length≤1:=by unfold szD;split<;>simp
def Rf (s0 s3 s12:AV) (h7:ab) (next0:NT):Prop:=
 aJ s3 fun t68=>
 ae 0 t68 fun t69=>
 ai t69 h7 fun t70=>
 aJ s3 fun t72=>
 ae 1 t72 fun t73=>
 ae 0 t73 fun t74=>
 ai t74 h7 fun t75=>
 C aQ [s0,t70,t75,(I 3)] h7 fun t76 h8=>
 aK s12 h8 next0
def UZ (t38 t39 t15 s12 s0:AV) (h4:ab) (next0:NT):Prop:=
 ah .geq t38 (I 0) fun t41=>
 ifB t41 (ah .leq t38 (I 1000) fun t44=>
 aJ t15 fun t47=>
 ae 1 t47 fun t48=>
 ae 2 t48 fun t49=>
 ai t49 h4 fun t50=>
 ah .eql t50 (I 7) fun t51=>
 ifB t51 (
 ap 5 1 [(I 1),(I 2),(I 4),(I 8),(I 16)] fun t52=>
 C be [t52,t38] h4 fun t54 h5=>
 bx t54 t39 t15 s12 s0 h5 next0) (
 bx t44 t39 t15 s12 s0 h4 next0)) (
 aJ t15 fun t47=>
 ae 1 t47 fun t48=>
 ae 2 t48 fun t49=>
 ai t49 h4 fun t50=>
 ah .eql t50 (I 7) fun t51=>
 ifB t51 (
 ap 5 1 [(I 1),(I 2),(I 4),(I 8),(I 16)] fun t52=>
 C be [t52,t38] h4 fun t54 h12=>
 bx t54 t39 t15 s12 s0 h12 next0) (
 bx (B false) t39 t15 s12 s0 h4 next0))
def TR (s0 t15:AV) (h:ab) (KK:AV→QT):Prop:=
 aJ s0 fun t34=>
 ae 1 t34 fun t35=>
 ai t35 h fun t36=>
 C bo [t15] h fun t32 h3=>
 (ai t35 h3 fun _t=>
 _t=t36)∧
 C eX [t32,(I 0),t36] h3 fun t37 h4=>
 am 0 t37 fun t38=>
 am 1 t37 fun t39=>KK t38 t39 h4
theorem TG {f:Str→Option Int}{e:En}{p:Nat}{may:Bool}{er:Int}{q:Nat}{next:NT}(hd:ds.length<100000000) (s:SS h0 M h i js l ds lv dv kn sz kvs EL ED R) (hm:(p,e)∈l) (w:WfS e.x.2) (hne:e.x.2.args≠[]) (hq:q<1000000000)
  (k0:(mu (bm e)||decide (er≠0)||!may)=false→∀ h',SS h0 M h' i js l ds lv dv kn sz kvs EL ED R→next [I ((q+1:Nat):Int)] h')
  (k1:(mu (bm e)||decide (er≠0)||!may)=true→∀ dv' ED' h',SS h0 M h' i js l (ds++[(e.frag,e.x.1,3)]) lv dv' kn sz kvs EL ED' R→next [I ((q+1:Nat):Int)] h'):bx (B may) (I er) (.ptr p 0) (I (q:Nat)) (.ptr i 0) h next:=by
 unfold bx
 have hp:=s.ent _ hm
 refine un hp w hne fun h1 f1=>?_
 have hlast:=tZ w hne
 refine R5 _ hlast.1 _ _ fun h2 f2=>?_
 have s2:=(s.call f1).call f2
 have told:(mu (bm e)||decide (er≠0)||!may)=true→Rf (.ptr i 0) (.ptr p 0) (I (q:Nat)) h2 next:=by
  unfold Rf
  intro hb
  have sp:=St.startr (s2.ent _ hm)
  unfold enE at sp
  (repeat (first|refine aq ?_|refine an ?_|refine aj ‹_› (.head _) rfl ?_))
  refine wO (by omega) s2 fun dv' ED' h3 s3=>?_
  unfold aK fw
  refine aH (by omega) ?_
  exact k1 hb dv' ED' h3 s3
 cases hh:mu (bm e) with
 | true=>exact ag (fun _=>told (by rw[hh];rfl)) (fun h=>by cases h)
 | false=>
   refine ag (fun h=>by cases h) (fun _=>?_)
   refine cE ?_
   refine ag (fun he=>told (by rw[hh,he];rfl)) (fun he=>?_)
   refine dA ?_
   refine ag (fun hn=>told (by rw[hn];simp)) (fun hn=>?_)
   unfold aK fw
   refine aH (by omega) ?_
   exact k0 (by rw[hh,he,hn];rfl) h2 s2
theorem PZ {f:Str→Option Int}(hl:l.length<10000000) (hd:ds=[]) (s:SS h0 M h i js l ds lv dv kn sz kvs EL ED R) (nd:(bK kvs).Nodup) (hf:∀ k,bp k kvs=f k) (w:∀ x∈l,WfS x.2.x.2)
  (k:∀ dv' ED' h',SS h0 M h' i js l ((l.map (·.2)).flatMap (szD f)) lv dv' kn sz kvs EL ED' R→Q (.tup []) h'):C ce [.ptr i 0] h Q:=by
 subst hd
 refine uw _ _ _ ?_
 unfold qd
 have si:=St.startr s.src
 (repeat (first|refine aq ?_|refine an ?_|refine aj ‹_› (.head _) rfl ?_))
 refine s.row.len ?_
 clear si
 refine aR (fun n vs h'=>∃ (q:Nat) (dv':AV) (ED':Own),vs=[I (q:Nat)]∧n+q=l.length∧SS h0 M h' i js l (((l.take q).map (·.2)).flatMap (szD f)) lv dv' kn sz kvs EL ED' R) l.length ⟨0,dv,ED,rfl,by omega,s⟩ ?_
 rintro n vs h1 ⟨q,dv1,ED1,rfl,hn,s1⟩
 have hdl:=p7 (LR f) ((l.take q).map (·.2))
 rw[List.length_map,List.length_take]at hdl
 unfold lJ
 (repeat refine aP ?_)
 refine ag (fun hq=>?_) (fun hq=>?_)<;>simp only[za,zb,zc,zd,ze,zf,zg,zh,zi,u8i,zj,zk,zl]at hq
 ·have hq:q<l.length:=hq
  have hm:=List.getElem_mem hq
  have hsucc:((l.take (q+1)).map (·.2)).flatMap (szD f)=((l.take q).map (·.2)).flatMap (szD f)++szD f l[q].2:=by
   rw[List.take_succ_eq_append_getElem hq,List.map_append,List.flatMap_append,List.map_cons,List.map_nil,List.flatMap_cons,List.flatMap_nil,List.append_nil]
  refine s1.row.idx (fun _=>rfl) hq fun p t=>?_
  refine aE t ?_
  have hp:=s1.ent _ hm
  have sp:=St.startr hp
  unfold enE at sp
  refine aq (an (an (aj sp (.head _) rfl (cE ?_))))
  have body:∀ (h2:ab),(l[q].2.x.2.kind=7∨l[q].2.x.2.kind=8)→SS h0 M h2 i js l (((l.take q).map (·.2)).flatMap (szD f)) lv dv1 kn sz kvs EL ED1 R→∀ may,may=yX f l[q].2→bx (B may) (I (aX 0 f (bm l[q].2)).2) (.ptr l[q].1 0) (I (q:Nat)) (.ptr i 0) h2 (fun vs' h'=>∃ m,m<n∧∃ (q:Nat) (dv':AV) (ED':Own),vs'=[I (q:Nat)]∧m+q=l.length∧SS h0 M h' i js l (((l.take q).map (·.2)).flatMap (szD f)) lv dv' kn sz kvs EL ED' R):=by
   intro h2 h78 s2 may hmay
   have hdec:(decide (l[q].2.x.2.kind=7)||decide (l[q].2.x.2.kind=8))=true:=by simpa using h78
   refine TG (f:=f) (e:=l[q].2) (p:=l[q].1) (by omega) s2 hm (w _ hm) ((w _ hm).data (by omega) (by omega)) (by omega) (fun hb h3 s3=>?_) (fun hb dv3 ED3 h3 s3=>?_)
   ·refine⟨n-1,by omega,q+1,dv1,ED1,rfl,by omega,?_⟩
    rw[hsucc,szD,xc,hdec,← hmay,hb];simpa using s3
   ·refine⟨n-1,by omega,q+1,dv3,ED3,rfl,by omega,?_⟩
    rw[hsucc,szD,xc,hdec,← hmay,hb];simpa using s3
  have ev:∀ (KK:AV→QT),(l[q].2.x.2.kind=7∨l[q].2.x.2.kind=8)→(∀ h2,Fr [] h1 h2→KK (I (aX 0 f (bm l[q].2)).1) (I (aX 0 f (bm l[q].2)).2) h2)→TR (.ptr i 0) (.ptr l[q].1 0) h1 KK:=by
   unfold TR
   intro KK h78 hk
   have hne:=(w _ hm).data (by omega) (by omega)
   have hlast:=tZ (w _ hm) hne
   have si:=St.startr s1.src
   refine aq (an (aj si (.head _) rfl ?_))
   refine un hp (w _ hm) hne fun h2 f2=>?_
   refine⟨aj (si.call f2) (.head _) rfl rfl,?_⟩
   refine nr hlast.1 hlast.2 0 (MapAt.fr ⟨kvs,s1.syms,nd,hf⟩ f2) fun h3 f3=>?_
   exact ax rfl (ax rfl (hk h3 (f2.trans f3 (by simp))))
  have fin:(l[q].2.x.2.kind=7∨l[q].2.x.2.kind=8)→TR (.ptr i 0) (.ptr l[q].1 0) h1 fun t38 t39 h4=>UZ t38 t39 (.ptr l[q].1 0) (I (q:Nat)) (.ptr i 0) h4 (fun vs' h'=>∃ m,m<n∧∃ (q:Nat) (dv':AV) (ED':Own),vs'=[I (q:Nat)]∧m+q=l.length∧SS h0 M h' i js l (((l.take q).map (·.2)).flatMap (szD f)) lv dv' kn sz kvs EL ED' R):=by
   intro h78
   refine ev _ h78 fun h2 f2=>?_
   unfold UZ
   have s2:=s1.call f2
   have sp2:=St.startr (s2.ent _ hm)
   unfold enE at sp2
   have cont:∀ h7:l[q].2.x.2.kind=7,C be [.full 5 [I 1,I 2,I 4,I 8,I 16],I (aX 0 f (bm l[q].2)).1] h2 fun t54 h5=>bx t54 (I (aX 0 f (bm l[q].2)).2) (.ptr l[q].1 0) (I (q:Nat)) (.ptr i 0) h5 (fun vs' h'=>∃ m,m<n∧∃ (q:Nat) (dv':AV) (ED':Own),vs'=[I (q:Nat)]∧m+q=l.length∧SS h0 M h' i js l (((l.take q).map (·.2)).flatMap (szD f)) lv dv' kn sz kvs EL ED' R):=by
    intro h7
    refine y6 (aX 0 f (bm l[q].2)).1 [1,2,4,8,16] (by decide) (Row.full (enc:=iE) (fun _=>rfl) [1,2,4,8,16]) ?_
    exact body h2 h78 s2 _ (by rw[yX,if_pos h7])
   refine cy ?_
   refine ag (fun hg=>?_) (fun hg=>?_)<;>simp only[za,zb,zc,zd,ze,zf,zg,zh,zi,u8i,zj,zk,zl]at hg
   ·refine mf ?_
    refine aq (an (an (aj sp2 (.head _) rfl (aB ?_))))
    refine ag (fun h7=>?_) (fun h7=>?_)<;>simp only[za,zb,zc,zd,ze,zf,zg,zh,zi,u8i,zj,zk,zl]at h7
    ·exact aG rfl rfl (cont (by omega))
    ·refine body h2 h78 s2 _ ?_
     rw[yX,if_neg (by omega),show decide (0≤(aX 0 f (bm l[q].2)).1)=true by simpa using hg];rfl
   ·refine aq (an (an (aj sp2 (.head _) rfl (aB ?_))))
    refine ag (fun h7=>?_) (fun h7=>?_)<;>simp only[za,zb,zc,zd,ze,zf,zg,zh,zi,u8i,zj,zk,zl]at h7
    ·exact aG rfl rfl (cont (by omega))
    ·refine body h2 h78 s2 _ ?_
     rw[yX,if_neg (by omega),show decide (0≤(aX 0 f (bm l[q].2)).1)=false by simp;omega];rfl
  refine ag (fun h7=>?_) (fun h7=>?_)<;>simp only[za,zb,zc,zd,ze,zf,zg,zh,zi,u8i,zj,zk,zl]at h7
  ·refine aq (an (an (aj sp (.head _) rfl (cE ?_))))
   refine ag (fun h8=>?_) (fun h8=>?_)<;>simp only[za,zb,zc,zd,ze,zf,zg,zh,zi,u8i,zj,zk,zl]at h8
   ·unfold aK fw
    refine aH (by omega) ?_
    refine⟨n-1,by omega,q+1,dv1,ED1,rfl,by omega,?_⟩
    have hdec:(decide (l[q].2.x.2.kind=7)||decide (l[q].2.x.2.kind=8))=false:=by simp;omega
    rw[hsucc,szD,xc,hdec];simpa using s1
   ·exact fin (.inr (by omega))
  ·exact fin (.inl (by omega))
 ·have hq:q=l.length:=by omega
  subst hq
  rw[List.take_length]at s1
  exact k dv1 ED1 h1 s1
end
end
section
def upd (f:Str→Option Int) (k:Str) (v:Int):Str→Option Int:=fun x=>if x=k then some v else f x
structure FillInv (g:Int→Int) (kvs:KV) (sn:List Nat) (kv:KV):Prop where
 nd:(bK kv).Nodup
 snd:sn.Nodup
 lt:∀ q∈sn,q<kvs.length
 at_:∀ k,bp k kv=if ∃ q∈sn,(bK kvs)[q]?=some k then (bp k kvs).map g else none
theorem FillInv.start {g:Int→Int}{kvs:KV}:FillInv g kvs [] []:=⟨by simp[bK],by simp,by simp,by simp[bp]⟩
theorem FillInv.step {g:Int→Int}{kvs kv:KV}{sn:List Nat}(I:FillInv g kvs sn kv) (nd:(bK kvs).Nodup) {q:Nat}(hq:q<kvs.length) (hn:q∉sn):FillInv g kvs (sn++[q]) (nC kvs[q].1 (g kvs[q].2) kv) where
 nd:=nB I.nd
 snd:=by
  rw[List.nodup_append]
  exact⟨I.snd,by simp,fun a ha b hb e=>by simp at hb;subst hb;subst e;exact hn ha⟩
 lt:=by
  intro x hx
  simp only[List.mem_append,List.mem_singleton]at hx
  rcases hx with hx|rfl
  ·exact I.lt x hx
  ·exact hq
 at_:=by
  intro k
  rw[k8]
  have hkq:(bK kvs)[q]?=some kvs[q].1:=by simp[bK,hq]
  by_cases hk:k=kvs[q].1
  ·subst hk
   rw[if_pos rfl,if_pos ⟨q,by simp,hkq⟩]
   have hl:bp kvs[q].1 kvs=some kvs[q].2:=(DH nd).2 (List.getElem_mem hq)
   rw[hl];rfl
  ·rw[if_neg hk,I.at_ k]
   have:(∃ x∈sn++[q],(bK kvs)[x]?=some k)↔∃ x∈sn,(bK kvs)[x]?=some k:=by
    constructor
    ·rintro ⟨x,hx,he⟩
     simp only[List.mem_append,List.mem_singleton]at hx
     rcases hx with hx|rfl
     ·exact⟨x,hx,he⟩
     ·rw[hkq]at he;exact (hk (Option.some.inj he).symm).elim
    ·rintro ⟨x,hx,he⟩
     exact⟨x,by simp[hx],he⟩
   simp only[this]
theorem FillInv.done {g:Int→Int}{kvs kv:KV}{sn:List Nat}(I:FillInv g kvs sn kv) (hall:∀ q,q<kvs.length→q∈sn) (k:Str):bp k kv=(bp k kvs).map g:=by
 rw[I.at_ k]
 split
 ·rfl
 ·rename_i hn
  have:bp k kvs=none:=by
   rw[vj]
   intro hk
   obtain⟨q,hq,e⟩:=List.getElem_of_mem hk
   exact hn ⟨q,hall q (by simpa [bK] using hq),by rw[List.getElem?_eq_getElem hq,e]⟩
  rw[this];rfl
theorem FillInv.less {g:Int→Int}{kvs kv:KV}{sn:List Nat}(I:FillInv g kvs sn kv) {q:Nat}(hq:q<kvs.length) (hn:q∉sn):sn.length<kvs.length:=by
 have hnd:(sn++[q]).Nodup:=by
  rw[List.nodup_append]
  exact⟨I.snd,by simp,fun a ha b hb e=>by simp at hb;subst hb;subst e;exact hn ha⟩
 have:=hnd.length_le_of_subset (l₂:=List.range kvs.length) (fun x hx=>List.mem_range.2 (by
  simp only[List.mem_append,List.mem_singleton]at hx
  rcases hx with hx|rfl
  ·exact I.lt x hx
  ·exact hq))
 simp at this;omega
def lu (e:En):List Str:=e.x.2.lab::(if e.x.2.kind=9 then [e.x.2.text] else [])
abbrev TwS:=(Str→Option Int)×List Dg
def twN (e:En) (st:TwS) (n:Str):TwS:=
 if n=[] then st else (upd st.1 n ((st.1 n).getD 0+1),if 0<(st.1 n).getD 0 then st.2++[(e.frag,e.x.1,2)] else st.2)
def twE (st:TwS) (e:En):TwS:=(lu e).foldl (twN e) st
def tw0 (f:Str→Option Int):TwS:=(fun k=>(f k).map fun _=>1,[])
def qO (f:Str→Option Int) (es:List En):List Dg:=(es.foldl twE (tw0 f)).2
def TwB (st:TwS) (b:Nat):Prop:=st.2.length≤b∧∀ k,0≤(st.1 k).getD 0∧(st.1 k).getD 0≤1+b
theorem TwB.step {st:TwS}{b:Nat}(h:TwB st b) (e:En) (n:Str):TwB (twN e st n) (b+1):=by
 unfold twN
 split
 ·exact⟨by have:=h.1;omega,fun k=>by have:=h.2 k;omega⟩
 ·refine⟨?_,fun k=>?_⟩
  ·have:=h.1
   simp only
   split
   ·simp;omega
   ·omega
  ·have:=h.2 k
   have:=h.2 n
   simp only[upd]
   split
   ·simp;omega
   ·omega
section
variable [Tabs]
variable {h0 h h':ab}{M:List Nat}{Q:QT}{K:AV→Prop}
variable {i js:Nat}{l:List (Nat×En)}{ds:List Dg}{lv dv kn:AV}{sz:Int}{kvs:KV}{EL ED R:Own}
theorem SS.memR {e:Nat×Bool×AObj}(h:e∈R):e∈(ED++((i,true,d8 lv js kn dv sz)::(js,true,bu kvs)::(EL++(cj l++R)))):=
 List.mem_append_right _ (.tail _ (.tail _ (List.mem_append_right _ (List.mem_append_right _ h))))
theorem SS.back {e:Nat×Bool×AObj}(s:SS h0 M h i js l ds lv dv kn sz kvs EL ED (e::R)):St h0 M h (e::(ED++((i,true,d8 lv js kn dv sz)::(js,true,bu kvs)::(EL++(cj l++R))))):=s.st.perm (by
 have hx:∀ R:Own,(ED++((i,true,d8 lv js kn dv sz)::(js,true,bu kvs)::(EL++(cj l++R))))=(ED++((i,true,d8 lv js kn dv sz)::(js,true,bu kvs)::(EL++cj l)))++R:=fun R=>by simp
 rw[hx R,hx (e::R)]
 exact List.perm_middle)
def chD (f:Str→Option Int) (es:List En) (e:En):List Dg:=if vO f es e≠0 then [(e.frag,e.x.1,vO f es e)] else []
theorem Lv (f:Str→Option Int) (es:List En) (e:En):(chD f es e).length≤1:=by unfold chD;split<;>simp
theorem sD {β:Type}(g:En→List β) {l:List (Nat×En)}{q:Nat}(hq:q<l.length):((l.take (q+1)).map (·.2)).flatMap g=((l.take q).map (·.2)).flatMap g++g l[q].2:=by
 rw[List.take_succ_eq_append_getElem hq,List.map_append,List.flatMap_append,List.map_cons,List.map_nil,List.flatMap_cons,List.flatMap_nil,List.append_nil]
theorem PP (hF:ct) (hL:dq) {f:Str→Option Int}{jk:Nat}{kvk:KV}(hl:l.length<10000000) (s:SS h0 M h i js l ds lv dv (.map jk) sz kvs EL ED R) (hds:ds=[]) (hk:(jk,true,bu kvk)∈R) (nd:(bK kvk).Nodup) (hf:∀ k,bp k kvk=f k) (w:∀ x∈l,PlE x.2)
  (k:∀ dv' ED' h',SS h0 M h' i js l ((l.map (·.2)).flatMap (chD f (l.map (·.2)))) lv dv' (.map jk) sz kvs EL ED' R→Q (.tup []) h'):C cc [.ptr i 0] h Q:=by
 subst hds
 refine uy _ _ _ ?_
 unfold pW
 have si:=St.startr s.src
 (repeat (first|refine aq ?_|refine an ?_|refine aj ‹_› (.head _) rfl ?_))
 refine s.row.len ?_
 clear si
 refine aR (fun n vs h'=>∃ (q:Nat) (dv':AV) (ED':Own),vs=[I (q:Nat)]∧n+q=l.length∧SS h0 M h' i js l (((l.take q).map (·.2)).flatMap (chD f (l.map (·.2)))) lv dv' (.map jk) sz kvs EL ED' R) l.length ⟨0,dv,ED,rfl,by omega,s⟩ ?_
 rintro n vs h1 ⟨q,dv1,ED1,rfl,hn,s1⟩
 have hdl:=p7 (Lv f (l.map (·.2))) ((l.take q).map (·.2))
 rw[List.length_map,List.length_take]at hdl
 unfold mH
 (repeat refine aP ?_)
 refine ag (fun hq=>?_) (fun hq=>?_)<;>simp only[za,zb,zc,zd,ze,zf,zg,zh,zi,u8i,zj,zk,zl]at hq
 ·have hq:q<l.length:=hq
  have hm:=List.getElem_mem hq
  have hsucc:=sD (chD f (l.map (·.2))) hq
  refine s1.row.idx (fun _=>rfl) hq fun p t=>?_
  refine aE t ?_
  refine O4 hF hL (s1.ent _ hm) (w _ hm) s1.src ⟨kvk,s1.rget hk,nd,hf⟩ (by omega) s1.row s1.ent fun h2 f2=>?_
  have s2:=s1.call f2
  refine cE ?_
  refine ag (fun hb=>?_) (fun hb=>?_)<;>simp only[za,zb,zc,zd,ze,zf,zg,zh,zi,u8i,zj,zk,zl]at hb
  ·have sp2:=St.startr (s2.ent _ hm)
   unfold enE at sp2
   (repeat (first|refine aq ?_|refine an ?_|refine aj ‹_› (.head _) rfl ?_))
   refine wO (by omega) s2 fun dv' ED' h3 s3=>?_
   unfold fC iA
   refine aH (by omega) ?_
   refine⟨n-1,by omega,q+1,dv',ED',rfl,by omega,?_⟩
   rw[hsucc,chD,if_pos hb];exact s3
  ·unfold fC iA
   refine aH (by omega) ?_
   refine⟨n-1,by omega,q+1,dv1,ED1,rfl,by omega,?_⟩
   rw[hsucc,chD,if_neg (by simpa using hb)];simpa using s2
 ·have hq:q=l.length:=by omega
  subst hq
  rw[List.take_length]at s1
  exact k dv1 ED1 h1 s1
theorem Tg {sz bytes n m:Nat}{x:AV}{as1 cs:List AV}{L:Own}{KH:QT}(s:St h0 M h L) (r:Rd h sz x m cs) (ha:as1.length=n*sz) (hm:0<m) (hb:(n+m)*bytes≤1099511627776) (k1:∀ i h',St h0 M h' ((i,true,.cells (as1++cs))::L)→KH (.sl i 0 (n+m) sz) h'):
  bL sz bytes (.full n as1) x h KH:=⟨by
 simp only[jT,r.2]
 refine⟨⟨ha,hb⟩,?_⟩
 rw[if_neg (by omega)]
 exact k1 _ _ (s.push _)⟩
theorem B1 {e:En}{p jm b:Nat}(hm:(p,e)∈l) (hb:b<100000000) (nm:List Str) (hnm:nm.length≤2) {nv:AV}(hrow:∀ h dv ds ED kv,SS h0 M h i js l ds lv dv kn sz kvs EL ED ((jm,true,bu kv)::R)→Row sE 1 h nv nm)
  {st:TwS} (hst:TwB st b) {kv:KV} (nd:(bK kv).Nodup) (hf:∀ k,bp k kv=st.1 k) {q:Nat} (hq:q<1000000000) (s:SS h0 M h i js l st.2 lv dv kn sz kvs EL ED ((jm,true,bu kv)::R)) {next:NT}
  (k:∀ dv' ED' kv' h',TwB (nm.foldl (twN e) st) (b+nm.length)→(bK kv').Nodup→(∀ k,bp k kv'=(nm.foldl (twN e) st).1 k)→SS h0 M h' i js l (nm.foldl (twN e) st).2 lv dv' kn sz kvs EL ED' ((jm,true,bu kv')::R)→next [I ((q+1:Nat):Int)] h'):
  eQ nv (.ptr p 0) (I (q:Nat)) (.map jm) (.ptr i 0) h next:=by
 unfold eQ
 refine (hrow _ _ _ _ _ s).len ?_
 refine aR (fun n vs h'=>∃ (t:Nat) (dv':AV) (ED':Own) (kv':KV),vs=[I (t:Nat)]∧n+t=nm.length∧TwB ((nm.take t).foldl (twN e) st) (b+t)∧(bK kv').Nodup∧(∀ k,bp k kv'=((nm.take t).foldl (twN e) st).1 k)∧SS h0 M h' i js l ((nm.take t).foldl (twN e) st).2 lv dv' kn sz kvs EL ED' ((jm,true,bu kv')::R)) nm.length ⟨0,dv,ED,kv,rfl,by omega,hst,nd,hf,s⟩ ?_
 rintro n vs h1 ⟨t,dv1,ED1,kv1,rfl,hn,hb1,nd1,hf1,s1⟩
 unfold lL
 (repeat refine aP ?_)
 refine ag (fun ht=>?_) (fun ht=>?_)<;>simp only[za,zb,zc,zd,ze,zf,zg,zh,zi,u8i,zj,zk,zl]at ht
 ·have ht:t<nm.length:=ht
  refine (hrow _ _ _ _ _ s1).idx (fun _=>rfl) ht fun p2 t2=>?_
  refine aE t2 ?_
  have hsucc:(nm.take (t+1)).foldl (twN e) st=twN e ((nm.take t).foldl (twN e) st) nm[t]:=by
   rw[List.take_succ_eq_append_getElem ht,List.foldl_append];rfl
  have hb2:=hb1.step e nm[t]
  generalize hst1:(nm.take t).foldl (twN e) st=st1 at hb1 hf1 s1 hsucc hb2 ⊢
  refine bi ?_
  refine ag (fun he=>?_) (fun he=>?_)<;>simp only[za,zb,zc,zd,ze,zf,zg,zh,zi,u8i,zj,zk,zl]at he
  ·unfold fy iL
   refine aH (by omega) ?_
   refine⟨n-1,by omega,t+1,dv1,ED1,kv1,rfl,by omega,?_⟩
   rw[hsucc]
   refine⟨by rw[Nat.add_assoc]at hb2;exact hb2,nd1,?_⟩
   rw[twN,if_pos he]
   exact⟨hf1,s1⟩
  ·have he:nm[t]≠[]:=he
   have hbk:=hb1.2 nm[t]
   have hbl:=hb1.1
   have mm:MapAt h1 jm st1.1:=⟨kv1,s1.rget (.head _),nd1,hf1⟩
   refine mm.look0 ?_
   have hj12:∀ dv2 ED2 h2,SS h0 M h2 i js l (if 0<(st1.1 nm[t]).getD 0 then st1.2++[(e.frag,e.x.1,2)] else st1.2) lv dv2 kn sz kvs EL ED2 ((jm,true,bu kv1)::R)→eS (T nm[t]) (I (t:Nat)) (.map jm) h2 (fun vs' h'=>∃ m,m<n∧∃ (t:Nat) (dv':AV) (ED':Own) (kv':KV),vs'=[I (t:Nat)]∧m+t=nm.length∧TwB ((nm.take t).foldl (twN e) st) (b+t)∧(bK kv').Nodup∧(∀ k,bp k kv'=((nm.take t).foldl (twN e) st).1 k)∧SS h0 M h' i js l ((nm.take t).foldl (twN e) st).2 lv dv' kn sz kvs EL ED' ((jm,true,bu kv')::R)):=by
    intro dv2 ED2 h2 s2
    unfold eS
    have mm2:MapAt h2 jm st1.1:=⟨kv1,s2.rget (.head _),nd1,hf1⟩
    refine mm2.look0 ?_
    refine aH (by omega) ?_
    refine pU s2.st (SS.subR .head) fun h3 s3=>?_
    unfold fy iL
    refine aH (by omega) ?_
    refine⟨n-1,by omega,t+1,dv2,ED2,nC nm[t] ((st1.1 nm[t]).getD 0+1) kv1,rfl,by omega,?_⟩
    rw[hsucc]
    refine⟨by rw[Nat.add_assoc]at hb2;exact hb2,nB nd1,?_⟩
    rw[twN,if_neg he]
    exact⟨fun k=>by rw[k8,hf1];rfl,⟨s2.al,s2.ad,s3⟩⟩
   refine cO ?_
   refine ag (fun hg=>?_) (fun hg=>?_)<;>simp only[za,zb,zc,zd,ze,zf,zg,zh,zi,u8i,zj,zk,zl]at hg
   ·have sp:=St.startr (s1.ent _ hm)
    unfold enE at sp
    refine aq (an (aj sp (.head _) rfl (aq (an (an (aj sp (.head _) rfl ?_))))))
    refine wO (by omega) s1 fun dv' ED' h3 s3=>?_
    exact hj12 dv' ED' h3 (by rw[if_pos hg];exact s3)
   ·exact hj12 dv1 ED1 h1 (by rw[if_neg (by omega)];exact s1)
 ·have ht:t=nm.length:=by omega
  subst ht
  rw[List.take_length]at hb1 hf1 s1
  refine aH (by omega) ?_
  exact k dv1 ED1 kv1 h1 hb1 nd1 hf1 s1
theorem Qv {f:Str→Option Int}(hl:l.length<10000000) (hds:ds=[]) (s:SS h0 M h i js l ds lv dv kn sz kvs EL ED R) (nd:(bK kvs).Nodup) (hf:∀ k,bp k kvs=f k)
  (k:∀ dv' ED' h',SS h0 M h' i js l (qO f (l.map (·.2))) lv dv' kn sz kvs EL ED' R→Q (.tup []) h'):C cf [.ptr i 0] h Q:=by
 subst hds
 refine ur _ _ _ ?_
 unfold pR
 refine vz s.st fun jm h1 s1=>?_
 have s1:=s.front s1
 have si:=St.startr s1.src
 (repeat (first|refine aq ?_|refine an ?_|refine aj ‹_› (.head _) rfl ?_))
 clear si
 refine Ee s1.st s1.syms fun it h2 s2=>?_
 have s2:=s1.front s2
 refine aR (fun n vs h'=>∃ (sn:List Nat) (kv:KV),vs=[]∧n+sn.length=kvs.length∧FillInv (fun _=>1) kvs sn kv∧SS h0 M h' i js l [] lv dv kn sz kvs EL ED ((it,true,D3 js kvs sn)::(jm,true,bu kv)::R)) kvs.length ⟨[],[],rfl,by simp,.start,s2⟩ ?_
 rintro n vs h3 ⟨sn,kv,rfl,hn,fi,s3⟩
 unfold lU
 refine HC s3.back s3.syms (fun hall=>?_) (fun q hq hnq h4 s4=>?_)
 ·refine ax rfl (ag (fun h=>by cases h) (fun _=>?_))
  have hdone:=fi.done hall
  have s5:=s3.unR (List.sublist_cons_self _ _)
  have si:=St.startr s5.src
  (repeat (first|refine aq ?_|refine an ?_|refine aj ‹_› (.head _) rfl ?_))
  clear si
  refine s5.row.len ?_
  refine aR (fun n vs h'=>∃ (q:Nat) (dv':AV) (ED':Own) (kv':KV),vs=[I (q:Nat)]∧n+q=l.length∧TwB (((l.take q).map (·.2)).foldl twE (tw0 f)) (2*q)∧(bK kv').Nodup∧(∀ k,bp k kv'=(((l.take q).map (·.2)).foldl twE (tw0 f)).1 k)∧SS h0 M h' i js l (((l.take q).map (·.2)).foldl twE (tw0 f)).2 lv dv' kn sz kvs EL ED' ((jm,true,bu kv')::R)) l.length ⟨0,dv,ED,kv,rfl,by omega,⟨by simp[tw0],fun k=>by simp[tw0];cases f k<;>simp⟩,fi.nd,fun k=>by rw[hdone,hf];rfl,s5⟩ ?_
  rintro n vs h6 ⟨q,dv1,ED1,kv1,rfl,hn,hb1,nd1,hf1,s6⟩
  unfold lR
  (repeat refine aP ?_)
  refine ag (fun hq=>?_) (fun hq=>?_)<;>simp only[za,zb,zc,zd,ze,zf,zg,zh,zi,u8i,zj,zk,zl]at hq
  ·have hq:q<l.length:=hq
   have hm:=List.getElem_mem hq
   have hsucc:((l.take (q+1)).map (·.2)).foldl twE (tw0 f)=twE (((l.take q).map (·.2)).foldl twE (tw0 f)) l[q].2:=by
    rw[List.take_succ_eq_append_getElem hq,List.map_append,List.foldl_append];rfl
   generalize hst1:((l.take q).map (·.2)).foldl twE (tw0 f)=st1 at hb1 hf1 s6 hsucc
   refine s6.row.idx (fun _=>rfl) hq fun p t=>?_
   refine aE t ?_
   have sp:=St.startr (s6.ent _ hm)
   unfold enE at sp
   refine aq (an (an (aj sp (.head _) rfl (aG rfl rfl (aq (an (an (aj sp (.head _) rfl (aB ?_)))))))))
   have fin:∀ (nm:List Str) (dv' ED' kv' h'),nm=lu l[q].2→TwB (nm.foldl (twN l[q].2) st1) (2*q+nm.length)→(bK kv').Nodup→(∀ k,bp k kv'=(nm.foldl (twN l[q].2) st1).1 k)→SS h0 M h' i js l (nm.foldl (twN l[q].2) st1).2 lv dv' kn sz kvs EL ED' ((jm,true,bu kv')::R)→nm.length≤2→
     (fun vs' h'=>∃ m,m<n∧∃ (q:Nat) (dv':AV) (ED':Own) (kv':KV),vs'=[I (q:Nat)]∧m+q=l.length∧TwB (((l.take q).map (·.2)).foldl twE (tw0 f)) (2*q)∧(bK kv').Nodup∧(∀ k,bp k kv'=(((l.take q).map (·.2)).foldl twE (tw0 f)).1 k)∧SS h0 M h' i js l (((l.take q).map (·.2)).foldl twE (tw0 f)).2 lv dv' kn sz kvs EL ED' ((jm,true,bu kv')::R)) [I ((q+1:Nat):Int)] h':=by
    rintro nm dv' ED' kv' h' rfl hb' nd' hf' s' hl2
    refine⟨n-1,by omega,q+1,dv',ED',kv',rfl,by omega,?_⟩
    rw[hsucc]
    exact⟨⟨by have:=hb'.1;unfold twE;omega,fun k=>by have:=hb'.2 k;unfold twE;omega⟩,nd',hf',s'⟩
   refine ag (fun h9=>?_) (fun h9=>?_)<;>simp only[za,zb,zc,zd,ze,zf,zg,zh,zi,u8i,zj,zk,zl]at h9
   ·have h9:l[q].2.x.2.kind=9:=by omega
    have hnm:[l[q].2.x.2.lab,l[q].2.x.2.text]=lu l[q].2:=by rw[lu,if_pos h9]
    refine aq (an (an (aj sp (.head _) rfl (aG rfl rfl ?_))))
    refine Tg s6.st (Rd.full (n:=1) (cs:=[T l[q].2.x.2.text]) rfl) rfl (by decide) (by decide) fun jn h7 s7=>?_
    have s7:=s6.front s7
    have s8:SS h0 M h7 i js l st1.2 lv dv1 kn sz kvs EL ED1 ((jm,true,bu kv1)::(jn,true,.cells [T l[q].2.x.2.lab,T l[q].2.x.2.text])::R):=⟨s7.al,s7.ad,s7.st.perm (by
     refine List.Perm.append_left _ (List.Perm.cons _ (List.Perm.cons _ (List.Perm.append_left _ (List.Perm.append_left _ (List.Perm.swap _ _ _))))))⟩
    refine B1 (e:=l[q].2) hm (b:=2*q) (by omega) [l[q].2.x.2.lab,l[q].2.x.2.text] (by simp) (fun h dv ds ED kv s=>?_) hb1 nd1 hf1 (by omega) s8 fun dv' ED' kv' h' b1 n1 f1 s9=>?_
    ·exact Row.sl (enc:=sE) (l:=[l[q].2.x.2.lab,l[q].2.x.2.text]) (fun _=>rfl) (s.rget (.tail _ (.head _)))
    ·refine fin _ dv' ED' kv' h' hnm b1 n1 f1 ⟨s9.al,s9.ad,?_⟩ (by simp)
     exact (s9.unR (.cons₂ _ (List.sublist_cons_self _ _))).st
   ·have hnm:[l[q].2.x.2.lab]=lu l[q].2:=by rw[lu,if_neg (by omega)]
    refine B1 (e:=l[q].2) hm (b:=2*q) (by omega) [l[q].2.x.2.lab] (by simp) (fun h dv ds ED kv s=>?_) hb1 nd1 hf1 (by omega) s6 fun dv' ED' kv' h' b1 n1 f1 s9=>?_
    ·exact Row.full (enc:=sE) (fun _=>rfl) [l[q].2.x.2.lab]
    ·exact fin _ dv' ED' kv' h' hnm b1 n1 f1 s9 (by simp)
  ·have hq:q=l.length:=by omega
   subst hq
   rw[List.take_length]at s6
   exact k dv1 ED1 h6 (s6.unR (List.sublist_cons_self _ _))
 ·have s4:=(s3.unR (List.sublist_cons_self _ _)).front s4
  refine ax rfl (ag (fun _=>?_) (fun h=>by cases h))
  refine De s4.st (b:=true) (i:=it) (SS.memR (.head _)) s4.syms hq ?_
  refine ax rfl ?_
  refine pU s4.st (SS.subR (.tail .head)) fun h5 s5=>?_
  have hlt:=fi.less hq hnq
  exact⟨n-1,by omega,sn++[q],_,rfl,by simp;omega,fi.step nd hq hnq,⟨s4.al,s4.ad,s5⟩⟩
end
end
section
section
variable [Tabs]
def nM (e:En) (a:Int):En:=⟨e.frag,e.x,a,e.grown⟩
def cW (syms:Str→Option Int) (st:List En×Int) (e:En):List En×Int:=(st.1++[(nM e st.2)],st.2+eW syms (nM e st.2))
def bV (syms:Str→Option Int) (es:List En):List En×Int:=es.foldl (cW syms) ([],0)
end
def y7 (f:Str→Option Int) (e:En):Str→Option Int:=if e.x.2.lab≠[] then upd f e.x.2.lab e.place else f
def vr (f:Str→Option Int) (es:List En):Str→Option Int:=es.foldl y7 f
abbrev EqS:=(Str→Option Int)×Bool
def dG (st:EqS) (e:En):EqS:=if e.x.2.kind=9∧st.1 e.x.2.text=none∧(aX e.place st.1 (bm e)).2=0 then (upd st.1 e.x.2.text (aX e.place st.1 (bm e)).1,true) else st
def im (es:List En) (f:Str→Option Int):EqS:=es.foldl dG (f,false)
def uV (es:List En):Nat→(Str→Option Int)→(Str→Option Int)
 | 0,f=>f
 | n+1,f=>if (im es f).2=true then uV es n (im es f).1 else (im es f).1
def Sl (f:Str→Option Int) (e:En):Bool:=decide (e.x.2.kind=9)&&(f e.x.2.text).isNone
def und (es:List En) (f:Str→Option Int):Nat:=es.countP (Sl f)
theorem x6 {α:Type}{p q:α→Bool}:∀ {l:List α},(∀ x∈l,p x=true→q x=true)→(∃ x∈l,q x=true∧p x=false)→l.countP p<l.countP q
 | [],_,⟨x,hx,_⟩=>by simp at hx
 | a::l,h1,⟨x,hx,hq,hp⟩=>by
   have hle:l.countP p≤l.countP q:=List.countP_mono_left fun y hy=>h1 y (.tail _ hy)
   rw[List.countP_cons,List.countP_cons]
   rcases List.mem_cons.1 hx with rfl|hx
   ·rw[hq,hp];simp;omega
   ·have:=x6 (fun y hy=>h1 y (.tail _ hy)) ⟨x,hx,hq,hp⟩
    have h3:=h1 a (.head _)
    cases hpa:p a with
    | true=>rw[h3 hpa];simp;omega
    | false=>simp only[Bool.false_eq_true,if_false];split<;>omega
theorem HQ (st:EqS) (e:En) (k:Str) (h:(st.1 k).isSome=true):((dG st e).1 k).isSome=true:=by
 unfold dG
 split
 ·simp only[upd];split
  ·rfl
  ·exact h
 ·exact h
theorem sX (k:Str):∀ (es:List En) (st:EqS),(st.1 k).isSome=true→((es.foldl dG st).1 k).isSome=true
 | [],_,h=>h
 | e::es,st,h=>sX k es _ (HQ st e k h)
theorem Ad:∀ (es:List En) (st:EqS),st.2=false→(es.foldl dG st).2=true→∃ e∈es,e.x.2.kind=9∧st.1 e.x.2.text=none∧((es.foldl dG st).1 e.x.2.text).isSome=true
 | [],st,h0,h=>by simp at h;rw[h0]at h;cases h
 | e::es,st,h0,h=>by
   rw[List.foldl_cons]at h ⊢
   by_cases hc:e.x.2.kind=9∧st.1 e.x.2.text=none∧(aX e.place st.1 (bm e)).2=0
   ·refine⟨e,.head _,hc.1,hc.2.1,sX _ es _ ?_⟩
    unfold dG;rw[if_pos hc];simp[upd]
   ·have:dG st e=st:=by unfold dG;rw[if_neg hc]
    rw[this]at h ⊢
    obtain⟨x,hx,h1⟩:=Ad es st h0 h
    exact⟨x,.tail _ hx,h1⟩
theorem Hd {es:List En}{f:Str→Option Int}(h:(im es f).2=true):und es (im es f).1<und es f:=by
 obtain⟨e,he,h9,hn,hs⟩:=Ad es (f,false) rfl h
 refine x6 (fun x hx hp=>?_) ⟨e,he,?_,?_⟩
 ·unfold Sl at hp ⊢
  simp only[Bool.and_eq_true]at hp ⊢
  refine⟨hp.1,?_⟩
  cases hf:f x.x.2.text with
  | none=>rfl
  | some v=>
    have:=sX x.x.2.text es (f,false) (by simp[hf])
    unfold im at hp
    simp only[Option.isNone_iff_eq_none]at hp
    rw[hp.2]at this;cases this
 ·unfold Sl;simp only at hn;rw[hn];simp[h9]
 ·unfold Sl
  unfold im
  simp only[Bool.and_eq_false_iff]
  right
  cases hx:(List.foldl dG (f,false) es).1 e.x.2.text with
  | none=>rw[hx]at hs;cases hs
  | some v=>rfl
section
variable [Tabs]
def bH (syms:Str→Option Int) (es:List En):List En×(Str→Option Int)×Int:=
 ((bV syms es).1,uV (bV syms es).1 (es.length+1) (vr syms (bV syms es).1),(bV syms es).2)
theorem vu (syms:Str→Option Int):∀ (es:List En) (st:List En×Int),(es.foldl (cW syms) st).1.length=st.1.length+es.length
 | [],st=>by simp
 | e::es,st=>by rw[List.foldl_cons,vu syms es];simp[cW];omega
variable {h0 h h':ab}{M:List Nat}{Q:QT}{K:AV→Prop}
variable {i js:Nat}{l:List (Nat×En)}{ds:List Dg}{lv dv kn:AV}{sz:Int}{kvs:KV}{EL ED R:Own}
theorem T7 {jk:Nat}{f F:Str→Option Int}{kv:KV}(hl:l.length<10000000) (w:∀ x∈l,WfS x.2.x.2) (nd:(bK kv).Nodup) (hf:∀ k,bp k kv=f k) (hF:F=uV (l.map (·.2)) (l.length+1) f) (s:SS h0 M h i js l ds lv dv (.map jk) sz kvs EL ED ((jk,true,bu kv)::R))
  (k:∀ kv' h',(bK kv').Nodup→(∀ k,bp k kv'=F k)→SS h0 M h' i js l ds lv dv (.map jk) sz kvs EL ED ((jk,true,bu kv')::R)→Q (.tup []) h'):
  bG [(B true)] h fun vs12 h next12=>fZ (.ptr i 0) Q vs12 h next12:=by
 generalize hes:l.map (·.2)=es at hF
 refine aR (fun n vs h'=>∃ (f:Str→Option Int) (kv:KV),(bK kv).Nodup∧(∀ k,bp k kv=f k)∧SS h0 M h' i js l ds lv dv (.map jk) sz kvs EL ED ((jk,true,bu kv)::R)∧((vs=[B true]∧und es f<n∧uV es n f=F)∨(vs=[B false]∧f=F))) (l.length+1) ⟨f,kv,nd,hf,s,.inl ⟨rfl,?_,hF.symm⟩⟩ ?_
 ·have:und es f≤es.length:=List.countP_le_length
  rw[← hes,List.length_map]at this
  rw[← hes];omega
 rintro n vs h1 ⟨f1,kv1,nd1,hf1,s1,⟨rfl,hu,hfix⟩|⟨rfl,rfl⟩⟩
 ·unfold fZ
  refine ag (fun _=>?_) (fun h=>by cases h)
  obtain⟨m,rfl⟩:∃ m,n=m+1:=⟨n-1,by omega⟩
  rw[uV]at hfix
  have si:=St.startr s1.src
  (repeat (first|refine aq ?_|refine an ?_|refine aj ‹_› (.head _) rfl ?_))
  clear si
  refine s1.row.len ?_
  refine aR (fun n2 vs h'=>∃ (q:Nat) (kv:KV),vs=[B ((es.take q).foldl dG (f1,false)).2,I (q:Nat)]∧n2+q=l.length∧(bK kv).Nodup∧(∀ k,bp k kv=((es.take q).foldl dG (f1,false)).1 k)∧SS h0 M h' i js l ds lv dv (.map jk) sz kvs EL ED ((jk,true,bu kv)::R)) l.length ⟨0,kv1,rfl,by omega,nd1,hf1,s1⟩ ?_
  rintro n2 vs h2 ⟨q,kv2,rfl,hn,nd2,hf2,s2⟩
  unfold nk
  (repeat refine aP ?_)
  refine ag (fun hq=>?_) (fun hq=>?_)<;>simp only[za,zb,zc,zd,ze,zf,zg,zh,zi,u8i,zj,zk,zl]at hq
  ·have hq:q<l.length:=hq
   have hqe:q<es.length:=by rw[← hes];simpa using hq
   have heq:es[q]=l[q].2:=by subst hes;simp
   have hm:=List.getElem_mem hq
   have hw:=w _ hm
   have hsucc:(es.take (q+1)).foldl dG (f1,false)=dG ((es.take q).foldl dG (f1,false)) l[q].2:=by
    rw[List.take_succ_eq_append_getElem hqe,List.foldl_append,heq];rfl
   generalize hst:(es.take q).foldl dG (f1,false)=st at hf2 hsucc ⊢
   refine s2.row.idx (fun _=>rfl) hq fun p t=>?_
   refine aE t ?_
   have si:=St.startr s2.src
   have sp:=St.startr (s2.ent _ hm)
   unfold enE at sp
   refine aq (an (aj si (.head _) rfl (aq (an (an (aj sp (.head _) rfl ?_))))))
   have mm:MapAt h2 jk st.1:=⟨kv2,s2.rget (.head _),nd2,hf2⟩
   refine mm.look ?_
   refine ax rfl (ax rfl (aq (an (an (aj sp (.head _) rfl (cE ?_))))))
   have skip:dG st l[q].2=st→∀ h',SS h0 M h' i js l ds lv dv (.map jk) sz kvs EL ED ((jk,true,bu kv2)::R)→cQ (B st.2) (I (q:Nat)) h' (fun vs' h'=>∃ m,m<n2∧∃ (q:Nat) (kv:KV),vs'=[B ((es.take q).foldl dG (f1,false)).2,I (q:Nat)]∧m+q=l.length∧(bK kv).Nodup∧(∀ k,bp k kv=((es.take q).foldl dG (f1,false)).1 k)∧SS h0 M h' i js l ds lv dv (.map jk) sz kvs EL ED ((jk,true,bu kv)::R)):=by
    intro he h' s'
    unfold cQ ji
    refine aH (by omega) ?_
    refine⟨n2-1,by omega,q+1,kv2,?_⟩
    rw[hsucc,he]
    exact⟨rfl,by omega,nd2,hf2,s'⟩
   refine ag (fun h9=>?_) (fun h9=>?_)<;>simp only[za,zb,zc,zd,ze,zf,zg,zh,zi,u8i,zj,zk,zl]at h9
   ·exact skip (by unfold dG;rw[if_neg (fun hc=>by omega)]) h2 s2
   ·have h9:l[q].2.x.2.kind=9:=by omega
    cases hl:st.1 l[q].2.x.2.text with
    | some y=>
      refine ag (fun _=>?_) (fun h=>by cases h)
      exact skip (by unfold dG;rw[if_neg (fun hc=>by rw[hl]at hc;cases hc.2.1)]) h2 s2
    | none=>
      refine ag (fun h=>by cases h) (fun _=>?_)
      refine aq (an (aj sp (.head _) rfl (aq (an (aj si (.head _) rfl ?_)))))
      have hne:=hw.data (by omega) (by omega)
      have hlast:=tZ hw hne
      refine un (s2.ent _ hm) hw hne fun h3 f3=>?_
      refine⟨aj (si.call f3) (.head _) rfl rfl,aj (sp.call f3) (.head _) rfl rfl,?_⟩
      refine nr hlast.1 hlast.2 _ (mm.fr f3) fun h4 f4=>?_
      have s4:=(s2.call f3).call f4
      refine ax rfl (ax rfl (aB ?_))
      refine ag (fun he=>?_) (fun he=>?_)<;>simp only[za,zb,zc,zd,ze,zf,zg,zh,zi,u8i,zj,zk,zl]at he
      ·have si4:=St.startr s4.src
       have sp4:=St.startr (s4.ent _ hm)
       unfold enE at sp4
       refine aq (an (aj si4 (.head _) rfl (aq (an (an (aj sp4 (.head _) rfl ?_))))))
       refine N4 s4.st (by rw[hf2];exact hl) (SS.subR .head) fun h5 s5=>?_
       unfold cQ ji
       refine aH (by omega) ?_
       refine⟨n2-1,by omega,q+1,nC l[q].2.x.2.text (aX l[q].2.place st.1 (bm l[q].2)).1 kv2,?_⟩
       rw[hsucc,dG,if_pos ⟨h9,hl,he⟩]
       exact⟨rfl,by omega,nB nd2,fun k=>by rw[k8,hf2];rfl,⟨s4.al,s4.ad,s5⟩⟩
      ·exact skip (by unfold dG;rw[if_neg (fun hc=>he hc.2.2)]) h4 s4
  ·have hql:es.length≤q:=by rw[← hes,List.length_map];omega
   rw[List.take_of_length_le hql]at hf2 ⊢
   have hr:im es f1=es.foldl dG (f1,false):=rfl
   rw[← hr]at hf2 ⊢
   cases hmore:(im es f1).2 with
   | true=>
     rw[if_pos hmore]at hfix
     have:=Hd hmore
     exact⟨m,by omega,_,kv2,nd2,hf2,s2,.inl ⟨rfl,by omega,hfix⟩⟩
   | false=>
     rw[if_neg (by rw[hmore];simp)]at hfix
     exact⟨0,by omega,_,kv2,nd2,hf2,s2,.inr ⟨rfl,hfix⟩⟩
 ·unfold fZ
  refine ag (fun h=>by cases h) (fun _=>?_)
  exact k kv1 h1 nd1 hf1 s1
end
end
section
section
variable [Tabs]
variable {h0 h h':ab}{M:List Nat}{Q:QT}{K:AV→Prop}
variable {i js:Nat}{l:List (Nat×En)}{ds:List Dg}{lv dv kn:AV}{sz:Int}{kvs:KV}{EL ED R:Own}
theorem SzOk.place {f:Str→Option Int}{e:En}(h:SzOk f e) (at_:Int):SzOk f (nM e at_):=h
theorem sB (syms:Str→Option Int) {es:List En}{q:Nat}(hq:q<es.length):bV syms (es.take (q+1))=cW syms (bV syms (es.take q)) es[q]:=by
 unfold bV
 rw[List.take_succ_eq_append_getElem hq,List.foldl_append];rfl
theorem x1 {syms:Str→Option Int}{es:List En}(w:∀ e∈es,WfS e.x.2) (hs:∀ e∈es,SzOk syms e):∀ q,q≤es.length→0≤(bV syms (es.take q)).2∧(bV syms (es.take q)).2≤4000000000*(q:Int)
 | 0,_=>by simp[bV]
 | q+1,hq=>by
   have ih:=x1 w hs q (by omega)
   have hq:q<es.length:=by omega
   rw[sB syms hq]
   have hm:=List.getElem_mem hq
   have:=tW (f:=syms) (e:=(nM es[q] (bV syms (es.take q)).2)) (w es[q] hm) (SzOk.place (hs es[q] hm) _) ih.1
   simp only[cW];omega
theorem xX {syms:Str→Option Int}{es:List En}(w:∀ e∈es,WfS e.x.2) (hs:∀ e∈es,SzOk syms e):∀ q,q≤es.length→∀ e∈(bV syms (es.take q)).1,(∃ e0∈es,e.x=e0.x∧e.frag=e0.frag∧e.grown=e0.grown)∧0≤e.place∧e.place≤4000000000*(q:Int)
 | 0,_,e,he=>by simp[bV]at he
 | q+1,hq,e,he=>by
   have hq:q<es.length:=by omega
   have hin:=x1 w hs q (by omega)
   rw[sB syms hq]at he
   simp only[cW,List.mem_append,List.mem_singleton]at he
   rcases he with he|rfl
   ·have:=xX w hs q (by omega) e he
    exact⟨this.1,this.2.1,by omega⟩
   ·exact⟨⟨es[q],List.getElem_mem hq,rfl,rfl,rfl⟩,hin.1,by simp only[nM];omega⟩
theorem QQ (hl:l.length<100000) {f:Str→Option Int}{jk:Nat}{kv0:KV}(nds:(bK kvs).Nodup) (hfs:∀ k,bp k kvs=f k) (w:∀ x∈l,WfS x.2.x.2) (hs:∀ x∈l,SzOk f x.2) (nd0:(bK kv0).Nodup) (hf0:∀ k,bp k kv0=f k)
  (s:SS h0 M h i js l ds lv dv (.map jk) sz kvs EL ED ((jk,true,bu kv0)::R))
  (k:∀ l' kv' h',l'.map (·.1)=l.map (·.1)→l'.map (·.2)=(bH f (l.map (·.2))).1→(bK kv').Nodup→(∀ k,bp k kv'=(bH f (l.map (·.2))).2.1 k)→SS h0 M h' i js l' ds lv dv (.map jk) (bH f (l.map (·.2))).2.2 kvs EL ED ((jk,true,bu kv')::R)→Q (.tup []) h'):
  bG [(I 0),(I 0)] h fun vs6 h next6=>jr (I (l.length:Nat)) lv (.ptr i 0) Q vs6 h next6:=by
 generalize hes:l.map (·.2)=es at k
 have hel:es.length=l.length:=by rw[← hes];simp
 have wes:∀ e∈es,WfS e.x.2:=by
  intro e he;rw[← hes,List.mem_map]at he;obtain⟨x,hx,rfl⟩:=he;exact w x hx
 have ses:∀ e∈es,SzOk f e:=by
  intro e he;rw[← hes,List.mem_map]at he;obtain⟨x,hx,rfl⟩:=he;exact hs x hx
 refine aR (fun n vs h'=>∃ (q:Nat) (l':List (Nat×En)) (kv:KV),vs=[I (bV f (es.take q)).2,I (q:Nat)]∧n+q=l.length∧l'.map (·.1)=l.map (·.1)∧l'.map (·.2)=(bV f (es.take q)).1++es.drop q∧(bK kv).Nodup∧(∀ k,bp k kv=vr f (bV f (es.take q)).1 k)∧SS h0 M h' i js l' ds lv dv (.map jk) sz kvs EL ED ((jk,true,bu kv)::R)) l.length ⟨0,l,kv0,rfl,by omega,rfl,by rw[hes];rfl,nd0,hf0,s⟩ ?_
 rintro n vs h1 ⟨q,l1,kv1,rfl,hn,hp1,he1,nd1,hf1,s1⟩
 have hl1:l1.length=l.length:=by simpa using congrArg List.length hp1
 have hpl:=vu f (es.take q) ([],0)
 have hpl:(bV f (es.take q)).1.length=q:=by
  unfold bV;rw[hpl,List.length_take];simp;omega
 unfold jr
 (repeat refine aP ?_)
 refine ag (fun hq=>?_) (fun hq=>?_)<;>simp only[za,zb,zc,zd,ze,zf,zg,zh,zi,u8i,zj,zk,zl]at hq
 ·have hq:q<l1.length:=by omega
  have hqe:q<es.length:=by omega
  have hq0:q<l.length:=by omega
  have hm:=List.getElem_mem hq
  have hin:=x1 wes ses q (by omega)
  have hsucc:=sB f hqe
  have hent:l1[q].2=es[q]:=by
   have:(l1.map (·.2))[q]?=some es[q]:=by
    rw[he1,List.getElem?_append_right (by omega),hpl];simp[hqe]
   rw[List.getElem?_map,List.getElem?_eq_getElem hq]at this
   simpa using this
  generalize hat:(bV f (es.take q)).2=at_ at hin ⊢
  refine s1.row.idx (fun _=>rfl) hq fun p t=>?_
  refine aE t ?_
  refine aq (an ?_)
  refine aF (L':=ED++((i,true,d8 lv js (.map jk) dv sz)::(js,true,bu kvs)::(EL++(cj (l1.set q (l1[q].1,(nM l1[q].2 at_)))++((jk,true,bu kv1)::R))))) (cs:=enE l1[q].2) s1.st (SS.subE hq (nM l1[q].2 at_)) rfl rfl rfl (nle rfl) fun h2 s2=>?_
  have s2:=s1.setE hq s2
  have hm2:(l1[q].1,(nM l1[q].2 at_))∈l1.set q (l1[q].1,(nM l1[q].2 at_)):=List.mem_set hq _
  have hmap1:(l1.set q (l1[q].1,(nM l1[q].2 at_))).map (·.1)=l.map (·.1):=by
   have h1:l1[q].1=(l1.map (·.1))[q]'(by simpa using hq):=by simp
   rw[List.map_set,h1,List.set_getElem_self];exact hp1
  have hmap2:(l1.set q (l1[q].1,(nM l1[q].2 at_))).map (·.2)=((bV f (es.take q)).1++[(nM es[q] at_)])++es.drop (q+1):=by
   rw[List.map_set,he1,List.set_append_right _ _ (by omega),hpl,List.drop_eq_getElem_cons hqe,Nat.sub_self,List.set_cons_zero,hent,List.append_assoc]
   rfl
  have hw:WfS l1[q].2.x.2:=by rw[hent];exact wes _ (List.getElem_mem hqe)
  have hso:SzOk f (nM l1[q].2 at_):=by rw[hent];exact SzOk.place (ses _ (List.getElem_mem hqe)) _
  have hex:(nM l1[q].2 at_).x=l1[q].2.x:=rfl
  have hepl:(nM l1[q].2 at_).place=at_:=rfl
  have hpe:cW f (bV f (es.take q)) es[q]=((bV f (es.take q)).1++[(nM l1[q].2 at_)],at_+eW f (nM l1[q].2 at_)):=by rw[cW,hat,hent]
  rw[← hent]at hmap2
  generalize he2:(nM l1[q].2 at_)=e2 at s2 hm2 hmap1 hmap2 hso hex hepl hpe
  rw[← hex]at hw
  generalize hl2:l1.set q (l1[q].1,e2)=l2 at s2 hm2 hmap1 hmap2
  have sp:=St.startr (s2.ent _ hm2)
  unfold enE at sp
  have hj:∀ h3 kv3,(bK kv3).Nodup→(∀ k,bp k kv3=y7 (vr f (bV f (es.take q)).1) e2 k)→SS h0 M h3 i js l2 ds lv dv (.map jk) sz kvs EL ED ((jk,true,bu kv3)::R)→gh (.ptr l1[q].1 0) (I at_) (I (q:Nat)) (.ptr i 0) h3 (fun vs' h'=>∃ m,m<n∧∃ (q:Nat) (l':List (Nat×En)) (kv:KV),vs'=[I (bV f (es.take q)).2,I (q:Nat)]∧m+q=l.length∧l'.map (·.1)=l.map (·.1)∧l'.map (·.2)=(bV f (es.take q)).1++es.drop q∧(bK kv).Nodup∧(∀ k,bp k kv=vr f (bV f (es.take q)).1 k)∧SS h0 M h' i js l' ds lv dv (.map jk) sz kvs EL ED ((jk,true,bu kv)::R)):=by
   intro h3 kv3 nd3 hf3 s3
   unfold gh
   refine FT (e:=e2) (s3.ent _ hm2) hw s3.src ⟨kvs,s3.syms,nds,hfs⟩ hso (by rw[hepl];omega) fun h4 f4=>?_
   have hlong:=tW (f:=f) (e:=e2) hw hso (by rw[hepl];exact hin.1)
   refine aH (by omega) ?_
   refine aH (by omega) ?_
   refine⟨n-1,by omega,q+1,l2,kv3,?_⟩
   rw[hsucc,hpe]
   refine⟨rfl,by omega,hmap1,?_,nd3,?_,s3.call f4⟩
   ·exact hmap2
   ·intro k;rw[hf3];simp only[vr,List.foldl_append,List.foldl_cons,List.foldl_nil]
  refine aq (an (an (aj sp (.head _) rfl (tL ?_))))
  refine ag (fun hlab=>?_) (fun hlab=>?_)<;>simp only[za,zb,zc,zd,ze,zf,zg,zh,zi,u8i,zj,zk,zl]at hlab
  ·have si:=St.startr s2.src
   refine aq (an (aj si (.head _) rfl (aq (an (an (aj sp (.head _) rfl ?_))))))
   refine pU s2.st (SS.subR .head) fun h3 s3=>?_
   refine hj h3 _ (nB nd1) (fun k=>?_) ⟨s2.al,s2.ad,s3⟩
   rw[k8,hf1,y7,if_pos (show e2.x.2.lab≠[] from hlab),hepl];rfl
  ·refine hj h2 kv1 nd1 (fun k=>?_) s2
   rw[hf1,y7,if_neg (by simpa using hlab)]
 ·have hq:q=l.length:=by omega
  subst hq
  rw[show es.take l.length=es by rw[← hel,List.take_length]]at he1 hf1 ⊢
  rw[show es.drop l.length=[] by rw[← hel,List.drop_length],List.append_nil]at he1
  refine aq (an ?_)
  refine aF (L':=ED++((i,true,d8 lv js (.map jk) dv (bV f es).2)::(js,true,bu kvs)::(EL++(cj l1++((jk,true,bu kv1)::R))))) (cs:=[lv,.map js,.map jk,dv,I sz]) s1.st SS.subS rfl rfl rfl (nle rfl) fun h2 s2=>?_
  have s2:SS h0 M h2 i js l1 ds lv dv (.map jk) (bV f es).2 kvs EL ED ((jk,true,bu kv1)::R):=⟨s1.al,s1.ad,s2⟩
  refine T7 (F:=(bH f es).2.1) (by omega) (fun x hx=>?_) nd1 hf1 ?_ s2 fun kv' h' nd' hf' s'=>?_
  ·have hx2:x.2∈(bV f es).1:=by rw[← he1];exact List.mem_map.2 ⟨x,hx,rfl⟩
   have:=xX wes ses es.length (Nat.le_refl _) x.2 (by rw[List.take_length];exact hx2)
   obtain⟨⟨e0,h0,h1,_⟩,_⟩:=this
   rw[h1];exact wes _ h0
  ·rw[he1,hl1,← hel];rfl
  ·exact k l1 kv' h' hp1 he1 nd' hf' s'
theorem Pq (hl:l.length<100000) {f:Str→Option Int}(nds:(bK kvs).Nodup) (hfs:∀ k,bp k kvs=f k) (w:∀ x∈l,WfS x.2.x.2) (hs:∀ x∈l,SzOk f x.2)
  (s:SS h0 M h i js l ds lv dv kn sz kvs EL ED R)
  (k:∀ l' jk kv' h',l'.map (·.1)=l.map (·.1)→l'.map (·.2)=(bH f (l.map (·.2))).1→(bK kv').Nodup→(∀ k,bp k kv'=(bH f (l.map (·.2))).2.1 k)→SS h0 M h' i js l' ds lv dv (.map jk) (bH f (l.map (·.2))).2.2 kvs EL ED ((jk,true,bu kv')::R)→Q (.tup []) h'):C gH [.ptr i 0] h Q:=by
 refine wN _ _ _ ?_
 unfold tN
 refine vz s.st fun jk h1 s1=>?_
 have s1:=s.front s1
 refine aq (an ?_)
 refine aF (L':=ED++((i,true,d8 lv js (.map jk) dv sz)::(js,true,bu kvs)::(EL++(cj l++((jk,true,.amap [] 0)::R))))) (cs:=[lv,.map js,kn,dv,I sz]) s1.st SS.subS rfl rfl rfl (nle rfl) fun h2 s2=>?_
 have s2:SS h0 M h2 i js l ds lv dv (.map jk) sz kvs EL ED ((jk,true,bu [])::R):=⟨s.al,s.ad,s2⟩
 have si:=St.startr s2.src
 (repeat (first|refine aq ?_|refine an ?_|refine aj ‹_› (.head _) rfl ?_))
 clear si
 refine Ee s2.st s2.syms fun it h3 s3=>?_
 have s3:=s2.front s3
 refine aR (fun n vs h'=>∃ (sn:List Nat) (kv:KV),vs=[]∧n+sn.length=kvs.length∧FillInv (fun v=>v) kvs sn kv∧SS h0 M h' i js l ds lv dv (.map jk) sz kvs EL ED ((it,true,D3 js kvs sn)::(jk,true,bu kv)::R)) kvs.length ⟨[],[],rfl,by simp,.start,s3⟩ ?_
 rintro n vs h4 ⟨sn,kv,rfl,hn,fi,s4⟩
 unfold nb
 refine HC s4.back s4.syms (fun hall=>?_) (fun q hq hnq h5 s5=>?_)
 ·refine ax rfl (ag (fun h=>by cases h) (fun _=>?_))
  have hdone:=fi.done hall
  have s5:=s4.unR (List.sublist_cons_self _ _)
  have si:=St.startr s5.src
  (repeat (first|refine aq ?_|refine an ?_|refine aj ‹_› (.head _) rfl ?_))
  clear si
  refine s5.row.len ?_
  refine QQ hl nds hfs w hs fi.nd (fun k=>by rw[hdone,hfs];cases f k<;>rfl) s5 fun l' kv' h' a b c d e=>k l' jk kv' h' a b c d e
 ·have s5:=(s4.unR (List.sublist_cons_self _ _)).front s5
  refine ax rfl (ag (fun _=>?_) (fun h=>by cases h))
  refine De s5.st (b:=true) (i:=it) (SS.memR (.head _)) s5.syms hq ?_
  have si:=St.startr s5.src
  (repeat (first|refine aq ?_|refine an ?_|refine ax rfl ?_|refine aj ‹_› (.head _) rfl ?_))
  clear si
  refine pU s5.st (SS.subR (.tail .head)) fun h6 s6=>?_
  have hlt:=fi.less hq hnq
  exact⟨n-1,by omega,sn++[q],_,rfl,by simp;omega,fi.step nds hq hnq,⟨s5.al,s5.ad,s6⟩⟩
end
end
section
section
variable [Tabs]
def eF (f:Str→Option Int) (e:En):Bool:=decide (e.x.2.kind=2)&&(!e.grown&&(decide ((aX e.place f (bm e)).2=0)&&!(fM (fD 0) [(aX e.place f (bm e)).1-e.place]).isSome))
end
def Ku (e:En):En:=⟨e.frag,e.x,e.place,true⟩
def gX (x:Nat×En):Nat×En:=(x.1,Ku x.2)
def grF (p:Nat×En→Bool):Nat→List (Nat×En)→List (Nat×En)
 | 0,l=>l
 | _+1,[]=>[]
 | t+1,x::l=>if p x=true then gX x::grF p t l else x::grF p (t+1) l
theorem Pw (p:Nat×En→Bool) (l:List (Nat×En)):grF p 0 l=l:=by cases l<;>simp[grF]
theorem Bl (p:Nat×En→Bool):∀ (l:List (Nat×En)) (t:Nat) (ht:t<(l.filter p).length),∃ q,∃ hq:q<(grF p t l).length,(grF p t l)[q]=(l.filter p)[t]∧grF p (t+1) l=(grF p t l).set q (gX (l.filter p)[t])
 | [],t,ht=>by simp at ht
 | x::l,t,ht=>by
   by_cases hp:p x=true
   ·cases t with
    | zero=>exact⟨0,by simp[grF],by simp[grF,hp],by simp[grF,hp]⟩
    | succ t=>
      have ht2:t<(l.filter p).length:=by simpa [List.filter_cons,hp] using ht
      obtain⟨q,hq,h1,h2⟩:=Bl p l t ht2
      refine⟨q+1,by simp[grF,hp];exact hq,?_,?_⟩
      ·simp[grF,hp,List.filter_cons,h1]
      ·simp[grF,hp,List.filter_cons,h2]
   ·have hf:(x::l).filter p=l.filter p:=by simp[List.filter_cons,hp]
    have ht2:t<(l.filter p).length:=by rw[hf]at ht;exact ht
    obtain⟨q,hq,h1,h2⟩:=Bl p l t ht2
    cases t with
    | zero=>
      refine⟨q+1,by simp[grF]at hq ⊢;exact hq,?_,?_⟩
      ·simp[grF,hf];simpa [grF] using h1
      ·simp[grF,hp,hf];simpa [grF] using h2
    | succ t=>
      refine⟨q+1,by simp[grF,hp];exact hq,?_,?_⟩
      ·simp[grF,hp,hf,h1]
      ·simp[grF,hp,hf];simpa [grF] using h2
theorem zZ (p:Nat×En→Bool):∀ l:List (Nat×En),grF p (l.filter p).length l=l.map fun x=>if p x=true then gX x else x
 | []=>by simp[grF]
 | x::l=>by
   by_cases hp:p x=true
   ·simp[List.filter_cons,hp,grF,zZ p l]
   ·have hf:(x::l).filter p=l.filter p:=by simp[List.filter_cons,hp]
    rw[hf,List.map_cons,if_neg hp]
    cases hn:(l.filter p).length with
    | zero=>
      have:=zZ p l
      rw[hn]at this
      simp only[grF]at this ⊢
      rw[← this]
    | succ n=>
      have:=zZ p l
      rw[hn]at this
      rw[grF,if_neg hp,this]
section
variable [Tabs]
def fu (f:Str→Option Int) (e:En):En:=if eF f e=true then Ku e else e
variable {h0 h h':ab}{M:List Nat}{Q:QT}{K:AV→Prop}
variable {i js:Nat}{l:List (Nat×En)}{ds:List Dg}{lv dv kn:AV}{sz:Int}{kvs:KV}{EL ED R:Own}
theorem SS.frontL {E:Own}(s':St h0 M h' (E++(ED++((i,true,d8 lv js kn dv sz)::(js,true,bu kvs)::(EL++(cj l++R)))))) (s:SS h0 M h i js l ds lv dv kn sz kvs EL ED R):SS h0 M h' i js l ds lv dv kn sz kvs EL ED (E++R):=⟨s.al,s.ad,s'.perm (by
 have hx:∀ R:Own,(ED++((i,true,d8 lv js kn dv sz)::(js,true,bu kvs)::(EL++(cj l++R))))=(ED++((i,true,d8 lv js kn dv sz)::(js,true,bu kvs)::(EL++cj l)))++R:=fun R=>by simp
 rw[hx R,hx (E++R),← List.append_assoc,← List.append_assoc _ E]
 exact List.Perm.append_right _ List.perm_append_comm)⟩
theorem SS.backL {E:Own}(s:SS h0 M h i js l ds lv dv kn sz kvs EL ED (E++R)):St h0 M h (E++(ED++((i,true,d8 lv js kn dv sz)::(js,true,bu kvs)::(EL++(cj l++R))))):=s.st.perm (by
 have hx:∀ R:Own,(ED++((i,true,d8 lv js kn dv sz)::(js,true,bu kvs)::(EL++(cj l++R))))=(ED++((i,true,d8 lv js kn dv sz)::(js,true,bu kvs)::(EL++cj l)))++R:=fun R=>by simp
 rw[hx R,hx (E++R)]
 exact List.perm_append_comm_assoc _ _ _)
theorem SS.unL {E:Own}(s:SS h0 M h i js l ds lv dv kn sz kvs EL ED (E++R)):SS h0 M h i js l ds lv dv kn sz kvs EL ED R:=s.unR (List.sublist_append_right _ _)
theorem Ri:fD 0<tbl.length:=by decide
theorem S7 (hF:ct) (hL:dq) (hl:l.length<10000000) {f:Str→Option Int}{jk:Nat}{kv:KV}(nd:(bK kv).Nodup) (hf:∀ k,bp k kv=f k) (w:∀ x∈l,PlE x.2)
  (s:SS h0 M h i js l ds lv dv (.map jk) sz kvs EL ED ((jk,true,bu kv)::R))
  (k:∀ h',SS h0 M h' i js (l.map fun x=>(x.1,fu f x.2)) ds lv dv (.map jk) sz kvs EL ED ((jk,true,bu kv)::R)→Q (B ((l.map (·.2)).any (eF f))) h'):C jy [.ptr i 0] h Q:=by
 refine ve _ _ _ ?_
 unfold ro
 have si:=St.startr s.src
 (repeat (first|refine aq ?_|refine an ?_|refine aj ‹_› (.head _) rfl ?_))
 clear si
 refine s.row.len ?_
 let pB:Nat×En→Bool:=fun x=>eF f x.2
 refine aR (fun n vs h'=>∃ (q:Nat) (v:AV) (E:Own),vs=[v,I (q:Nat)]∧n+q=l.length∧AccE 1 v ((l.take q).filter pB).length (((l.take q).filter pB).flatMap pE) E∧SS h0 M h' i js l ds lv dv (.map jk) sz kvs EL ED (E++((jk,true,bu kv)::R))) l.length ⟨0,.full 0 [],[],rfl,by omega,.none 1,s⟩ ?_
 rintro n vs h1 ⟨q,v,E,rfl,hn,a,s1⟩
 unfold mJ
 (repeat refine aP ?_)
 refine ag (fun hq=>?_) (fun hq=>?_)<;>simp only[za,zb,zc,zd,ze,zf,zg,zh,zi,u8i,zj,zk,zl]at hq
 ·have hq:q<l.length:=hq
  have hm:=List.getElem_mem hq
  have hw:=w _ hm
  have hlo:=hw.lo
  have hhi:=hw.hi
  have hfl:((l.take q).filter pB).length≤q:=by
   have:=List.length_filter_le pB (l.take q)
   rw[List.length_take]at this;omega
  refine s1.row.idx (fun _=>rfl) hq fun p t=>?_
  refine aE t ?_
  have sp:=St.startr (s1.ent _ hm)
  have si:=St.startr s1.src
  unfold enE at sp
  have hno:pB l[q]=false→(l.take (q+1)).filter pB=(l.take q).filter pB:=fun hb=>by
   rw[List.take_succ_eq_append_getElem hq,List.filter_append];simp[hb]
  have hyes:pB l[q]=true→(l.take (q+1)).filter pB=(l.take q).filter pB++[l[q]]:=fun hb=>by
   rw[List.take_succ_eq_append_getElem hq,List.filter_append];simp[hb]
  have skip:pB l[q]=false→∀ h',SS h0 M h' i js l ds lv dv (.map jk) sz kvs EL ED (E++((jk,true,bu kv)::R))→cu v (I (q:Nat)) h' (fun vs' h'=>∃ m,m<n∧∃ (q:Nat) (v:AV) (E:Own),vs'=[v,I (q:Nat)]∧m+q=l.length∧AccE 1 v ((l.take q).filter pB).length (((l.take q).filter pB).flatMap pE) E∧SS h0 M h' i js l ds lv dv (.map jk) sz kvs EL ED (E++((jk,true,bu kv)::R))):=by
   intro hb h' s'
   unfold cu jA
   refine aH (by omega) ?_
   exact⟨n-1,by omega,q+1,v,E,rfl,by omega,by rw[hno hb];exact a,s'⟩
  refine aq (an (an (aj sp (.head _) rfl (cE ?_))))
  refine ag (fun h2=>?_) (fun h2=>?_)<;>simp only[za,zb,zc,zd,ze,zf,zg,zh,zi,u8i,zj,zk,zl]at h2
  ·exact skip (by show eF f l[q].2=false;unfold eF;rw[show decide (l[q].2.x.2.kind=2)=false by simp;omega];rfl) h1 s1
  ·have h2:l[q].2.x.2.kind=2:=by omega
   refine aq (an (aj sp (.head _) rfl ?_))
   have hgb:pB l[q]=(!l[q].2.grown&&(decide ((aX l[q].2.place f (bm l[q].2)).2=0)&&!(fM (fD 0) [(aX l[q].2.place f (bm l[q].2)).1-l[q].2.place]).isSome)):=by
    show eF f l[q].2=_
    unfold eF;rw[show decide (l[q].2.x.2.kind=2)=true by simpa using h2,Bool.true_and]
   cases hg:l[q].2.grown with
   | true=>exact ag (fun _=>skip (by rw[hgb,hg];rfl) h1 s1) (fun h=>by cases h)
   | false=>
     refine ag (fun h=>by cases h) (fun _=>?_)
     rw[hg,Bool.not_false,Bool.true_and]at hgb
     have hrd:0<l[q].2.x.2.args.length:=by
      have:=(hw.wf.grow h2).2.1
      have h3:∀ n,n<3→0<(cS (aZ (fD n))).length:=by decide
      have:=h3 _ (hw.wf.grow h2).1
      omega
     have hne:l[q].2.x.2.args≠[]:=List.length_pos_iff.1 hrd
     have hlast:=tZ hw.wf hne
     refine aq (an (aj sp (.head _) rfl (aq (an (aj si (.head _) rfl ?_)))))
     refine un (s1.ent _ hm) hw.wf hne fun h3 f3=>?_
     refine⟨aj (si.call f3) (.head _) rfl rfl,aj (sp.call f3) (.head _) rfl rfl,?_⟩
     have mm:MapAt h1 jk f:=⟨kv,s1.rget (List.mem_append_right _ (.head _)),nd,hf⟩
     refine nr hlast.1 hlast.2 _ (mm.fr f3) fun h4 f4=>?_
     have s4:=(s1.call f3).call f4
     have hin:=AI l[q].2.place f (bm l[q].2)
     generalize aX l[q].2.place f (bm l[q].2)=ev at hgb hin ⊢
     refine ax rfl (ax rfl (aB ?_))
     refine ag (fun he=>?_) (fun he=>?_)<;>simp only[za,zb,zc,zd,ze,zf,zg,zh,zi,u8i,zj,zk,zl]at he
     ·rw[show decide (ev.2=0)=true by simpa using he,Bool.true_and]at hgb
      have sp4:=St.startr (s4.ent _ hm)
      unfold enE at sp4
      refine aq (an (aj sp4 (.head _) rfl (dD (by omega) (aG rfl rfl ?_))))
      refine Ic (n:=0) (by decide) fun h5 f5=>?_
      refine⟨aj (sp4.call f5) (.head _) rfl rfl,?_⟩
      refine aO rfl ?_
      have s5:=s4.call f5
      refine GZ hF hL Ri [ev.1-l[q].2.place] (by intro x hx;simp at hx;subst hx;unfold dt;omega) (Row.full (enc:=iE) (fun _=>rfl) [ev.1-l[q].2.place]) fun h6 f6=>?_
      have s6:=s5.call f6
      refine dA ?_
      cases hc:(fM (fD 0) [ev.1-l[q].2.place]).isSome with
      | true=>exact ag (fun h=>by cases h) (fun _=>skip (by rw[hgb,hc];rfl) h6 s6)
      | false=>
        refine ag (fun _=>?_) (fun h=>by cases h)
        refine aG rfl rfl ?_
        have hb:pB l[q]=true:=by rw[hgb,hc];rfl
        refine a.app s6.backL (xs:=pE l[q]) (m:=1) (Rd.full rfl) rfl (by omega) fun v3 E3 h8 a3 s8=>?_
        unfold cu jA
        refine aH (by omega) ?_
        refine⟨n-1,by omega,q+1,v3,E3,rfl,by omega,?_,SS.frontL s8 s6.unL⟩
        rw[hyes hb];simpa using a3
     ·exact skip (by rw[hgb,show decide (ev.2=0)=false by simpa using he];rfl) h4 s4
 ·have hq:q=l.length:=by omega
  subst hq
  rw[List.take_length]at a
  have hflen:(l.filter pB).length≤l.length:=List.length_filter_le _ _
  have rowF:∀ h l',SS h0 M h i js l' ds lv dv (.map jk) sz kvs EL ED (E++((jk,true,bu kv)::R))→Row pE 1 h v (l.filter pB):=fun h l' s=>a.rd s.backL
  refine (rowF _ _ s1).len ?_
  have hany:(l.map (·.2)).any (eF f)=decide (0<(l.filter pB).length):=by
   rw[List.any_map,Bool.eq_iff_iff,decide_eq_true_eq,List.any_eq_true]
   constructor
   ·rintro ⟨x,hx,hp⟩;exact List.length_pos_of_mem (List.mem_filter.2 ⟨hx,hp⟩)
   ·intro hp
    obtain⟨x,hx⟩:=List.exists_mem_of_length_pos hp
    rw[List.mem_filter]at hx
    exact⟨x,hx.1,hx.2⟩
  rw[hany]at k
  have hall:(l.map fun x=>(x.1,fu f x.2))=grF pB (l.filter pB).length l:=by
   rw[zZ]
   apply List.map_congr_left
   intro x _
   unfold fu
   show _=if eF f x.2=true then _ else _
   split<;>rfl
  rw[hall]at k
  refine aR (fun n vs h'=>∃ (t:Nat),vs=[I (t:Nat)]∧n+t=(l.filter pB).length∧SS h0 M h' i js (grF pB t l) ds lv dv (.map jk) sz kvs EL ED (E++((jk,true,bu kv)::R))) (l.filter pB).length ⟨0,rfl,by omega,by rw[Pw];exact s1⟩ ?_
  rintro n2 vs h2 ⟨t,rfl,hn2,s2⟩
  unfold mz
  (repeat refine aP ?_)
  refine ag (fun ht=>?_) (fun ht=>?_)<;>simp only[za,zb,zc,zd,ze,zf,zg,zh,zi,u8i,zj,zk,zl]at ht
  ·have ht:t<(l.filter pB).length:=ht
   refine (rowF _ _ s2).idx (fun _=>rfl) ht fun p2 t2=>?_
   refine aE t2 ?_
   obtain⟨q,hq,h1q,h2q⟩:=Bl pB l t ht
   rw[← h1q]at h2q ⊢
   refine aq (an ?_)
   refine aF (L':=ED++((i,true,d8 lv js (.map jk) dv sz)::(js,true,bu kvs)::(EL++(cj ((grF pB t l).set q ((grF pB t l)[q].1,Ku (grF pB t l)[q].2))++(E++((jk,true,bu kv)::R)))))) (cs:=enE (grF pB t l)[q].2) s2.st (SS.subE hq (Ku (grF pB t l)[q].2)) rfl rfl rfl (nle rfl) fun h3 s3=>?_
   have s3:=s2.setE hq s3
   refine aH (by omega) ?_
   refine⟨n2-1,by omega,t+1,rfl,by omega,?_⟩
   rw[h2q];exact s3
  ·have ht:t=(l.filter pB).length:=by omega
   rw[ht]at s2
   refine (rowF _ _ s2).len ?_
   refine cO ?_
   rw[show decide ((0:Int)<((l.filter pB).length:Nat))=decide (0<(l.filter pB).length) by simp]
   exact k h2 s2.unL
end
end
section
section
variable [Tabs]
abbrev Pl:=List En×(Str→Option Int)×Int
def dk (f:Str→Option Int):Nat→List En→Pl
 | 0,es=>bH f es
 | n+1,es=>if (bH f es).1.any (eF (bH f es).2.1)=true then dk f n ((bH f es).1.map (fu (bH f es).2.1)) else bH f es
def unG (e:En):Bool:=decide (e.x.2.kind=2)&&!e.grown
theorem zJ (f:Str→Option Int) (e:En):(fu f e).x=e.x∧(fu f e).frag=e.frag∧(fu f e).place=e.place:=by unfold fu;split<;>exact⟨rfl,rfl,rfl⟩
theorem qF (syms:Str→Option Int):∀ (es:List En) (st:List En×Int),((es.foldl (cW syms) st).1).countP unG=st.1.countP unG+es.countP unG
 | [],st=>by simp
 | e::es,st=>by
   rw[List.foldl_cons,qF syms es,List.countP_cons]
   simp only[cW,List.countP_append,List.countP_cons,List.countP_nil]
   have:unG (nM e st.2)=unG e:=rfl
   rw[this];omega
theorem xF {f:Str→Option Int}{es:List En}(h:es.any (eF f)=true):(es.map (fu f)).countP unG<es.countP unG:=by
 rw[List.countP_map]
 refine x6 (fun e he hp=>?_) ?_
 ·simp only[Function.comp]at hp
  unfold fu at hp
  split at hp
  ·simp[unG,Ku]at hp
  ·exact hp
 ·rw[List.any_eq_true]at h
  obtain⟨e,he,hg⟩:=h
  refine⟨e,he,?_,?_⟩
  ·unfold eF at hg;unfold unG
   simp only[Bool.and_eq_true]at hg ⊢
   exact⟨hg.1,hg.2.1⟩
  ·simp only[Function.comp]
   unfold fu;rw[if_pos hg];simp[unG,Ku]
theorem Sp {f:Str→Option Int}{es:List En}(h:es.any (eF f)=true):0<es.countP unG:=by
 have:=xF h;omega
variable {h0 h h':ab}{M:List Nat}{Q:QT}{K:AV→Prop}
variable {i js:Nat}{l:List (Nat×En)}{ds:List Dg}{lv dv kn:AV}{sz:Int}{kvs:KV}{EL ED R:Own}
theorem J9 {f:Str→Option Int}{es:List En}(hl:es.length<100000) (w:∀ e∈es,WfS e.x.2) (hs:∀ e∈es,SzOk f e):∀ e∈(bH f es).1,PlE e∧SzOk f e:=by
 intro e he
 have:=xX w hs es.length (Nat.le_refl _) e (by rw[List.take_length];exact he)
 obtain⟨⟨e0,h0,h1,h2,h3⟩,h4,h5⟩:=this
 refine⟨⟨by rw[h1];exact w _ h0,h4,by omega⟩,?_⟩
 have:=hs _ h0
 unfold SzOk bm pQ at this ⊢
 rw[h1];exact this
theorem iW (f:Str→Option Int) (es:List En):(bH f es).1.length=es.length:=by
 have:=vu f es ([],0)
 simpa [bH,bV] using this
theorem Ng (hF:ct) (hL:dq) (hl:l.length<100000) {f:Str→Option Int}(nds:(bK kvs).Nodup) (hfs:∀ k,bp k kvs=f k) (w:∀ x∈l,WfS x.2.x.2) (hs:∀ x∈l,SzOk f x.2) (hds:ds=[])
  (s:SS h0 M h i js l ds lv dv kn sz kvs EL ED R)
  (k:∀ l' jk kv' dv' ED' h',l'.map (·.1)=l.map (·.1)→l'.map (·.2)=(dk f l.length (l.map (·.2))).1→(∀ x∈l',PlE x.2∧SzOk f x.2)→(bK kv').Nodup→(∀ k,bp k kv'=(dk f l.length (l.map (·.2))).2.1 k)→
   SS h0 M h' i js l' (if 4096<(dk f l.length (l.map (·.2))).2.2 then [([],0,8)] else []) lv dv' (.map jk) (dk f l.length (l.map (·.2))).2.2 kvs EL ED' ((jk,true,bu kv')::R)→Q (.tup []) h'):C bT [.ptr i 0] h Q:=by
 subst hds
 generalize hP:dk f l.length (l.map (·.2))=P at k
 refine sI _ _ _ ?_
 unfold nR
 refine Pq hl nds hfs w hs s fun l1 jk1 kv1 h1 hm1 he1 nd1 hf1 s1=>?_
 have hw1:∀ e∈l.map (·.2),WfS e.x.2:=by
  intro e he;rw[List.mem_map]at he;obtain⟨x,hx,rfl⟩:=he;exact w x hx
 have hs1:∀ e∈l.map (·.2),SzOk f e:=by
  intro e he;rw[List.mem_map]at he;obtain⟨x,hx,rfl⟩:=he;exact hs x hx
 refine aR (fun n vs h'=>∃ (es:List En) (l1:List (Nat×En)) (jk:Nat) (kv:KV),vs=[]∧es.length<100000∧(∀ e∈es,WfS e.x.2)∧(∀ e∈es,SzOk f e)∧l1.map (·.1)=l.map (·.1)∧l1.map (·.2)=(bH f es).1∧(bK kv).Nodup∧(∀ k,bp k kv=(bH f es).2.1 k)∧
  es.countP unG≤n∧dk f n es=P∧SS h0 M h' i js l1 [] lv dv (.map jk) (bH f es).2.2 kvs EL ED ((jk,true,bu kv)::R)) l.length ⟨l.map (·.2),l1,jk1,kv1,rfl,by simpa using hl,hw1,hs1,hm1,he1,nd1,hf1,by have:=List.countP_le_length (p:=unG) (l:=l.map (·.2));simpa using this,hP,s1⟩ ?_
 rintro n vs h2 ⟨es,l2,jk,kv,rfl,hel,hwe,hse,hm2,he2,nd2,hf2,hcnt,hfix,s2⟩
 unfold lQ
 have hl2:l2.length=l.length:=by simpa using congrArg List.length hm2
 have hwl:∀ x∈l2,PlE x.2∧SzOk f x.2:=fun x hx=>J9 hel hwe hse x.2 (by rw[← he2];exact List.mem_map.2 ⟨x,hx,rfl⟩)
 have hcl:(bH f es).1.countP unG=es.countP unG:=by
  have:=qF f es ([],0)
  simpa [bH,bV] using this
 refine S7 hF hL (by omega) nd2 hf2 (fun x hx=>(hwl x hx).1) s2 fun h3 s3=>?_
 rw[he2]
 cases hany:(bH f es).1.any (eF (bH f es).2.1) with
 | true=>
   refine ag (fun _=>?_) (fun h=>by cases h)
   have hpos:=Sp hany
   obtain⟨m,rfl⟩:∃ m,n=m+1:=⟨n-1,by omega⟩
   rw[dk,if_pos hany]at hfix
   have hmap2:(l2.map fun x=>(x.1,fu (bH f es).2.1 x.2)).map (·.2)=(bH f es).1.map (fu (bH f es).2.1):=by
    rw[List.map_map,← he2,List.map_map];rfl
   have hmap1:(l2.map fun x=>(x.1,fu (bH f es).2.1 x.2)).map (·.1)=l.map (·.1):=by
    rw[List.map_map,← hm2];rfl
   refine Pq (by rw[List.length_map];omega) nds hfs (fun x hx=>?_) (fun x hx=>?_) s3 fun l4 jk4 kv4 h4 hm4 he4 nd4 hf4 s4=>?_
   ·rw[List.mem_map]at hx;obtain⟨y,hy,rfl⟩:=hx
    simp only[(zJ _ _).1];exact (hwl y hy).1.wf
   ·rw[List.mem_map]at hx;obtain⟨y,hy,rfl⟩:=hx
    have:=(hwl y hy).2
    unfold SzOk bm pQ at this ⊢
    simp only[(zJ _ _).1];exact this
   rw[hmap2]at he4 hf4 s4
   refine⟨m,by omega,(bH f es).1.map (fu (bH f es).2.1),l4,jk4,kv4,rfl,by rw[List.length_map,iW];exact hel,fun e he=>?_,fun e he=>?_,by rw[hm4,hmap1],he4,nd4,hf4,?_,hfix,s4.unR ((List.sublist_cons_self _ _).cons₂ _)⟩
   ·rw[List.mem_map]at he;obtain⟨y,hy,rfl⟩:=he
    rw[(zJ _ _).1];exact (J9 hel hwe hse y hy).1.wf
   ·rw[List.mem_map]at he;obtain⟨y,hy,rfl⟩:=he
    have:=(J9 hel hwe hse y hy).2
    unfold SzOk bm pQ at this ⊢
    rw[(zJ _ _).1];exact this
   ·have:=xF hany;omega
 | false=>
   refine ag (fun h=>by cases h) (fun _=>?_)
   have hP2:bH f es=P:=by
    rw[← hfix]
    cases n with
    | zero=>rfl
    | succ n=>rw[dk,if_neg (by rw[hany];simp)]
   have hid:(l2.map fun x=>(x.1,fu (bH f es).2.1 x.2))=l2:=by
    have:∀ x∈l2,(x.1,fu (bH f es).2.1 x.2)=x:=by
     intro x hx
     have hx2:x.2∈(bH f es).1:=by rw[← he2];exact List.mem_map.2 ⟨x,hx,rfl⟩
     rw[List.any_eq_false]at hany
     have:=hany _ hx2
     unfold fu;rw[if_neg this]
    conv=>rhs;rw[← List.map_id l2]
    exact List.map_congr_left this
   rw[hid]at s3
   rw[hP2]at he2 hf2 s3
   have si:=St.startr s3.src
   (repeat (first|refine aq ?_|refine an ?_|refine cO ?_|refine aj ‹_› (.head _) rfl ?_))
   clear si
   refine ag (fun hb=>?_) (fun hb=>?_)<;>simp only[za,zb,zc,zd,ze,zf,zg,zh,zi,u8i,zj,zk,zl]at hb
   ·rw[if_pos hb]at k
    refine wO (by simp) s3 fun dv' ED' h4 s4=>?_
    exact k l2 jk kv dv' ED' h4 hm2 he2 hwl nd2 hf2 s4
   ·rw[if_neg (by omega)]at k
    exact k l2 jk kv dv ED h3 hm2 he2 hwl nd2 hf2 s3
