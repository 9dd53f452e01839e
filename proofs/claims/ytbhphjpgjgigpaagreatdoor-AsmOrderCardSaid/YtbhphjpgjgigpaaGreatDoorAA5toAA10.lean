import Derived.Test.YtbhphjpgjgigpaaGreatDoorAN5toAA4
set_option linter.all false
set_option autoImplicit true
set_option relaxedAutoImplicit true
set_option maxRecDepth 100000
namespace Go.Proofs.YtbhphjpgjgigpaaGreatDoor.AL
noncomputable section
section
section
variable [Tabs]
variable {h:ae}{Q:QT}{K:AV→Prop}
theorem Zu {here:Int}{f:Str→Option Int}{a:Ar}(hr:a.reg<1000):-1099511627776≤(qo here f a).1∧(qo here f a).1≤1099511627776:=by
 unfold qo
 split
 ·exact FF _ _ _
 ·simp;omega
theorem y7 {here:Int}{f:Str→Option Int}{args:List Ar}(hr:∀ a∈args,a.reg<1000):∀ v∈(bc here f args).1,-1099511627776≤v∧v≤1099511627776:=by
 unfold bc
 split
 ·simp
 ·intro v hv
  simp only[List.mem_map]at hv
  obtain⟨a,ha,rfl⟩:=hv
  exact Zu (hr a ha)
theorem qX {here:Int}{f:Str→Option Int}{args:List Ar}(hz:(bc here f args).2=0):(bc here f args).1.length=args.length:=by
 unfold bc at hz ⊢
 split
 ·rename_i a ha
  rw[ha]at hz
  have:=List.find?_some ha
  simp at this
  exact (this hz).elim
 ·simp
theorem PG {here:Int}{f:Str→Option Int}{args:List Ar}:(bc here f args).1.length≤args.length:=by
 unfold bc
 split<;>simp
theorem Nr {place:Int}{ks:List Str}{vs:List Int}(hp:0≤place∧place≤1000000000000000) (hv:∀ v∈vs,-1099511627776≤v∧v≤1099511627776):∀ v∈gJ place ks vs,dQ v:=by
 intro v hm
 unfold gJ at hm
 obtain⟨j,hj,rfl⟩:=List.getElem_of_mem hm
 simp only[List.length_zipWith]at hj
 rw[List.getElem_zipWith]
 have:=hv _ (List.getElem_mem (show j<vs.length by omega))
 unfold GY dQ
 split<;>omega
structure PlE (e:En):Prop where
 wf:WfS e.x.2
 lo:0≤e.place
 hi:e.place≤1000000000000000
theorem TP (hF:cD) (hL:dL) {e:En}{p:Nat}(hp:h[p]?=some (.cells (enE e))) (w:PlE e) (hk:dI e) {f:Str→Option Int}(hz:(bc e.place f e.x.2.args).2=0) {fv:AV}(r:Row iE 1 h fv (bc e.place f e.x.2.args).1)
  (k:∀ h',Fr [] h h'→Q (I (if (mu (cr e) (gJ e.place (cK (bj (cr e))) (bc e.place f e.x.2.args).1)).isSome=false then 6 else 0)) h'):Hc (.ptr p 0) fv h Q:=by
 unfold Hc
 have hin:=y7 (here:=e.place) (f:=f) fun a ha=>(w.wf.arg a ha).2.2
 have hlen:=qX hz
 have hal:=w.wf.args
 generalize (bc e.place f e.x.2.args).1=vs at r k hin hlen ⊢
 have hlo:=w.lo
 have hhi:=w.hi
 obtain⟨ho,hkl⟩:=VV w.wf hk
 refine Q5 hF hp w.wf hk vs hlen (fun v hv=>by have:=hin v hv;omega) r fun v E h1 a s1=>?_
 have s1':St h [] h1 (E++[]):=by simpa using s1
 refine Mm hF hL ho _ (Nr ⟨hlo,hhi⟩ hin) (a.rd s1') fun h2 f2=>?_
 have s2:=s1.call f2
 refine bQ ?_
 cases hc:(mu (cr e) (gJ e.place (cK (bj (cr e))) vs)).isSome with
 | false=>
   rw[hc]at k
   exact ah (fun _=>k h2 s2.fr) (fun h=>by cases h)
 | true=>
   rw[hc]at k
   refine ah (fun h=>by cases h) (fun _=>?_)
   have hnd:¬ eF e:=by unfold eF;unfold dI at hk;omega
   refine Jz (s2.fr.get hp (by simp)) (fun h=>(hnd h).elim) (by omega) (r.fr s2.fr) ?_
   rw[if_neg (fun h=>hnd h.1)]
   exact k h2 s2.fr
theorem Wn (hF:cD) (hL:dL) {e:En}{p:Nat}(hp:h[p]?=some (.cells (enE e))) (w:PlE e) {i js jk:Nat}{lv dv:AV}{sz:Int}(hi:h[i]?=some (ew lv js (.map jk) dv sz)) {f:Str→Option Int}(m:MapAt h jk f)
  {l:List (Nat×En)} (hl:l.length<1000000000) (rl:Row pE 1 h lv l) (he:∀ x∈l,h[x.1]?=some (.cells (enE x.2))) (k:∀ h',Fr [] h h'→Q (I (qk f (l.map (·.2)) e)) h'):C jS [.ptr i 0,.ptr p 0] h Q:=by
 refine x9 _ _ _ _ ?_
 unfold td
 have sp:=St.startr hp
 have hal:=w.wf.args
 have hlo:=w.lo
 have hhi:=w.hi
 unfold enE at sp
 unfold qk at k
 have hin:=y7 (here:=e.place) (f:=f) fun a ha=>(w.wf.arg a ha).2.2
 have vals:(∀ tail:AV→QT,¬ (dI e∧e.place.tmod 2≠0)→
   (∀ fv h',Fr [] h h'→Row iE 1 h' fv (bc e.place f e.x.2.args).1→¬ ((bc e.place f e.x.2.args).2=4∧e.x.2.kind=9∧k5 f (l.map (·.2)) (bO e)=true)→tail fv (I (bc e.place f e.x.2.args).2) h')→
   Ft (.ptr i 0) (.ptr p 0) tail h Q):=by
  intro tail hno ht
  rw[if_neg hno]at k
  unfold Ft
  refine Bl hp w.wf hi m fun v E h1 a s1=>?_
  have s1':St h [] h1 (E++[]):=by simpa using s1
  have r1:Row iE 1 h1 v (bc e.place f e.x.2.args).1:=a.rd s1'
  refine aE rfl (aE rfl (aA ?_))
  refine ah (fun h4=>?_) (fun h4=>?_)<;>simp only[za,zb,zc,zd,ze,zf,zg,zh,zi,u8i,zj,zk,zl]at h4
  ·have sp1:=St.startr (s1.fr.get hp (by simp))
   unfold enE at sp1
   refine aw (aj (aj (af sp1 (.head _) rfl (aA ?_))))
   refine ah (fun h9=>?_) (fun h9=>?_)<;>simp only[za,zb,zc,zd,ze,zf,zg,zh,zi,u8i,zj,zk,zl]at h9
   ·have h9:e.x.2.kind=9:=by omega
    have hne:=w.wf.data (by omega) (by omega)
    have hlast:=xF w.wf hne
    refine xI (s1.fr.get hp (by simp)) w.wf hne fun h2 f2=>?_
    have f2':Fr [] h h2:=s1.fr.trans f2 (by simp)
    refine Mg (f2'.get hi (by simp)) (m.fr f2') hl (rl.fr f2') (fun x hx=>f2'.get (he x hx) (by simp)) hlast.1 hlast.2 fun h3 f3=>?_
    have f3':Fr [] h h3:=f2'.trans f3 (by simp)
    cases hd:k5 f (l.map (·.2)) (bO e) with
    | true=>
      rw[if_pos ⟨h4,h9,hd⟩]at k
      exact ah (fun _=>k h3 f3') (fun h=>by cases h)
    | false=>exact ah (fun h=>by cases h) (fun _=>ht v h3 f3' (r1.fr (f2.trans f3 (by simp))) (by simp[hd]))
   ·exact ht v h1 s1.fr r1 (fun hh=>by omega)
  ·exact ht v h1 s1.fr r1 (fun hh=>by omega)
 have hA:¬ (dI e∧e.place.tmod 2≠0)→dI e→∀ fv h',Fr [] h h'→Row iE 1 h' fv (bc e.place f e.x.2.args).1→¬ ((bc e.place f e.x.2.args).2=4∧e.x.2.kind=9∧k5 f (l.map (·.2)) (bO e)=true)→(bc e.place f e.x.2.args).2=0→Hc (.ptr p 0) fv h' Q:=by
  intro hno hc fv h' f' r' hnd hz
  refine TP hF hL (f'.get hp (by simp)) w hc hz r' fun h2 f2=>?_
  have:=k h2 (f'.trans f2 (by simp))
  rw[if_neg hno,if_neg hnd,if_neg (by omega)]at this
  by_cases hcode:(mu (cr e) (gJ e.place (cK (bj (cr e))) (bc e.place f e.x.2.args).1)).isSome=false
  ·rw[if_pos ⟨hc,hcode⟩]at this
   rw[if_pos hcode];exact this
  ·rw[if_neg (fun h=>hcode h.2)]at this
   rw[if_neg hcode]
   have hnd:¬ eF e:=by unfold eF;unfold dI at hc;omega
   rw[if_neg (fun h=>hnd h.1)]at this
   exact this
 have hD:¬ dI e→∀ fv h',Fr [] h h'→Row iE 1 h' fv (bc e.place f e.x.2.args).1→¬ ((bc e.place f e.x.2.args).2=4∧e.x.2.kind=9∧k5 f (l.map (·.2)) (bO e)=true)→(bc e.place f e.x.2.args).2=0→EK (.ptr p 0) fv h' Q:=by
  intro hc fv h' f' r' hnd hz
  have hlen:=qX hz
  refine Jz (f'.get hp (by simp)) (fun hd=>?_) (by omega) r' ?_
  ·have:e.x.2.args≠[]:=w.wf.data (by unfold eF at hd;omega) (by unfold eF at hd;omega)
   intro hv;rw[hv]at hlen;exact this (List.length_eq_zero_iff.1 hlen.symm)
  ·have:=k h' f'
   rw[if_neg (fun h=>hc h.1),if_neg hnd,if_neg (by omega),if_neg (fun h=>hc h.1)]at this
   exact this
 have hE:¬ (dI e∧e.place.tmod 2≠0)→∀ h',Fr [] h h'→¬ ((bc e.place f e.x.2.args).2=4∧e.x.2.kind=9∧k5 f (l.map (·.2)) (bO e)=true)→(bc e.place f e.x.2.args).2≠0→Q (I (bc e.place f e.x.2.args).2) h':=by
  intro hno h' f' hnd hz
  have:=k h' f'
  rw[if_neg hno,if_neg hnd,if_pos hz]at this
  exact this
 have odd:dI e→e.place.tmod 2≠0→Q (I 7) h:=fun hc ho=>by
  have:=k h (Fr.refl _ _)
  rw[if_pos ⟨hc,ho⟩]at this;exact this
 refine aw (aj (aj (af sp (.head _) rfl (aA ?_))))
 refine ah (fun h1=>?_) (fun h1=>?_)<;>simp only[za,zb,zc,zd,ze,zf,zg,zh,zi,u8i,zj,zk,zl]at h1
 ·have hc:dI e:=.inl (by omega)
  refine aw (aj (af sp (.head _) rfl (n9 (by decide) (cg ?_))))
  refine ah (fun ho=>?_) (fun ho=>?_)<;>simp only[za,zb,zc,zd,ze,zf,zg,zh,zi,u8i,zj,zk,zl]at ho
  ·exact odd hc ho
  ·have hno:¬ (dI e∧e.place.tmod 2≠0):=fun h=>h.2 ho
   refine vals (fun t37 t38 h=>wrA (.ptr p 0) t37 t38 h Q) hno fun fv h' f' r' hnd=>?_
   unfold wrA
   refine cg ?_
   refine ah (fun hz=>?_) (fun hz=>?_)<;>simp only[za,zb,zc,zd,ze,zf,zg,zh,zi,u8i,zj,zk,zl]at hz
   ·exact hE hno h' f' hnd hz
   ·exact hA hno hc fv h' f' r' hnd hz
 ·refine aw (aj (aj (af sp (.head _) rfl (aA ?_))))
  refine ah (fun h2=>?_) (fun h2=>?_)<;>simp only[za,zb,zc,zd,ze,zf,zg,zh,zi,u8i,zj,zk,zl]at h2
  ·have hc:dI e:=.inr (by omega)
   refine aw (aj (af sp (.head _) rfl (n9 (by decide) (cg ?_))))
   refine ah (fun ho=>?_) (fun ho=>?_)<;>simp only[za,zb,zc,zd,ze,zf,zg,zh,zi,u8i,zj,zk,zl]at ho
   ·exact odd hc ho
   ·have hno:¬ (dI e∧e.place.tmod 2≠0):=fun h=>h.2 ho
    have hb2:decide ((e.x.2.kind:Int)=2)=true:=by simpa using h2
    refine vals (fun t37 t38 h=>wrB (B (decide ((e.x.2.kind:Int)=2))) (.ptr p 0) t37 t38 h Q) hno fun fv h' f' r' hnd=>?_
    unfold wrB
    refine cg ?_
    refine ah (fun hz=>?_) (fun hz=>?_)<;>simp only[za,zb,zc,zd,ze,zf,zg,zh,zi,u8i,zj,zk,zl]at hz
    ·exact hE hno h' f' hnd hz
    ·rw[hb2]
     exact ah (fun _=>hA hno hc fv h' f' r' hnd hz) (fun h=>by cases h)
  ·have hc:¬ dI e:=by unfold dI;omega
   have hno:¬ (dI e∧e.place.tmod 2≠0):=fun h=>hc h.1
   have hb2:decide ((e.x.2.kind:Int)=2)=false:=by simpa using h2
   refine vals (fun t37 t38 h=>wrB (B (decide ((e.x.2.kind:Int)=2))) (.ptr p 0) t37 t38 h Q) hno fun fv h' f' r' hnd=>?_
   unfold wrB
   refine cg ?_
   refine ah (fun hz=>?_) (fun hz=>?_)<;>simp only[za,zb,zc,zd,ze,zf,zg,zh,zi,u8i,zj,zk,zl]at hz
   ·exact hE hno h' f' hnd hz
   ·rw[hb2]
    exact ah (fun h=>by cases h) (fun _=>hD hc fv h' f' r' hnd hz)
end
end
section
def beB:Nat→Int→List Int
 | 0,_=>[]
 | n+1,v=>IntKind.u8.wrap (v.fdiv (2^(8*n)))::beB n v
theorem Q0:∀ n v,(beB n v).length=n
 | 0,_=>rfl
 | n+1,v=>by simp[beB,Q0]
section
variable [Tabs]
def oe (syms f:Str→Option Int) (e:En):List Int:=
 if dI e then (HI (cr e) (gJ e.place (cK (bj (cr e))) (bc e.place f e.x.2.args).1)).getD []
 else if eF e then (bc e.place f e.x.2.args).1.flatMap (beB (2^(e.x.2.kind-3)))
 else if e.x.2.kind=6 then e.x.2.text.map fun b=>(b.toNat:Int)
 else List.replicate (jI syms e).toNat 0
abbrev bE (v:Int):List AV:=[BI v]
variable {h:ae}{Q:QT}{K:AV→Prop}{h0:ae}{M:List Nat}{L:Own}{KH:QT}
theorem Nq {l:Str}(s:St h0 M h L) (k:∀ i h',St h0 M h' ((i,true,.cells ((l.map fun b=>(b.toNat:Int)).flatMap bE))::L)→KH (.sl i 0 l.length 1) h'):pI (T l) h KH:=⟨by
 simp only[jA]
 have:((⟨⟨l⟩⟩:ByteArray).data.toList.map fun b=>AV.lit (.int .u8 b.toNat))=(l.map fun b=>(b.toNat:Int)).flatMap bE:=by
  clear k s
  induction l with
  | nil=>rfl
  | cons a r ih=>simpa using ih
 rw[this]
 exact k _ _ (s.push _)⟩
theorem wj {f:Str→Option Int}{e:En}(w:WfS e.x.2) (hs:SzOk f e) (hp:0≤e.place):0≤jI f e∧jI f e≤4000000000:=by
 have hal:=w.args
 have htl:=w.text
 unfold jI
 split
 ·unfold l7;split<;>simp
 ·split
  ·split<;>simp
  ·split
   ·rename_i hk
    rcases hk with hk|hk|hk<;>rw[hk]<;>simp<;>omega
   ·split
    ·simp;omega
    ·split
     ·rename_i h7
      have hv:=hs.1 h7
      have hm1:=Int.tmod_nonneg (br 0 f (bO e)).1 hp
      have hm2:=Int.tmod_lt_of_pos e.place (show 0<(br 0 f (bO e)).1 by omega)
      have h3:=Int.tmod_nonneg (br 0 f (bO e)).1 (show 0≤(br 0 f (bO e)).1-e.place.tmod (br 0 f (bO e)).1 by omega)
      have h4:=Int.tmod_lt_of_pos ((br 0 f (bO e)).1-e.place.tmod (br 0 f (bO e)).1) (show 0<(br 0 f (bO e)).1 by omega)
      omega
     ·split
      ·rename_i h8
       have hv:=hs.2 h8
       omega
      ·simp
theorem VP (hF:cD) (hL:dL) {e:En}{p:Nat}(hp:h[p]?=some (.cells (enE e))) (w:PlE e) {i js jk:Nat}{lv dv:AV}{sz:Int}(hi:h[i]?=some (ew lv js (.map jk) dv sz)) {f g:Str→Option Int}(m:MapAt h jk f) (mg:MapAt h js g) (hs:SzOk g e)
  (hc:dI e→(bc e.place f e.x.2.args).2=0∧(HI (cr e) (gJ e.place (cK (bj (cr e))) (bc e.place f e.x.2.args).1)).isSome=true)
  (k:∀ v h',Fr [] h h'→Row bE 1 h' v (oe g f e)→Q v h'):C jW [.ptr i 0,.ptr p 0] h Q:=by
 refine x8 _ _ _ _ ?_
 unfold sZ
 have hlo:=w.lo
 have hhi:=w.hi
 have hal:=w.wf.args
 refine Bl hp w.wf hi m fun v E h1 a s1=>?_
 have s1':St h [] h1 (E++[]):=by simpa using s1
 have r1:Row iE 1 h1 v (bc e.place f e.x.2.args).1:=a.rd s1'
 have hin:=y7 (here:=e.place) (f:=f) fun a ha=>(w.wf.arg a ha).2.2
 have hlen:=qX (here:=e.place) (f:=f) (args:=e.x.2.args)
 have hle:=PG (here:=e.place) (f:=f) (args:=e.x.2.args)
 have sp:=St.startr (s1.fr.get hp (by simp))
 unfold enE at sp
 refine aE rfl (aE rfl (aw (aj (aj (af sp (.head _) rfl (aA ?_))))))
 unfold oe at k
 have hj12:∀ b:Bool,(b=true↔dI e)→fx (B b) (I (e.x.2.kind:Nat)) v (.ptr i 0) (.ptr p 0) h1 Q:=by
  intro b hb
  unfold fx
  refine ah (fun hbt=>?_) (fun hbf=>?_)
  ·have hcode:=hb.1 hbt
   obtain⟨hz,he⟩:=hc hcode
   rw[if_pos hcode]at k
   have hlen:=hlen hz
   generalize (bc e.place f e.x.2.args).1=vs at r1 k hin hlen he ⊢
   obtain⟨ho,hkl⟩:=VV w.wf hcode
   refine Q5 hF (s1.fr.get hp (by simp)) w.wf hcode vs hlen (fun v hv=>by have:=hin v hv;omega) r1 fun v2 E2 h2 a2 s2=>?_
   have s2':St h1 [] h2 (E2++[]):=by simpa using s2
   cases hen:HI (cr e) (gJ e.place (cK (bj (cr e))) vs) with
   | none=>rw[hen]at he;cases he
   | some bs=>
     rw[hen]at k
     refine S3 hF hL ho _ (Nr ⟨hlo,hhi⟩ hin) hen (a2.rd s2') fun h3 f3=>?_
     refine aE rfl (aE rfl ?_)
     exact k _ h3 (s1.fr.trans (s2.fr.trans f3 (by simp)) (by simp)) (Row.snap (enc:=bE) (fun _=>rfl) bs)
  ·have hcode:¬ dI e:=by rw[← hb,hbf];simp
   rw[if_neg hcode]at k
   have hj11:∀ b:Bool,(b=true↔eF e)→d5 (B b) (I (e.x.2.kind:Nat)) v (.ptr i 0) (.ptr p 0) h1 Q:=by
    intro b hb
    unfold d5
    refine ah (fun hbt=>?_) (fun hbf=>?_)
    ·have hd:=hb.1 hbt
     rw[if_pos hd]at k
     have hkn:3≤e.x.2.kind∧e.x.2.kind≤5:=by unfold eF at hd;omega
     generalize (bc e.place f e.x.2.args).1=vs at r1 k hin hlen hle ⊢
     refine r1.len ?_
     have hw:2^(e.x.2.kind-3)≤4∧1≤2^(e.x.2.kind-3):=by unfold eF at hd;rcases hd with h|h|h<;>rw[h]<;>decide
     have hkind:(8:Int)*2^(min ((e.x.2.kind:Int)-3).toNat IntKind.i64.bits)=8*(2^(e.x.2.kind-3):Nat):=by
      have hb:IntKind.i64.bits=64:=rfl
      rw[hb]
      unfold eF at hd
      rcases hd with hk|hk|hk<;>rw[hk]<;>rfl
     generalize hW:2^(e.x.2.kind-3)=W at hw hkind k
     refine aP (fun n vs' h'=>∃ (q:Nat) (u:AV) (E:Own) (bs:List Int),vs'=[u,I (q:Nat)]∧n+q=vs.length∧bs=(vs.take q).flatMap (beB W)∧bs.length=q*W∧AccE 1 u bs.length (bs.flatMap bE) E∧St h1 [] h' (E++[])) vs.length ⟨0,.full 0 [],[],[],rfl,by omega,rfl,by simp,.none 1,St.start h1⟩ ?_
     rintro n vs' h2 ⟨q,u,E2,bs,rfl,hn,hbs,hbl,a2,s2⟩
     unfold oy
     refine aJ ?_
     refine ah (fun hq=>?_) (fun hq=>?_)<;>simp only[za,zb,zc,zd,ze,zf,zg,zh,zi,u8i,zj,zk,zl]at hq
     ·have hq:q<vs.length:=hq
      refine (r1.fr s2.fr).idx (fun _=>rfl) hq fun p1 t=>?_
      refine aH t ?_
      have sp2:=sp.call s2.fr
      refine aw (aj (aj (af sp2 (.head _) rfl (cw (by omega) ?_))))
      refine jR (by omega) ?_
      rw[hkind]
      rw[show IntKind.i64.wrap (8*(W:Nat):Int)=8*(W:Nat) from sY (by omega)]
      refine cw (by omega) ?_
      have hqW:q*W≤vs.length*4:=Nat.mul_le_mul (by omega) hw.1
      refine aP (fun n2 vs'' h''=>∃ (r:Nat) (u:AV) (E:Own) (cs:List Int),vs''=[u,I (8*(r:Nat)-8)]∧n2=r∧r≤W∧cs.length+r=bs.length+W∧cs++beB r vs[q]=bs++beB W vs[q]∧AccE 1 u cs.length (cs.flatMap bE) E∧St h1 [] h'' (E++[])) W ⟨W,u,E2,bs,rfl,rfl,Nat.le_refl _,rfl,rfl,a2,s2⟩ ?_
      rintro n2 vs'' h3 ⟨r,u3,E3,cs,rfl,rfl,hrW,hcl,hcs,a3,s3⟩
      unfold oA
      refine bL ?_
      refine ah (fun hr=>?_) (fun hr=>?_)<;>simp only[za,zb,zc,zd,ze,zf,zg,zh,zi,u8i,zj,zk,zl]at hr
      ·obtain⟨r',rfl⟩:∃ r',n2=r'+1:=⟨n2-1,by omega⟩
       refine wO (by omega) ?_
       have hmin:min ((8*((r'+1:Nat):Int)-8)).toNat IntKind.i64.bits=8*r':=by
        have hb:IntKind.i64.bits=64:=rfl
        rw[hb];omega
       rw[hmin]
       refine d7 ?_
       refine aB rfl rfl ?_
       refine a3.app s3 (xs:=bE (IntKind.u8.wrap (vs[q].fdiv (2^(8*r'))))) (m:=1) (Rd.full rfl) rfl (by omega) fun v4 E4 h8 a4 s8=>?_
       refine cw (by omega) ?_
       refine⟨r',by omega,r',v4,E4,cs++[IntKind.u8.wrap (vs[q].fdiv (2^(8*r')))],by rw[show 8*((r'+1:Nat):Int)-8-8=8*(r':Nat)-8 by omega],rfl,by omega,by simp;omega,?_,by simpa using a4,s8⟩
       rw[← hcs];simp[beB]
      ·have hr0:n2=0:=by omega
       subst hr0
       refine aI (by omega) ?_
       simp only[beB,List.append_nil]at hcs
       refine⟨n-1,by omega,q+1,u3,E3,cs,rfl,by omega,?_,by rw[Nat.add_mul];omega,a3,s3⟩
       rw[hcs,hbs,List.take_succ_eq_append_getElem hq,List.flatMap_append,List.flatMap_cons,List.flatMap_nil,List.append_nil]
     ·rw[List.take_of_length_le (by omega)]at hbs
      subst hbs
      exact k u h2 (s1.fr.trans s2.fr (by simp)) (a2.rd s2)
    ·have hd:¬ eF e:=by rw[← hb,hbf];simp
     rw[if_neg hd]at k
     refine aA ?_
     refine ah (fun h6=>?_) (fun h6=>?_)<;>simp only[za,zb,zc,zd,ze,zf,zg,zh,zi,u8i,zj,zk,zl]at h6
     ·rw[if_pos (by omega)]at k
      refine aw (aj (aj (af sp (.head _) rfl ?_)))
      refine Nq (St.start h1) fun j h2 s2=>?_
      refine k _ h2 (s1.fr.trans s2.fr (by simp)) ?_
      have:=Row.sl (enc:=bE) (sz:=1) (fun _=>rfl) (s2.get (.head _))
      simpa using this
     ·rw[if_neg (by omega)]at k
      refine JK (s1.fr.get hp (by simp)) w.wf (s1.fr.get hi (by simp)) (mg.fr s1.fr) hs ⟨hlo,hhi⟩ fun h2 f2=>?_
      have hli:=wj w.wf hs hlo
      obtain⟨n,hn⟩:=Int.eq_ofNat_of_zero_le hli.1
      rw[hn]at hli k ⊢
      refine Aw (s1.call f2) (Nat.le_refl _) (by simp at hli;omega) (by simp at hli;omega) fun j h3 s3=>?_
      refine k _ h3 s3.fr ?_
      have hrep:∀ n:Nat,List.replicate n (BI 0)=(List.replicate n (0:Int)).flatMap bE:=by
       intro n
       induction n with
       | zero=>rfl
       | succ n ih=>rw[List.replicate_succ,List.replicate_succ,List.flatMap_cons,← ih];rfl
      have e3:=s3.get (.head _)
      rw[hrep]at e3
      have:=Row.sl (enc:=bE) (sz:=1) (fun _=>rfl) e3
      simpa using this
   refine aA ?_
   refine ah (fun h3=>?_) (fun h3=>?_)<;>simp only[za,zb,zc,zd,ze,zf,zg,zh,zi,u8i,zj,zk,zl]at h3
   ·exact hj11 _ (by unfold eF;simp;omega)
   ·refine aA ?_
    refine ah (fun h4=>?_) (fun h4=>?_)<;>simp only[za,zb,zc,zd,ze,zf,zg,zh,zi,u8i,zj,zk,zl]at h4
    ·exact hj11 _ (by unfold eF;simp;omega)
    ·refine aA ?_
     exact hj11 _ (by unfold eF;simp;omega)
 refine ah (fun h1=>?_) (fun h1=>?_)<;>simp only[za,zb,zc,zd,ze,zf,zg,zh,zi,u8i,zj,zk,zl]at h1
 ·exact hj12 _ (by unfold dI;simp;omega)
 ·refine aA ?_
  exact hj12 _ (by unfold dI;simp;omega)
end
end
section
abbrev Dg:=Str×Nat×Int
def dE (d:Dg):List AV:=[T d.1,I (d.2.1:Nat),I d.2.2]
theorem Sub.pre {L L':Own}{e e':Nat×Bool×AObj}(s:Sub L e L' e'):∀ A:Own,Sub (A++L) e (A++L') e'
 | []=>s
 | _::A=>.tail (Sub.pre s A)
theorem Sub.post {L L':Own}{e e':Nat×Bool×AObj}(s:Sub L e L' e') (R:Own):Sub (L++R) e (L'++R) e':=by
 induction s with
 | head=>exact .head
 | tail _ ih=>exact .tail ih
def cy (l:List (Nat×En)):Own:=l.map fun x=>(x.1,true,.cells (enE x.2))
theorem Vt {l:List (Nat×En)}{x:Nat×En}(h:x∈l):(x.1,true,AObj.cells (enE x.2))∈cy l:=List.mem_map.2 ⟨x,h,rfl⟩
theorem Ml:∀ {l:List (Nat×En)}{q:Nat}(hq:q<l.length) (e':En),Sub (cy l) (l[q].1,true,.cells (enE l[q].2)) (cy (l.set q (l[q].1,e'))) (l[q].1,true,.cells (enE e'))
 | [],q,hq,_=>by simp at hq
 | x::l,0,_,e'=>.head
 | x::l,q+1,hq,e'=>by
   have:=Ml (l:=l) (q:=q) (by simpa using hq) e'
   simpa [cy] using Sub.tail this
section
variable [Tabs]
variable {h0 h h':ae}{M:List Nat}{Q:QT}{K:AV→Prop}
structure SS (h0:ae) (M:List Nat) (h:ae) (i js:Nat) (l:List (Nat×En)) (ds:List Dg) (lv dv kn:AV) (sz:Int) (kvs:KV) (EL ED R:Own):Prop where
 al:AccE 1 lv l.length (l.flatMap pE) EL
 ad:AccE 3 dv ds.length (ds.flatMap dE) ED
 st:St h0 M h (ED++((i,true,ew lv js kn dv sz)::(js,true,bC kvs)::(EL++(cy l++R))))
variable {i js:Nat}{l:List (Nat×En)}{ds:List Dg}{lv dv kn:AV}{sz:Int}{kvs:KV}{EL ED R:Own}
theorem SS.src (s:SS h0 M h i js l ds lv dv kn sz kvs EL ED R):h[i]?=some (ew lv js kn dv sz):=s.st.get (b:=true) (by simp)
theorem SS.syms (s:SS h0 M h i js l ds lv dv kn sz kvs EL ED R):h[js]?=some (bC kvs):=s.st.get (b:=true) (by simp)
theorem SS.row (s:SS h0 M h i js l ds lv dv kn sz kvs EL ED R):Row pE 1 h lv l:=by
 have hp:(ED++((i,true,ew lv js kn dv sz)::(js,true,bC kvs)::(EL++(cy l++R)))).Perm (EL++(ED++((i,true,ew lv js kn dv sz)::(js,true,bC kvs)::(cy l++R)))):=by
  have h1:(ED++((i,true,ew lv js kn dv sz)::(js,true,bC kvs)::(EL++(cy l++R))))=(ED++[(i,true,ew lv js kn dv sz),(js,true,bC kvs)])++(EL++(cy l++R)):=by simp
  have h2:(ED++((i,true,ew lv js kn dv sz)::(js,true,bC kvs)::(cy l++R)))=(ED++[(i,true,ew lv js kn dv sz),(js,true,bC kvs)])++(cy l++R):=by simp
  rw[h1,h2,← List.append_assoc,← List.append_assoc EL]
  exact List.Perm.append_right _ List.perm_append_comm
 exact s.al.rd (s.st.perm hp)
theorem SS.ent (s:SS h0 M h i js l ds lv dv kn sz kvs EL ED R):∀ x∈l,h[x.1]?=some (.cells (enE x.2)):=fun x hx=>s.st.get (b:=true) (by
 have:=Vt hx
 simp[this])
theorem SS.rget (s:SS h0 M h i js l ds lv dv kn sz kvs EL ED R) {e:Nat×Bool×AObj}(he:e∈R):h[e.1]?=some e.2.2:=s.st.get (b:=e.2.1) (by
 show e∈_
 simp[he])
theorem SS.call (s:SS h0 M h i js l ds lv dv kn sz kvs EL ED R) (f:Fr [] h h'):SS h0 M h' i js l ds lv dv kn sz kvs EL ED R:=⟨s.al,s.ad,s.st.call f⟩
theorem SS.front {e:Nat×Bool×AObj}(s:SS h0 M h i js l ds lv dv kn sz kvs EL ED R) (s':St h0 M h' (e::(ED++((i,true,ew lv js kn dv sz)::(js,true,bC kvs)::(EL++(cy l++R)))))):SS h0 M h' i js l ds lv dv kn sz kvs EL ED (e::R):=⟨s.al,s.ad,s'.perm (by
 have hx:∀ R:Own,(ED++((i,true,ew lv js kn dv sz)::(js,true,bC kvs)::(EL++(cy l++R))))=(ED++((i,true,ew lv js kn dv sz)::(js,true,bC kvs)::(EL++cy l)))++R:=fun R=>by simp
 rw[hx R,hx (e::R)]
 exact List.perm_middle.symm)⟩
theorem SS.unR {R':Own}(s:SS h0 M h i js l ds lv dv kn sz kvs EL ED R) (hs:R'.Sublist R):SS h0 M h i js l ds lv dv kn sz kvs EL ED R':=⟨s.al,s.ad,s.st.sub (List.Sublist.append (List.Sublist.refl _) (((List.Sublist.append (List.Sublist.refl _) (List.Sublist.append (List.Sublist.refl _) hs)).cons₂ _).cons₂ _))⟩
theorem SS.subR {R':Own}{e e':Nat×Bool×AObj}(u:Sub R e R' e'):Sub (ED++((i,true,ew lv js kn dv sz)::(js,true,bC kvs)::(EL++(cy l++R)))) e (ED++((i,true,ew lv js kn dv sz)::(js,true,bC kvs)::(EL++(cy l++R')))) e':=
 Sub.pre (.tail (.tail (Sub.pre (Sub.pre u _) _))) _
theorem SS.subE {q:Nat}(hq:q<l.length) (e':En):Sub (ED++((i,true,ew lv js kn dv sz)::(js,true,bC kvs)::(EL++(cy l++R)))) (l[q].1,true,.cells (enE l[q].2)) (ED++((i,true,ew lv js kn dv sz)::(js,true,bC kvs)::(EL++(cy (l.set q (l[q].1,e'))++R)))) (l[q].1,true,.cells (enE e')):=
 Sub.pre (.tail (.tail (Sub.pre (Sub.post (Ml hq e') _) _))) _
theorem SS.subS {kn':AV}{sz':Int}{lv' dv':AV}:Sub (ED++((i,true,ew lv js kn dv sz)::(js,true,bC kvs)::(EL++(cy l++R)))) (i,true,ew lv js kn dv sz) (ED++((i,true,ew lv' js kn' dv' sz')::(js,true,bC kvs)::(EL++(cy l++R)))) (i,true,ew lv' js kn' dv' sz'):=Sub.pre .head _
theorem De:∀ {l:List (Nat×En)}{q:Nat}(hq:q<l.length) (e':En),(l.set q (l[q].1,e')).flatMap pE=l.flatMap pE
 | [],q,hq,_=>by simp at hq
 | x::l,0,_,e'=>rfl
 | x::l,q+1,hq,e'=>by
   have:=De (l:=l) (q:=q) (by simpa using hq) e'
   simp only[List.set_cons_succ,List.flatMap_cons,List.getElem_cons_succ]
   rw[this]
theorem SS.setE {q:Nat}{e':En}(s:SS h0 M h i js l ds lv dv kn sz kvs EL ED R) (hq:q<l.length) (s':St h0 M h' (ED++((i,true,ew lv js kn dv sz)::(js,true,bC kvs)::(EL++(cy (l.set q (l[q].1,e'))++R))))):SS h0 M h' i js (l.set q (l[q].1,e')) ds lv dv kn sz kvs EL ED R:=
 ⟨by rw[De hq,List.length_set];exact s.al,s.ad,s'⟩
theorem AE {f:Str}{n:Nat}{er:Int}(hd:ds.length<1000000000) (s:SS h0 M h i js l ds lv dv kn sz kvs EL ED R)
  (k:∀ dv' ED' h',SS h0 M h' i js l (ds++[(f,n,er)]) lv dv' kn sz kvs EL ED' R→Q (.tup []) h'):C aU [.ptr i 0,T f,I (n:Nat),I er] h Q:=by
 refine zK _ _ _ _ _ _ ?_
 unfold vf
 have si:=St.startr s.src
 (repeat (first|refine aw ?_|refine aj ?_|refine af ‹_› (.head _) rfl ?_|refine aD rfl ?_|refine aB rfl rfl ?_))
 refine s.ad.app s.st (xs:=dE (f,n,er)) (m:=1) (Rd.full rfl) rfl (by omega) fun dv' ED' h1 a1 s1=>?_
 refine aw (aj ?_)
 refine BS (L':=ED'++((i,true,ew lv js kn dv' sz)::(js,true,bC kvs)::(EL++(cy l++R)))) a1.v1 s1 (Sub.pre .head _) (nle rfl) fun h2 s2=>?_
 exact k dv' ED' h2 ⟨s.al,by simpa using a1,s2⟩
def I6 (syms:Str→Option Int) (e:En):Bool:=if e.x.2.kind=7 then [1,2,4,8,16].any (fun y=>decide ((br 0 syms (bO e)).1=y)) else decide (0≤(br 0 syms (bO e)).1)&&decide ((br 0 syms (bO e)).1≤1000)
def Oz (syms:Str→Option Int) (e:En):Bool:=(decide (e.x.2.kind=7)||decide (e.x.2.kind=8))&&(pZ (bO e)||decide ((br 0 syms (bO e)).2≠0)||!I6 syms e)
def szD (syms:Str→Option Int) (e:En):List Dg:=if Oz syms e=true then [(e.frag,e.x.1,3)] else []
theorem ZT {syms:Str→Option Int}{e:En}(h:szD syms e=[]):SzOk syms e:=by
 unfold szD at h
 split at h
 ·cases h
 ·rename_i hb
  unfold Oz I6 at hb
  unfold SzOk
  constructor
  ·intro h7
   rw[h7]at hb
   simp only[decide_true,Bool.true_or,Bool.true_and,Bool.or_eq_true,not_or,if_true,Bool.not_eq_true',Bool.not_eq_false,List.any_eq_true,decide_eq_true_eq]at hb
   obtain⟨x,hx,he⟩:=hb.2
   simp at hx
   omega
  ·intro h8
   rw[h8]at hb
   simp at hb
   obtain⟨_,h⟩:=hb
   omega
theorem tj {α:Type}{g:α→List Dg}(hg:∀ x,(g x).length≤1):∀ l:List α,(l.flatMap g).length≤l.length
 | []=>by simp
 | x::l=>by
   have:=tj hg l
   have:=hg x
   simp only[List.flatMap_cons,List.length_append,List.length_cons];omega
theorem Rz (syms:Str→Option Int) (e:En):(szD syms e).length≤1:=by unfold szD;split<;>simp
def XO (s0 s3 s12:AV) (h7:ae) (next0:NT):Prop:=
 aF s3 fun t68=>
 ab 0 t68 fun t69=>
 ag t69 h7 fun t70=>
 aF s3 fun t72=>
 ab 1 t72 fun t73=>
 ab 0 t73 fun t74=>
 ag t74 h7 fun t75=>
 C aU [s0,t70,t75,(I 3)] h7 fun t76 h8=>
 aN s12 h8 next0
def aaX (t38 t39 t15 s12 s0:AV) (h4:ae) (next0:NT):Prop:=
 ai .geq t38 (I 0) fun t41=>
 ifB t41 (ai .leq t38 (I 1000) fun t44=>
 aF t15 fun t47=>
 ab 1 t47 fun t48=>
 ab 2 t48 fun t49=>
 ag t49 h4 fun t50=>
 ai .eql t50 (I 7) fun t51=>
 ifB t51 (
 am 5 1 [(I 1),(I 2),(I 4),(I 8),(I 16)] fun t52=>
 C bg [t52,t38] h4 fun t54 h5=>
 bD t54 t39 t15 s12 s0 h5 next0) (
 bD t44 t39 t15 s12 s0 h4 next0)) (
 aF t15 fun t47=>
 ab 1 t47 fun t48=>
 ab 2 t48 fun t49=>
 ag t49 h4 fun t50=>
 ai .eql t50 (I 7) fun t51=>
 ifB t51 (
 am 5 1 [(I 1),(I 2),(I 4),(I 8),(I 16)] fun t52=>
 C bg [t52,t38] h4 fun t54 h12=>
 bD t54 t39 t15 s12 s0 h12 next0) (
 bD (B false) t39 t15 s12 s0 h4 next0))
def aaI (s0 t15:AV) (h:ae) (KK:AV→QT):Prop:=
 aF s0 fun t34=>
 ab 1 t34 fun t35=>
 ag t35 h fun t36=>
 C bt [t15] h fun t32 h3=>
 (ag t35 h3 fun _t=>
 _t=t36)∧
 C fA [t32,(I 0),t36] h3 fun t37 h4=>
 ao 0 t37 fun t38=>
 ao 1 t37 fun t39=>KK t38 t39 h4
theorem aat {f:Str→Option Int}{e:En}{p:Nat}{may:Bool}{er:Int}{q:Nat}{next:NT}(hd:ds.length<100000000) (s:SS h0 M h i js l ds lv dv kn sz kvs EL ED R) (hm:(p,e)∈l) (w:WfS e.x.2) (hne:e.x.2.args≠[]) (hq:q<1000000000)
  (k0:(pZ (bO e)||decide (er≠0)||!may)=false→∀ h',SS h0 M h' i js l ds lv dv kn sz kvs EL ED R→next [I ((q+1:Nat):Int)] h')
  (k1:(pZ (bO e)||decide (er≠0)||!may)=true→∀ dv' ED' h',SS h0 M h' i js l (ds++[(e.frag,e.x.1,3)]) lv dv' kn sz kvs EL ED' R→next [I ((q+1:Nat):Int)] h'):bD (B may) (I er) (.ptr p 0) (I (q:Nat)) (.ptr i 0) h next:=by
 unfold bD
 have hp:=s.ent _ hm
 refine xI hp w hne fun h1 f1=>?_
 have hlast:=xF w hne
 refine X5 _ hlast.1 _ _ fun h2 f2=>?_
 have s2:=(s.call f1).call f2
 have told:(pZ (bO e)||decide (er≠0)||!may)=true→XO (.ptr i 0) (.ptr p 0) (I (q:Nat)) h2 next:=by
  unfold XO
  intro hb
  have sp:=St.startr (s2.ent _ hm)
  unfold enE at sp
  (repeat (first|refine aw ?_|refine aj ?_|refine af ‹_› (.head _) rfl ?_))
  refine AE (by omega) s2 fun dv' ED' h3 s3=>?_
  unfold aN gc
  refine aI (by omega) ?_
  exact k1 hb dv' ED' h3 s3
 cases hh:pZ (bO e) with
 | true=>exact ah (fun _=>told (by rw[hh];rfl)) (fun h=>by cases h)
 | false=>
   refine ah (fun h=>by cases h) (fun _=>?_)
   refine cg ?_
   refine ah (fun he=>told (by rw[hh,he];rfl)) (fun he=>?_)
   refine bQ ?_
   refine ah (fun hn=>told (by rw[hn];simp)) (fun hn=>?_)
   unfold aN gc
   refine aI (by omega) ?_
   exact k0 (by rw[hh,he,hn];rfl) h2 s2
theorem Xy {f:Str→Option Int}(hl:l.length<10000000) (hd:ds=[]) (s:SS h0 M h i js l ds lv dv kn sz kvs EL ED R) (nd:(bN kvs).Nodup) (hf:∀ k,bw k kvs=f k) (w:∀ x∈l,WfS x.2.x.2)
  (k:∀ dv' ED' h',SS h0 M h' i js l ((l.map (·.2)).flatMap (szD f)) lv dv' kn sz kvs EL ED' R→Q (.tup []) h'):C cm [.ptr i 0] h Q:=by
 subst hd
 refine x4 _ _ _ ?_
 unfold tD
 have si:=St.startr s.src
 (repeat (first|refine aw ?_|refine aj ?_|refine af ‹_› (.head _) rfl ?_))
 refine s.row.len ?_
 clear si
 refine aP (fun n vs h'=>∃ (q:Nat) (dv':AV) (ED':Own),vs=[I (q:Nat)]∧n+q=l.length∧SS h0 M h' i js l (((l.take q).map (·.2)).flatMap (szD f)) lv dv' kn sz kvs EL ED' R) l.length ⟨0,dv,ED,rfl,by omega,s⟩ ?_
 rintro n vs h1 ⟨q,dv1,ED1,rfl,hn,s1⟩
 have hdl:=tj (Rz f) ((l.take q).map (·.2))
 rw[List.length_map,List.length_take]at hdl
 unfold nD
 (repeat refine aJ ?_)
 refine ah (fun hq=>?_) (fun hq=>?_)<;>simp only[za,zb,zc,zd,ze,zf,zg,zh,zi,u8i,zj,zk,zl]at hq
 ·have hq:q<l.length:=hq
  have hm:=List.getElem_mem hq
  have hsucc:((l.take (q+1)).map (·.2)).flatMap (szD f)=((l.take q).map (·.2)).flatMap (szD f)++szD f l[q].2:=by
   rw[List.take_succ_eq_append_getElem hq,List.map_append,List.flatMap_append,List.map_cons,List.map_nil,List.flatMap_cons,List.flatMap_nil,List.append_nil]
  refine s1.row.idx (fun _=>rfl) hq fun p t=>?_
  refine aH t ?_
  have hp:=s1.ent _ hm
  have sp:=St.startr hp
  unfold enE at sp
  refine aw (aj (aj (af sp (.head _) rfl (cg ?_))))
  have body:∀ (h2:ae),(l[q].2.x.2.kind=7∨l[q].2.x.2.kind=8)→SS h0 M h2 i js l (((l.take q).map (·.2)).flatMap (szD f)) lv dv1 kn sz kvs EL ED1 R→∀ may,may=I6 f l[q].2→bD (B may) (I (br 0 f (bO l[q].2)).2) (.ptr l[q].1 0) (I (q:Nat)) (.ptr i 0) h2 (fun vs' h'=>∃ m,m<n∧∃ (q:Nat) (dv':AV) (ED':Own),vs'=[I (q:Nat)]∧m+q=l.length∧SS h0 M h' i js l (((l.take q).map (·.2)).flatMap (szD f)) lv dv' kn sz kvs EL ED' R):=by
   intro h2 h78 s2 may hmay
   have hdec:(decide (l[q].2.x.2.kind=7)||decide (l[q].2.x.2.kind=8))=true:=by simpa using h78
   refine aat (f:=f) (e:=l[q].2) (p:=l[q].1) (by omega) s2 hm (w _ hm) ((w _ hm).data (by omega) (by omega)) (by omega) (fun hb h3 s3=>?_) (fun hb dv3 ED3 h3 s3=>?_)
   ·refine⟨n-1,by omega,q+1,dv1,ED1,rfl,by omega,?_⟩
    rw[hsucc,szD,Oz,hdec,← hmay,hb];simpa using s3
   ·refine⟨n-1,by omega,q+1,dv3,ED3,rfl,by omega,?_⟩
    rw[hsucc,szD,Oz,hdec,← hmay,hb];simpa using s3
  have ev:∀ (KK:AV→QT),(l[q].2.x.2.kind=7∨l[q].2.x.2.kind=8)→(∀ h2,Fr [] h1 h2→KK (I (br 0 f (bO l[q].2)).1) (I (br 0 f (bO l[q].2)).2) h2)→aaI (.ptr i 0) (.ptr l[q].1 0) h1 KK:=by
   unfold aaI
   intro KK h78 hk
   have hne:=(w _ hm).data (by omega) (by omega)
   have hlast:=xF (w _ hm) hne
   have si:=St.startr s1.src
   refine aw (aj (af si (.head _) rfl ?_))
   refine xI hp (w _ hm) hne fun h2 f2=>?_
   refine⟨af (si.call f2) (.head _) rfl rfl,?_⟩
   refine pT hlast.1 hlast.2 0 (MapAt.fr ⟨kvs,s1.syms,nd,hf⟩ f2) fun h3 f3=>?_
   exact aE rfl (aE rfl (hk h3 (f2.trans f3 (by simp))))
  have fin:(l[q].2.x.2.kind=7∨l[q].2.x.2.kind=8)→aaI (.ptr i 0) (.ptr l[q].1 0) h1 fun t38 t39 h4=>aaX t38 t39 (.ptr l[q].1 0) (I (q:Nat)) (.ptr i 0) h4 (fun vs' h'=>∃ m,m<n∧∃ (q:Nat) (dv':AV) (ED':Own),vs'=[I (q:Nat)]∧m+q=l.length∧SS h0 M h' i js l (((l.take q).map (·.2)).flatMap (szD f)) lv dv' kn sz kvs EL ED' R):=by
   intro h78
   refine ev _ h78 fun h2 f2=>?_
   unfold aaX
   have s2:=s1.call f2
   have sp2:=St.startr (s2.ent _ hm)
   unfold enE at sp2
   have cont:∀ h7:l[q].2.x.2.kind=7,C bg [.full 5 [I 1,I 2,I 4,I 8,I 16],I (br 0 f (bO l[q].2)).1] h2 fun t54 h5=>bD t54 (I (br 0 f (bO l[q].2)).2) (.ptr l[q].1 0) (I (q:Nat)) (.ptr i 0) h5 (fun vs' h'=>∃ m,m<n∧∃ (q:Nat) (dv':AV) (ED':Own),vs'=[I (q:Nat)]∧m+q=l.length∧SS h0 M h' i js l (((l.take q).map (·.2)).flatMap (szD f)) lv dv' kn sz kvs EL ED' R):=by
    intro h7
    refine DD (br 0 f (bO l[q].2)).1 [1,2,4,8,16] (by decide) (Row.full (enc:=iE) (fun _=>rfl) [1,2,4,8,16]) ?_
    exact body h2 h78 s2 _ (by rw[I6,if_pos h7])
   refine bL ?_
   refine ah (fun hg=>?_) (fun hg=>?_)<;>simp only[za,zb,zc,zd,ze,zf,zg,zh,zi,u8i,zj,zk,zl]at hg
   ·refine fl ?_
    refine aw (aj (aj (af sp2 (.head _) rfl (aA ?_))))
    refine ah (fun h7=>?_) (fun h7=>?_)<;>simp only[za,zb,zc,zd,ze,zf,zg,zh,zi,u8i,zj,zk,zl]at h7
    ·exact aB rfl rfl (cont (by omega))
    ·refine body h2 h78 s2 _ ?_
     rw[I6,if_neg (by omega),show decide (0≤(br 0 f (bO l[q].2)).1)=true by simpa using hg];rfl
   ·refine aw (aj (aj (af sp2 (.head _) rfl (aA ?_))))
    refine ah (fun h7=>?_) (fun h7=>?_)<;>simp only[za,zb,zc,zd,ze,zf,zg,zh,zi,u8i,zj,zk,zl]at h7
    ·exact aB rfl rfl (cont (by omega))
    ·refine body h2 h78 s2 _ ?_
     rw[I6,if_neg (by omega),show decide (0≤(br 0 f (bO l[q].2)).1)=false by simp;omega];rfl
  refine ah (fun h7=>?_) (fun h7=>?_)<;>simp only[za,zb,zc,zd,ze,zf,zg,zh,zi,u8i,zj,zk,zl]at h7
  ·refine aw (aj (aj (af sp (.head _) rfl (cg ?_))))
   refine ah (fun h8=>?_) (fun h8=>?_)<;>simp only[za,zb,zc,zd,ze,zf,zg,zh,zi,u8i,zj,zk,zl]at h8
   ·unfold aN gc
    refine aI (by omega) ?_
    refine⟨n-1,by omega,q+1,dv1,ED1,rfl,by omega,?_⟩
    have hdec:(decide (l[q].2.x.2.kind=7)||decide (l[q].2.x.2.kind=8))=false:=by simp;omega
    rw[hsucc,szD,Oz,hdec];simpa using s1
   ·exact fin (.inr (by omega))
  ·exact fin (.inl (by omega))
 ·have hq:q=l.length:=by omega
  subst hq
  rw[List.take_length]at s1
  exact k dv1 ED1 h1 s1
end
end
section
def upd (f:Str→Option Int) (k:Str) (v:Int):Str→Option Int:=fun x=>if x=k then some v else f x
structure FillInv (g:Int→Int) (kvs:KV) (sn:List Nat) (kv:KV):Prop where
 nd:(bN kv).Nodup
 snd:sn.Nodup
 lt:∀ q∈sn,q<kvs.length
 at_:∀ k,bw k kv=if ∃ q∈sn,(bN kvs)[q]?=some k then (bw k kvs).map g else none
theorem FillInv.start {g:Int→Int}{kvs:KV}:FillInv g kvs [] []:=⟨by simp[bN],by simp,by simp,by simp[bw]⟩
theorem FillInv.step {g:Int→Int}{kvs kv:KV}{sn:List Nat}(I:FillInv g kvs sn kv) (nd:(bN kvs).Nodup) {q:Nat}(hq:q<kvs.length) (hn:q∉sn):FillInv g kvs (sn++[q]) (putA kvs[q].1 (g kvs[q].2) kv) where
 nd:=qm I.nd
 snd:=by
  rw[List.nodup_append]
  exact⟨I.snd,by simp,fun a ha b hb e=>by simp at hb;subst hb;subst e;exact hn ha⟩
 lt:=by
  intro x hx
  simp only[List.mem_append,List.mem_singleton]at hx
  rcases hx with hx|rfl
  ·exact I.lt x hx
  ·exact hq
 at_:=by
  intro k
  rw[nc]
  have hkq:(bN kvs)[q]?=some kvs[q].1:=by simp[bN,hq]
  by_cases hk:k=kvs[q].1
  ·subst hk
   rw[if_pos rfl,if_pos ⟨q,by simp,hkq⟩]
   have hl:bw kvs[q].1 kvs=some kvs[q].2:=(I8 nd).2 (List.getElem_mem hq)
   rw[hl];rfl
  ·rw[if_neg hk,I.at_ k]
   have:(∃ x∈sn++[q],(bN kvs)[x]?=some k)↔∃ x∈sn,(bN kvs)[x]?=some k:=by
    constructor
    ·rintro ⟨x,hx,he⟩
     simp only[List.mem_append,List.mem_singleton]at hx
     rcases hx with hx|rfl
     ·exact⟨x,hx,he⟩
     ·rw[hkq]at he;exact (hk (Option.some.inj he).symm).elim
    ·rintro ⟨x,hx,he⟩
     exact⟨x,by simp[hx],he⟩
   simp only[this]
theorem FillInv.done {g:Int→Int}{kvs kv:KV}{sn:List Nat}(I:FillInv g kvs sn kv) (hall:∀ q,q<kvs.length→q∈sn) (k:Str):bw k kv=(bw k kvs).map g:=by
 rw[I.at_ k]
 split
 ·rfl
 ·rename_i hn
  have:bw k kvs=none:=by
   rw[zI]
   intro hk
   obtain⟨q,hq,e⟩:=List.getElem_of_mem hk
   exact hn ⟨q,hall q (by simpa [bN] using hq),by rw[List.getElem?_eq_getElem hq,e]⟩
  rw[this];rfl
theorem FillInv.less {g:Int→Int}{kvs kv:KV}{sn:List Nat}(I:FillInv g kvs sn kv) {q:Nat}(hq:q<kvs.length) (hn:q∉sn):sn.length<kvs.length:=by
 have hnd:(sn++[q]).Nodup:=by
  rw[List.nodup_append]
  exact⟨I.snd,by simp,fun a ha b hb e=>by simp at hb;subst hb;subst e;exact hn ha⟩
 have:=hnd.length_le_of_subset (l₂:=List.range kvs.length) (fun x hx=>List.mem_range.2 (by
  simp only[List.mem_append,List.mem_singleton]at hx
  rcases hx with hx|rfl
  ·exact I.lt x hx
  ·exact hq))
 simp at this;omega
def nr (e:En):List Str:=e.x.2.lab::(if e.x.2.kind=9 then [e.x.2.text] else [])
abbrev TwS:=(Str→Option Int)×List Dg
def twN (e:En) (st:TwS) (n:Str):TwS:=
 if n=[] then st else (upd st.1 n ((st.1 n).getD 0+1),if 0<(st.1 n).getD 0 then st.2++[(e.frag,e.x.1,2)] else st.2)
def twE (st:TwS) (e:En):TwS:=(nr e).foldl (twN e) st
def tw0 (f:Str→Option Int):TwS:=(fun k=>(f k).map fun _=>1,[])
def tM (f:Str→Option Int) (es:List En):List Dg:=(es.foldl twE (tw0 f)).2
def TwB (st:TwS) (b:Nat):Prop:=st.2.length≤b∧∀ k,0≤(st.1 k).getD 0∧(st.1 k).getD 0≤1+b
theorem TwB.step {st:TwS}{b:Nat}(h:TwB st b) (e:En) (n:Str):TwB (twN e st n) (b+1):=by
 unfold twN
 split
 ·exact⟨by have:=h.1;omega,fun k=>by have:=h.2 k;omega⟩
 ·refine⟨?_,fun k=>?_⟩
  ·have:=h.1
   simp only
   split
   ·simp;omega
   ·omega
  ·have:=h.2 k
   have:=h.2 n
   simp only[upd]
   split
   ·simp;omega
   ·omega
section
variable [Tabs]
variable {h0 h h':ae}{M:List Nat}{Q:QT}{K:AV→Prop}
variable {i js:Nat}{l:List (Nat×En)}{ds:List Dg}{lv dv kn:AV}{sz:Int}{kvs:KV}{EL ED R:Own}
theorem SS.memR {e:Nat×Bool×AObj}(h:e∈R):e∈(ED++((i,true,ew lv js kn dv sz)::(js,true,bC kvs)::(EL++(cy l++R)))):=
 List.mem_append_right _ (.tail _ (.tail _ (List.mem_append_right _ (List.mem_append_right _ h))))
theorem SS.back {e:Nat×Bool×AObj}(s:SS h0 M h i js l ds lv dv kn sz kvs EL ED (e::R)):St h0 M h (e::(ED++((i,true,ew lv js kn dv sz)::(js,true,bC kvs)::(EL++(cy l++R))))):=s.st.perm (by
 have hx:∀ R:Own,(ED++((i,true,ew lv js kn dv sz)::(js,true,bC kvs)::(EL++(cy l++R))))=(ED++((i,true,ew lv js kn dv sz)::(js,true,bC kvs)::(EL++cy l)))++R:=fun R=>by simp
 rw[hx R,hx (e::R)]
 exact List.perm_middle)
def chD (f:Str→Option Int) (es:List En) (e:En):List Dg:=if qk f es e≠0 then [(e.frag,e.x.1,qk f es e)] else []
theorem Sv (f:Str→Option Int) (es:List En) (e:En):(chD f es e).length≤1:=by unfold chD;split<;>simp
theorem vz {β:Type}(g:En→List β) {l:List (Nat×En)}{q:Nat}(hq:q<l.length):((l.take (q+1)).map (·.2)).flatMap g=((l.take q).map (·.2)).flatMap g++g l[q].2:=by
 rw[List.take_succ_eq_append_getElem hq,List.map_append,List.flatMap_append,List.map_cons,List.map_nil,List.flatMap_cons,List.flatMap_nil,List.append_nil]
theorem UV (hF:cD) (hL:dL) {f:Str→Option Int}{jk:Nat}{kvk:KV}(hl:l.length<10000000) (s:SS h0 M h i js l ds lv dv (.map jk) sz kvs EL ED R) (hds:ds=[]) (hk:(jk,true,bC kvk)∈R) (nd:(bN kvk).Nodup) (hf:∀ k,bw k kvk=f k) (w:∀ x∈l,PlE x.2)
  (k:∀ dv' ED' h',SS h0 M h' i js l ((l.map (·.2)).flatMap (chD f (l.map (·.2)))) lv dv' (.map jk) sz kvs EL ED' R→Q (.tup []) h'):C ck [.ptr i 0] h Q:=by
 subst hds
 refine xT _ _ _ ?_
 unfold sS
 have si:=St.startr s.src
 (repeat (first|refine aw ?_|refine aj ?_|refine af ‹_› (.head _) rfl ?_))
 refine s.row.len ?_
 clear si
 refine aP (fun n vs h'=>∃ (q:Nat) (dv':AV) (ED':Own),vs=[I (q:Nat)]∧n+q=l.length∧SS h0 M h' i js l (((l.take q).map (·.2)).flatMap (chD f (l.map (·.2)))) lv dv' (.map jk) sz kvs EL ED' R) l.length ⟨0,dv,ED,rfl,by omega,s⟩ ?_
 rintro n vs h1 ⟨q,dv1,ED1,rfl,hn,s1⟩
 have hdl:=tj (Sv f (l.map (·.2))) ((l.take q).map (·.2))
 rw[List.length_map,List.length_take]at hdl
 unfold oR
 (repeat refine aJ ?_)
 refine ah (fun hq=>?_) (fun hq=>?_)<;>simp only[za,zb,zc,zd,ze,zf,zg,zh,zi,u8i,zj,zk,zl]at hq
 ·have hq:q<l.length:=hq
  have hm:=List.getElem_mem hq
  have hsucc:=vz (chD f (l.map (·.2))) hq
  refine s1.row.idx (fun _=>rfl) hq fun p t=>?_
  refine aH t ?_
  refine Wn hF hL (s1.ent _ hm) (w _ hm) s1.src ⟨kvk,s1.rget hk,nd,hf⟩ (by omega) s1.row s1.ent fun h2 f2=>?_
  have s2:=s1.call f2
  refine cg ?_
  refine ah (fun hb=>?_) (fun hb=>?_)<;>simp only[za,zb,zc,zd,ze,zf,zg,zh,zi,u8i,zj,zk,zl]at hb
  ·have sp2:=St.startr (s2.ent _ hm)
   unfold enE at sp2
   (repeat (first|refine aw ?_|refine aj ?_|refine af ‹_› (.head _) rfl ?_))
   refine AE (by omega) s2 fun dv' ED' h3 s3=>?_
   unfold ga jY
   refine aI (by omega) ?_
   refine⟨n-1,by omega,q+1,dv',ED',rfl,by omega,?_⟩
   rw[hsucc,chD,if_pos hb];exact s3
  ·unfold ga jY
   refine aI (by omega) ?_
   refine⟨n-1,by omega,q+1,dv1,ED1,rfl,by omega,?_⟩
   rw[hsucc,chD,if_neg (by simpa using hb)];simpa using s2
 ·have hq:q=l.length:=by omega
  subst hq
  rw[List.take_length]at s1
  exact k dv1 ED1 h1 s1
theorem YQ {sz bytes n m:Nat}{x:AV}{as1 cs:List AV}{L:Own}{KH:QT}(s:St h0 M h L) (r:Rd h sz x m cs) (ha:as1.length=n*sz) (hm:0<m) (hb:(n+m)*bytes≤1099511627776) (k1:∀ i h',St h0 M h' ((i,true,.cells (as1++cs))::L)→KH (.sl i 0 (n+m) sz) h'):
  bl sz bytes (.full n as1) x h KH:=⟨by
 simp only[kF,r.2]
 refine⟨⟨ha,hb⟩,?_⟩
 rw[if_neg (by omega)]
 exact k1 _ _ (s.push _)⟩
theorem Gn {e:En}{p jm b:Nat}(hm:(p,e)∈l) (hb:b<100000000) (nm:List Str) (hnm:nm.length≤2) {nv:AV}(hrow:∀ h dv ds ED kv,SS h0 M h i js l ds lv dv kn sz kvs EL ED ((jm,true,bC kv)::R)→Row sE 1 h nv nm)
  {st:TwS} (hst:TwB st b) {kv:KV} (nd:(bN kv).Nodup) (hf:∀ k,bw k kv=st.1 k) {q:Nat} (hq:q<1000000000) (s:SS h0 M h i js l st.2 lv dv kn sz kvs EL ED ((jm,true,bC kv)::R)) {next:NT}
  (k:∀ dv' ED' kv' h',TwB (nm.foldl (twN e) st) (b+nm.length)→(bN kv').Nodup→(∀ k,bw k kv'=(nm.foldl (twN e) st).1 k)→SS h0 M h' i js l (nm.foldl (twN e) st).2 lv dv' kn sz kvs EL ED' ((jm,true,bC kv')::R)→next [I ((q+1:Nat):Int)] h'):
  fy nv (.ptr p 0) (I (q:Nat)) (.map jm) (.ptr i 0) h next:=by
 unfold fy
 refine (hrow _ _ _ _ _ s).len ?_
 refine aP (fun n vs h'=>∃ (t:Nat) (dv':AV) (ED':Own) (kv':KV),vs=[I (t:Nat)]∧n+t=nm.length∧TwB ((nm.take t).foldl (twN e) st) (b+t)∧(bN kv').Nodup∧(∀ k,bw k kv'=((nm.take t).foldl (twN e) st).1 k)∧SS h0 M h' i js l ((nm.take t).foldl (twN e) st).2 lv dv' kn sz kvs EL ED' ((jm,true,bC kv')::R)) nm.length ⟨0,dv,ED,kv,rfl,by omega,hst,nd,hf,s⟩ ?_
 rintro n vs h1 ⟨t,dv1,ED1,kv1,rfl,hn,hb1,nd1,hf1,s1⟩
 unfold nG
 (repeat refine aJ ?_)
 refine ah (fun ht=>?_) (fun ht=>?_)<;>simp only[za,zb,zc,zd,ze,zf,zg,zh,zi,u8i,zj,zk,zl]at ht
 ·have ht:t<nm.length:=ht
  refine (hrow _ _ _ _ _ s1).idx (fun _=>rfl) ht fun p2 t2=>?_
  refine aH t2 ?_
  have hsucc:(nm.take (t+1)).foldl (twN e) st=twN e ((nm.take t).foldl (twN e) st) nm[t]:=by
   rw[List.take_succ_eq_append_getElem ht,List.foldl_append];rfl
  have hb2:=hb1.step e nm[t]
  generalize hst1:(nm.take t).foldl (twN e) st=st1 at hb1 hf1 s1 hsucc hb2 ⊢
  refine aV ?_
  refine ah (fun he=>?_) (fun he=>?_)<;>simp only[za,zb,zc,zd,ze,zf,zg,zh,zi,u8i,zj,zk,zl]at he
  ·unfold gf jX
   refine aI (by omega) ?_
   refine⟨n-1,by omega,t+1,dv1,ED1,kv1,rfl,by omega,?_⟩
   rw[hsucc]
   refine⟨by rw[Nat.add_assoc]at hb2;exact hb2,nd1,?_⟩
   rw[twN,if_pos he]
   exact⟨hf1,s1⟩
  ·have he:nm[t]≠[]:=he
   have hbk:=hb1.2 nm[t]
   have hbl:=hb1.1
   have mm:MapAt h1 jm st1.1:=⟨kv1,s1.rget (.head _),nd1,hf1⟩
   refine mm.look0 ?_
   have hj12:∀ dv2 ED2 h2,SS h0 M h2 i js l (if 0<(st1.1 nm[t]).getD 0 then st1.2++[(e.frag,e.x.1,2)] else st1.2) lv dv2 kn sz kvs EL ED2 ((jm,true,bC kv1)::R)→fE (T nm[t]) (I (t:Nat)) (.map jm) h2 (fun vs' h'=>∃ m,m<n∧∃ (t:Nat) (dv':AV) (ED':Own) (kv':KV),vs'=[I (t:Nat)]∧m+t=nm.length∧TwB ((nm.take t).foldl (twN e) st) (b+t)∧(bN kv').Nodup∧(∀ k,bw k kv'=((nm.take t).foldl (twN e) st).1 k)∧SS h0 M h' i js l ((nm.take t).foldl (twN e) st).2 lv dv' kn sz kvs EL ED' ((jm,true,bC kv')::R)):=by
    intro dv2 ED2 h2 s2
    unfold fE
    have mm2:MapAt h2 jm st1.1:=⟨kv1,s2.rget (.head _),nd1,hf1⟩
    refine mm2.look0 ?_
    refine aI (by omega) ?_
    refine tq s2.st (SS.subR .head) fun h3 s3=>?_
    unfold gf jX
    refine aI (by omega) ?_
    refine⟨n-1,by omega,t+1,dv2,ED2,putA nm[t] ((st1.1 nm[t]).getD 0+1) kv1,rfl,by omega,?_⟩
    rw[hsucc]
    refine⟨by rw[Nat.add_assoc]at hb2;exact hb2,qm nd1,?_⟩
    rw[twN,if_neg he]
    exact⟨fun k=>by rw[nc,hf1];rfl,⟨s2.al,s2.ad,s3⟩⟩
   refine bx ?_
   refine ah (fun hg=>?_) (fun hg=>?_)<;>simp only[za,zb,zc,zd,ze,zf,zg,zh,zi,u8i,zj,zk,zl]at hg
   ·have sp:=St.startr (s1.ent _ hm)
    unfold enE at sp
    refine aw (aj (af sp (.head _) rfl (aw (aj (aj (af sp (.head _) rfl ?_))))))
    refine AE (by omega) s1 fun dv' ED' h3 s3=>?_
    exact hj12 dv' ED' h3 (by rw[if_pos hg];exact s3)
   ·exact hj12 dv1 ED1 h1 (by rw[if_neg (by omega)];exact s1)
 ·have ht:t=nm.length:=by omega
  subst ht
  rw[List.take_length]at hb1 hf1 s1
  refine aI (by omega) ?_
  exact k dv1 ED1 kv1 h1 hb1 nd1 hf1 s1
theorem XN {f:Str→Option Int}(hl:l.length<10000000) (hds:ds=[]) (s:SS h0 M h i js l ds lv dv kn sz kvs EL ED R) (nd:(bN kvs).Nodup) (hf:∀ k,bw k kvs=f k)
  (k:∀ dv' ED' h',SS h0 M h' i js l (tM f (l.map (·.2))) lv dv' kn sz kvs EL ED' R→Q (.tup []) h'):C co [.ptr i 0] h Q:=by
 subst hds
 refine x6 _ _ _ ?_
 unfold te
 refine zy s.st fun jm h1 s1=>?_
 have s1:=s.front s1
 have si:=St.startr s1.src
 (repeat (first|refine aw ?_|refine aj ?_|refine af ‹_› (.head _) rfl ?_))
 clear si
 refine Ic s1.st s1.syms fun it h2 s2=>?_
 have s2:=s1.front s2
 refine aP (fun n vs h'=>∃ (sn:List Nat) (kv:KV),vs=[]∧n+sn.length=kvs.length∧FillInv (fun _=>1) kvs sn kv∧SS h0 M h' i js l [] lv dv kn sz kvs EL ED ((it,true,Ib js kvs sn)::(jm,true,bC kv)::R)) kvs.length ⟨[],[],rfl,by simp,.start,s2⟩ ?_
 rintro n vs h3 ⟨sn,kv,rfl,hn,fi,s3⟩
 unfold nI
 refine Nz s3.back s3.syms (fun hall=>?_) (fun q hq hnq h4 s4=>?_)
 ·refine aE rfl (ah (fun h=>by cases h) (fun _=>?_))
  have hdone:=fi.done hall
  have s5:=s3.unR (List.sublist_cons_self _ _)
  have si:=St.startr s5.src
  (repeat (first|refine aw ?_|refine aj ?_|refine af ‹_› (.head _) rfl ?_))
  clear si
  refine s5.row.len ?_
  refine aP (fun n vs h'=>∃ (q:Nat) (dv':AV) (ED':Own) (kv':KV),vs=[I (q:Nat)]∧n+q=l.length∧TwB (((l.take q).map (·.2)).foldl twE (tw0 f)) (2*q)∧(bN kv').Nodup∧(∀ k,bw k kv'=(((l.take q).map (·.2)).foldl twE (tw0 f)).1 k)∧SS h0 M h' i js l (((l.take q).map (·.2)).foldl twE (tw0 f)).2 lv dv' kn sz kvs EL ED' ((jm,true,bC kv')::R)) l.length ⟨0,dv,ED,kv,rfl,by omega,⟨by simp[tw0],fun k=>by simp[tw0];cases f k<;>simp⟩,fi.nd,fun k=>by rw[hdone,hf];rfl,s5⟩ ?_
  rintro n vs h6 ⟨q,dv1,ED1,kv1,rfl,hn,hb1,nd1,hf1,s6⟩
  unfold nV
  (repeat refine aJ ?_)
  refine ah (fun hq=>?_) (fun hq=>?_)<;>simp only[za,zb,zc,zd,ze,zf,zg,zh,zi,u8i,zj,zk,zl]at hq
  ·have hq:q<l.length:=hq
   have hm:=List.getElem_mem hq
   have hsucc:((l.take (q+1)).map (·.2)).foldl twE (tw0 f)=twE (((l.take q).map (·.2)).foldl twE (tw0 f)) l[q].2:=by
    rw[List.take_succ_eq_append_getElem hq,List.map_append,List.foldl_append];rfl
   generalize hst1:((l.take q).map (·.2)).foldl twE (tw0 f)=st1 at hb1 hf1 s6 hsucc
   refine s6.row.idx (fun _=>rfl) hq fun p t=>?_
   refine aH t ?_
   have sp:=St.startr (s6.ent _ hm)
   unfold enE at sp
   refine aw (aj (aj (af sp (.head _) rfl (aB rfl rfl (aw (aj (aj (af sp (.head _) rfl (aA ?_)))))))))
   have fin:∀ (nm:List Str) (dv' ED' kv' h'),nm=nr l[q].2→TwB (nm.foldl (twN l[q].2) st1) (2*q+nm.length)→(bN kv').Nodup→(∀ k,bw k kv'=(nm.foldl (twN l[q].2) st1).1 k)→SS h0 M h' i js l (nm.foldl (twN l[q].2) st1).2 lv dv' kn sz kvs EL ED' ((jm,true,bC kv')::R)→nm.length≤2→
     (fun vs' h'=>∃ m,m<n∧∃ (q:Nat) (dv':AV) (ED':Own) (kv':KV),vs'=[I (q:Nat)]∧m+q=l.length∧TwB (((l.take q).map (·.2)).foldl twE (tw0 f)) (2*q)∧(bN kv').Nodup∧(∀ k,bw k kv'=(((l.take q).map (·.2)).foldl twE (tw0 f)).1 k)∧SS h0 M h' i js l (((l.take q).map (·.2)).foldl twE (tw0 f)).2 lv dv' kn sz kvs EL ED' ((jm,true,bC kv')::R)) [I ((q+1:Nat):Int)] h':=by
    rintro nm dv' ED' kv' h' rfl hb' nd' hf' s' hl2
    refine⟨n-1,by omega,q+1,dv',ED',kv',rfl,by omega,?_⟩
    rw[hsucc]
    exact⟨⟨by have:=hb'.1;unfold twE;omega,fun k=>by have:=hb'.2 k;unfold twE;omega⟩,nd',hf',s'⟩
   refine ah (fun h9=>?_) (fun h9=>?_)<;>simp only[za,zb,zc,zd,ze,zf,zg,zh,zi,u8i,zj,zk,zl]at h9
   ·have h9:l[q].2.x.2.kind=9:=by omega
    have hnm:[l[q].2.x.2.lab,l[q].2.x.2.text]=nr l[q].2:=by rw[nr,if_pos h9]
    refine aw (aj (aj (af sp (.head _) rfl (aB rfl rfl ?_))))
    refine YQ s6.st (Rd.full (n:=1) (cs:=[T l[q].2.x.2.text]) rfl) rfl (by decide) (by decide) fun jn h7 s7=>?_
    have s7:=s6.front s7
    have s8:SS h0 M h7 i js l st1.2 lv dv1 kn sz kvs EL ED1 ((jm,true,bC kv1)::(jn,true,.cells [T l[q].2.x.2.lab,T l[q].2.x.2.text])::R):=⟨s7.al,s7.ad,s7.st.perm (by
     refine List.Perm.append_left _ (List.Perm.cons _ (List.Perm.cons _ (List.Perm.append_left _ (List.Perm.append_left _ (List.Perm.swap _ _ _))))))⟩
    refine Gn (e:=l[q].2) hm (b:=2*q) (by omega) [l[q].2.x.2.lab,l[q].2.x.2.text] (by simp) (fun h dv ds ED kv s=>?_) hb1 nd1 hf1 (by omega) s8 fun dv' ED' kv' h' b1 n1 f1 s9=>?_
    ·exact Row.sl (enc:=sE) (l:=[l[q].2.x.2.lab,l[q].2.x.2.text]) (fun _=>rfl) (s.rget (.tail _ (.head _)))
    ·refine fin _ dv' ED' kv' h' hnm b1 n1 f1 ⟨s9.al,s9.ad,?_⟩ (by simp)
     exact (s9.unR (.cons₂ _ (List.sublist_cons_self _ _))).st
   ·have hnm:[l[q].2.x.2.lab]=nr l[q].2:=by rw[nr,if_neg (by omega)]
    refine Gn (e:=l[q].2) hm (b:=2*q) (by omega) [l[q].2.x.2.lab] (by simp) (fun h dv ds ED kv s=>?_) hb1 nd1 hf1 (by omega) s6 fun dv' ED' kv' h' b1 n1 f1 s9=>?_
    ·exact Row.full (enc:=sE) (fun _=>rfl) [l[q].2.x.2.lab]
    ·exact fin _ dv' ED' kv' h' hnm b1 n1 f1 s9 (by simp)
  ·have hq:q=l.length:=by omega
   subst hq
   rw[List.take_length]at s6
   exact k dv1 ED1 h6 (s6.unR (List.sublist_cons_self _ _))
 ·have s4:=(s3.unR (List.sublist_cons_self _ _)).front s4
  refine aE rfl (ah (fun _=>?_) (fun h=>by cases h))
  refine JC s4.st (b:=true) (i:=it) (SS.memR (.head _)) s4.syms hq ?_
  refine aE rfl ?_
  refine tq s4.st (SS.subR (.tail .head)) fun h5 s5=>?_
  have hlt:=fi.less hq hnq
  exact⟨n-1,by omega,sn++[q],_,rfl,by simp;omega,fi.step nd hq hnq,⟨s4.al,s4.ad,s5⟩⟩
end
end
section
section
variable [Tabs]
def tw (e:En) (a:Int):En:=⟨e.frag,e.x,a,e.grown⟩
def kP (syms:Str→Option Int) (st:List En×Int) (e:En):List En×Int:=(st.1++[(tw e st.2)],st.2+jI syms (tw e st.2))
def cW (syms:Str→Option Int) (es:List En):List En×Int:=es.foldl (kP syms) ([],0)
end
def YE (f:Str→Option Int) (e:En):Str→Option Int:=if e.x.2.lab≠[] then upd f e.x.2.lab e.place else f
def Vy (f:Str→Option Int) (es:List En):Str→Option Int:=es.foldl YE f
abbrev EqS:=(Str→Option Int)×Bool
def eE (st:EqS) (e:En):EqS:=if e.x.2.kind=9∧st.1 e.x.2.text=none∧(br e.place st.1 (bO e)).2=0 then (upd st.1 e.x.2.text (br e.place st.1 (bO e)).1,true) else st
def oZ (es:List En) (f:Str→Option Int):EqS:=es.foldl eE (f,false)
def LW (es:List En):Nat→(Str→Option Int)→(Str→Option Int)
 | 0,f=>f
 | n+1,f=>if (oZ es f).2=true then LW es n (oZ es f).1 else (oZ es f).1
def Zh (f:Str→Option Int) (e:En):Bool:=decide (e.x.2.kind=9)&&(f e.x.2.text).isNone
def und (es:List En) (f:Str→Option Int):Nat:=es.countP (Zh f)
theorem CM {α:Type}{p q:α→Bool}:∀ {l:List α},(∀ x∈l,p x=true→q x=true)→(∃ x∈l,q x=true∧p x=false)→l.countP p<l.countP q
 | [],_,⟨x,hx,_⟩=>by simp at hx
 | a::l,h1,⟨x,hx,hq,hp⟩=>by
   have hle:l.countP p≤l.countP q:=List.countP_mono_left fun y hy=>h1 y (.tail _ hy)
   rw[List.countP_cons,List.countP_cons]
   rcases List.mem_cons.1 hx with rfl|hx
   ·rw[hq,hp];simp;omega
   ·have:=CM (fun y hy=>h1 y (.tail _ hy)) ⟨x,hx,hq,hp⟩
    have h3:=h1 a (.head _)
    cases hpa:p a with
    | true=>rw[h3 hpa];simp;omega
    | false=>simp only[Bool.false_eq_true,if_false];split<;>omega
theorem Mr (st:EqS) (e:En) (k:Str) (h:(st.1 k).isSome=true):((eE st e).1 k).isSome=true:=by
 unfold eE
 split
 ·simp only[upd];split
  ·rfl
  ·exact h
 ·exact h
theorem wx (k:Str):∀ (es:List En) (st:EqS),(st.1 k).isSome=true→((es.foldl eE st).1 k).isSome=true
 | [],_,h=>h
 | e::es,st,h=>wx k es _ (Mr st e k h)
theorem FJ:∀ (es:List En) (st:EqS),st.2=false→(es.foldl eE st).2=true→∃ e∈es,e.x.2.kind=9∧st.1 e.x.2.text=none∧((es.foldl eE st).1 e.x.2.text).isSome=true
 | [],st,h0,h=>by simp at h;rw[h0]at h;cases h
 | e::es,st,h0,h=>by
   rw[List.foldl_cons]at h ⊢
   by_cases hc:e.x.2.kind=9∧st.1 e.x.2.text=none∧(br e.place st.1 (bO e)).2=0
   ·refine⟨e,.head _,hc.1,hc.2.1,wx _ es _ ?_⟩
    unfold eE;rw[if_pos hc];simp[upd]
   ·have:eE st e=st:=by unfold eE;rw[if_neg hc]
    rw[this]at h ⊢
    obtain⟨x,hx,h1⟩:=FJ es st h0 h
    exact⟨x,.tail _ hx,h1⟩
theorem NX {es:List En}{f:Str→Option Int}(h:(oZ es f).2=true):und es (oZ es f).1<und es f:=by
 obtain⟨e,he,h9,hn,hs⟩:=FJ es (f,false) rfl h
 refine CM (fun x hx hp=>?_) ⟨e,he,?_,?_⟩
 ·unfold Zh at hp ⊢
  simp only[Bool.and_eq_true]at hp ⊢
  refine⟨hp.1,?_⟩
  cases hf:f x.x.2.text with
  | none=>rfl
  | some v=>
    have:=wx x.x.2.text es (f,false) (by simp[hf])
    unfold oZ at hp
    simp only[Option.isNone_iff_eq_none]at hp
    rw[hp.2]at this;cases this
 ·unfold Zh;simp only at hn;rw[hn];simp[h9]
 ·unfold Zh
  unfold oZ
  simp only[Bool.and_eq_false_iff]
  right
  cases hx:(List.foldl eE (f,false) es).1 e.x.2.text with
  | none=>rw[hx]at hs;cases hs
  | some v=>rfl
section
variable [Tabs]
def ij (syms:Str→Option Int) (es:List En):List En×(Str→Option Int)×Int:=
 ((cW syms es).1,LW (cW syms es).1 (es.length+1) (Vy syms (cW syms es).1),(cW syms es).2)
theorem zr (syms:Str→Option Int):∀ (es:List En) (st:List En×Int),(es.foldl (kP syms) st).1.length=st.1.length+es.length
 | [],st=>by simp
 | e::es,st=>by rw[List.foldl_cons,zr syms es];simp[kP];omega
variable {h0 h h':ae}{M:List Nat}{Q:QT}{K:AV→Prop}
variable {i js:Nat}{l:List (Nat×En)}{ds:List Dg}{lv dv kn:AV}{sz:Int}{kvs:KV}{EL ED R:Own}
theorem Z1 {jk:Nat}{f F:Str→Option Int}{kv:KV}(hl:l.length<10000000) (w:∀ x∈l,WfS x.2.x.2) (nd:(bN kv).Nodup) (hf:∀ k,bw k kv=f k) (hF:F=LW (l.map (·.2)) (l.length+1) f) (s:SS h0 M h i js l ds lv dv (.map jk) sz kvs EL ED ((jk,true,bC kv)::R))
  (k:∀ kv' h',(bN kv').Nodup→(∀ k,bw k kv'=F k)→SS h0 M h' i js l ds lv dv (.map jk) sz kvs EL ED ((jk,true,bC kv')::R)→Q (.tup []) h'):
  bZ [(B true)] h fun vs12 h next12=>hO (.ptr i 0) Q vs12 h next12:=by
 generalize hes:l.map (·.2)=es at hF
 refine aP (fun n vs h'=>∃ (f:Str→Option Int) (kv:KV),(bN kv).Nodup∧(∀ k,bw k kv=f k)∧SS h0 M h' i js l ds lv dv (.map jk) sz kvs EL ED ((jk,true,bC kv)::R)∧((vs=[B true]∧und es f<n∧LW es n f=F)∨(vs=[B false]∧f=F))) (l.length+1) ⟨f,kv,nd,hf,s,.inl ⟨rfl,?_,hF.symm⟩⟩ ?_
 ·have:und es f≤es.length:=List.countP_le_length
  rw[← hes,List.length_map]at this
  rw[← hes];omega
 rintro n vs h1 ⟨f1,kv1,nd1,hf1,s1,⟨rfl,hu,hfix⟩|⟨rfl,rfl⟩⟩
 ·unfold hO
  refine ah (fun _=>?_) (fun h=>by cases h)
  obtain⟨m,rfl⟩:∃ m,n=m+1:=⟨n-1,by omega⟩
  rw[LW]at hfix
  have si:=St.startr s1.src
  (repeat (first|refine aw ?_|refine aj ?_|refine af ‹_› (.head _) rfl ?_))
  clear si
  refine s1.row.len ?_
  refine aP (fun n2 vs h'=>∃ (q:Nat) (kv:KV),vs=[B ((es.take q).foldl eE (f1,false)).2,I (q:Nat)]∧n2+q=l.length∧(bN kv).Nodup∧(∀ k,bw k kv=((es.take q).foldl eE (f1,false)).1 k)∧SS h0 M h' i js l ds lv dv (.map jk) sz kvs EL ED ((jk,true,bC kv)::R)) l.length ⟨0,kv1,rfl,by omega,nd1,hf1,s1⟩ ?_
  rintro n2 vs h2 ⟨q,kv2,rfl,hn,nd2,hf2,s2⟩
  unfold qi
  (repeat refine aJ ?_)
  refine ah (fun hq=>?_) (fun hq=>?_)<;>simp only[za,zb,zc,zd,ze,zf,zg,zh,zi,u8i,zj,zk,zl]at hq
  ·have hq:q<l.length:=hq
   have hqe:q<es.length:=by rw[← hes];simpa using hq
   have heq:es[q]=l[q].2:=by subst hes;simp
   have hm:=List.getElem_mem hq
   have hw:=w _ hm
   have hsucc:(es.take (q+1)).foldl eE (f1,false)=eE ((es.take q).foldl eE (f1,false)) l[q].2:=by
    rw[List.take_succ_eq_append_getElem hqe,List.foldl_append,heq];rfl
   generalize hst:(es.take q).foldl eE (f1,false)=st at hf2 hsucc ⊢
   refine s2.row.idx (fun _=>rfl) hq fun p t=>?_
   refine aH t ?_
   have si:=St.startr s2.src
   have sp:=St.startr (s2.ent _ hm)
   unfold enE at sp
   refine aw (aj (af si (.head _) rfl (aw (aj (aj (af sp (.head _) rfl ?_))))))
   have mm:MapAt h2 jk st.1:=⟨kv2,s2.rget (.head _),nd2,hf2⟩
   refine mm.look ?_
   refine aE rfl (aE rfl (aw (aj (aj (af sp (.head _) rfl (cg ?_))))))
   have skip:eE st l[q].2=st→∀ h',SS h0 M h' i js l ds lv dv (.map jk) sz kvs EL ED ((jk,true,bC kv2)::R)→da (B st.2) (I (q:Nat)) h' (fun vs' h'=>∃ m,m<n2∧∃ (q:Nat) (kv:KV),vs'=[B ((es.take q).foldl eE (f1,false)).2,I (q:Nat)]∧m+q=l.length∧(bN kv).Nodup∧(∀ k,bw k kv=((es.take q).foldl eE (f1,false)).1 k)∧SS h0 M h' i js l ds lv dv (.map jk) sz kvs EL ED ((jk,true,bC kv)::R)):=by
    intro he h' s'
    unfold da kM
    refine aI (by omega) ?_
    refine⟨n2-1,by omega,q+1,kv2,?_⟩
    rw[hsucc,he]
    exact⟨rfl,by omega,nd2,hf2,s'⟩
   refine ah (fun h9=>?_) (fun h9=>?_)<;>simp only[za,zb,zc,zd,ze,zf,zg,zh,zi,u8i,zj,zk,zl]at h9
   ·exact skip (by unfold eE;rw[if_neg (fun hc=>by omega)]) h2 s2
   ·have h9:l[q].2.x.2.kind=9:=by omega
    cases hl:st.1 l[q].2.x.2.text with
    | some y=>
      refine ah (fun _=>?_) (fun h=>by cases h)
      exact skip (by unfold eE;rw[if_neg (fun hc=>by rw[hl]at hc;cases hc.2.1)]) h2 s2
    | none=>
      refine ah (fun h=>by cases h) (fun _=>?_)
      refine aw (aj (af sp (.head _) rfl (aw (aj (af si (.head _) rfl ?_)))))
      have hne:=hw.data (by omega) (by omega)
      have hlast:=xF hw hne
      refine xI (s2.ent _ hm) hw hne fun h3 f3=>?_
      refine⟨af (si.call f3) (.head _) rfl rfl,af (sp.call f3) (.head _) rfl rfl,?_⟩
      refine pT hlast.1 hlast.2 _ (mm.fr f3) fun h4 f4=>?_
      have s4:=(s2.call f3).call f4
      refine aE rfl (aE rfl (aA ?_))
      refine ah (fun he=>?_) (fun he=>?_)<;>simp only[za,zb,zc,zd,ze,zf,zg,zh,zi,u8i,zj,zk,zl]at he
      ·have si4:=St.startr s4.src
       have sp4:=St.startr (s4.ent _ hm)
       unfold enE at sp4
       refine aw (aj (af si4 (.head _) rfl (aw (aj (aj (af sp4 (.head _) rfl ?_))))))
       refine UH s4.st (by rw[hf2];exact hl) (SS.subR .head) fun h5 s5=>?_
       unfold da kM
       refine aI (by omega) ?_
       refine⟨n2-1,by omega,q+1,putA l[q].2.x.2.text (br l[q].2.place st.1 (bO l[q].2)).1 kv2,?_⟩
       rw[hsucc,eE,if_pos ⟨h9,hl,he⟩]
       exact⟨rfl,by omega,qm nd2,fun k=>by rw[nc,hf2];rfl,⟨s4.al,s4.ad,s5⟩⟩
      ·exact skip (by unfold eE;rw[if_neg (fun hc=>he hc.2.2)]) h4 s4
  ·have hql:es.length≤q:=by rw[← hes,List.length_map];omega
   rw[List.take_of_length_le hql]at hf2 ⊢
   have hr:oZ es f1=es.foldl eE (f1,false):=rfl
   rw[← hr]at hf2 ⊢
   cases hmore:(oZ es f1).2 with
   | true=>
     rw[if_pos hmore]at hfix
     have:=NX hmore
     exact⟨m,by omega,_,kv2,nd2,hf2,s2,.inl ⟨rfl,by omega,hfix⟩⟩
   | false=>
     rw[if_neg (by rw[hmore];simp)]at hfix
     exact⟨0,by omega,_,kv2,nd2,hf2,s2,.inr ⟨rfl,hfix⟩⟩
 ·unfold hO
  refine ah (fun h=>by cases h) (fun _=>?_)
  exact k kv1 h1 nd1 hf1 s1
end
end
section
section
variable [Tabs]
variable {h0 h h':ae}{M:List Nat}{Q:QT}{K:AV→Prop}
variable {i js:Nat}{l:List (Nat×En)}{ds:List Dg}{lv dv kn:AV}{sz:Int}{kvs:KV}{EL ED R:Own}
theorem SzOk.place {f:Str→Option Int}{e:En}(h:SzOk f e) (at_:Int):SzOk f (tw e at_):=h
theorem xq (syms:Str→Option Int) {es:List En}{q:Nat}(hq:q<es.length):cW syms (es.take (q+1))=kP syms (cW syms (es.take q)) es[q]:=by
 unfold cW
 rw[List.take_succ_eq_append_getElem hq,List.foldl_append];rfl
theorem BH {syms:Str→Option Int}{es:List En}(w:∀ e∈es,WfS e.x.2) (hs:∀ e∈es,SzOk syms e):∀ q,q≤es.length→0≤(cW syms (es.take q)).2∧(cW syms (es.take q)).2≤4000000000*(q:Int)
 | 0,_=>by simp[cW]
 | q+1,hq=>by
   have ih:=BH w hs q (by omega)
   have hq:q<es.length:=by omega
   rw[xq syms hq]
   have hm:=List.getElem_mem hq
   have:=wj (f:=syms) (e:=(tw es[q] (cW syms (es.take q)).2)) (w es[q] hm) (SzOk.place (hs es[q] hm) _) ih.1
   simp only[kP];omega
theorem BV {syms:Str→Option Int}{es:List En}(w:∀ e∈es,WfS e.x.2) (hs:∀ e∈es,SzOk syms e):∀ q,q≤es.length→∀ e∈(cW syms (es.take q)).1,(∃ e0∈es,e.x=e0.x∧e.frag=e0.frag∧e.grown=e0.grown)∧0≤e.place∧e.place≤4000000000*(q:Int)
 | 0,_,e,he=>by simp[cW]at he
 | q+1,hq,e,he=>by
   have hq:q<es.length:=by omega
   have hin:=BH w hs q (by omega)
   rw[xq syms hq]at he
   simp only[kP,List.mem_append,List.mem_singleton]at he
   rcases he with he|rfl
   ·have:=BV w hs q (by omega) e he
    exact⟨this.1,this.2.1,by omega⟩
   ·exact⟨⟨es[q],List.getElem_mem hq,rfl,rfl,rfl⟩,hin.1,by simp only[tw];omega⟩
theorem WV (hl:l.length<100000) {f:Str→Option Int}{jk:Nat}{kv0:KV}(nds:(bN kvs).Nodup) (hfs:∀ k,bw k kvs=f k) (w:∀ x∈l,WfS x.2.x.2) (hs:∀ x∈l,SzOk f x.2) (nd0:(bN kv0).Nodup) (hf0:∀ k,bw k kv0=f k)
  (s:SS h0 M h i js l ds lv dv (.map jk) sz kvs EL ED ((jk,true,bC kv0)::R))
  (k:∀ l' kv' h',l'.map (·.1)=l.map (·.1)→l'.map (·.2)=(ij f (l.map (·.2))).1→(bN kv').Nodup→(∀ k,bw k kv'=(ij f (l.map (·.2))).2.1 k)→SS h0 M h' i js l' ds lv dv (.map jk) (ij f (l.map (·.2))).2.2 kvs EL ED ((jk,true,bC kv')::R)→Q (.tup []) h'):
  bZ [(I 0),(I 0)] h fun vs6 h next6=>kW (I (l.length:Nat)) lv (.ptr i 0) Q vs6 h next6:=by
 generalize hes:l.map (·.2)=es at k
 have hel:es.length=l.length:=by rw[← hes];simp
 have wes:∀ e∈es,WfS e.x.2:=by
  intro e he;rw[← hes,List.mem_map]at he;obtain⟨x,hx,rfl⟩:=he;exact w x hx
 have ses:∀ e∈es,SzOk f e:=by
  intro e he;rw[← hes,List.mem_map]at he;obtain⟨x,hx,rfl⟩:=he;exact hs x hx
 refine aP (fun n vs h'=>∃ (q:Nat) (l':List (Nat×En)) (kv:KV),vs=[I (cW f (es.take q)).2,I (q:Nat)]∧n+q=l.length∧l'.map (·.1)=l.map (·.1)∧l'.map (·.2)=(cW f (es.take q)).1++es.drop q∧(bN kv).Nodup∧(∀ k,bw k kv=Vy f (cW f (es.take q)).1 k)∧SS h0 M h' i js l' ds lv dv (.map jk) sz kvs EL ED ((jk,true,bC kv)::R)) l.length ⟨0,l,kv0,rfl,by omega,rfl,by rw[hes];rfl,nd0,hf0,s⟩ ?_
 rintro n vs h1 ⟨q,l1,kv1,rfl,hn,hp1,he1,nd1,hf1,s1⟩
 have hl1:l1.length=l.length:=by simpa using congrArg List.length hp1
 have hpl:=zr f (es.take q) ([],0)
 have hpl:(cW f (es.take q)).1.length=q:=by
  unfold cW;rw[hpl,List.length_take];simp;omega
 unfold kW
 (repeat refine aJ ?_)
 refine ah (fun hq=>?_) (fun hq=>?_)<;>simp only[za,zb,zc,zd,ze,zf,zg,zh,zi,u8i,zj,zk,zl]at hq
 ·have hq:q<l1.length:=by omega
  have hqe:q<es.length:=by omega
  have hq0:q<l.length:=by omega
  have hm:=List.getElem_mem hq
  have hin:=BH wes ses q (by omega)
  have hsucc:=xq f hqe
  have hent:l1[q].2=es[q]:=by
   have:(l1.map (·.2))[q]?=some es[q]:=by
    rw[he1,List.getElem?_append_right (by omega),hpl];simp[hqe]
   rw[List.getElem?_map,List.getElem?_eq_getElem hq]at this
   simpa using this
  generalize hat:(cW f (es.take q)).2=at_ at hin ⊢
  refine s1.row.idx (fun _=>rfl) hq fun p t=>?_
  refine aH t ?_
  refine aw (aj ?_)
  refine ay (L':=ED++((i,true,ew lv js (.map jk) dv sz)::(js,true,bC kvs)::(EL++(cy (l1.set q (l1[q].1,(tw l1[q].2 at_)))++((jk,true,bC kv1)::R))))) (cs:=enE l1[q].2) s1.st (SS.subE hq (tw l1[q].2 at_)) rfl rfl rfl (nle rfl) fun h2 s2=>?_
  have s2:=s1.setE hq s2
  have hm2:(l1[q].1,(tw l1[q].2 at_))∈l1.set q (l1[q].1,(tw l1[q].2 at_)):=List.mem_set hq _
  have hmap1:(l1.set q (l1[q].1,(tw l1[q].2 at_))).map (·.1)=l.map (·.1):=by
   have h1:l1[q].1=(l1.map (·.1))[q]'(by simpa using hq):=by simp
   rw[List.map_set,h1,List.set_getElem_self];exact hp1
  have hmap2:(l1.set q (l1[q].1,(tw l1[q].2 at_))).map (·.2)=((cW f (es.take q)).1++[(tw es[q] at_)])++es.drop (q+1):=by
   rw[List.map_set,he1,List.set_append_right _ _ (by omega),hpl,List.drop_eq_getElem_cons hqe,Nat.sub_self,List.set_cons_zero,hent,List.append_assoc]
   rfl
  have hw:WfS l1[q].2.x.2:=by rw[hent];exact wes _ (List.getElem_mem hqe)
  have hso:SzOk f (tw l1[q].2 at_):=by rw[hent];exact SzOk.place (ses _ (List.getElem_mem hqe)) _
  have hex:(tw l1[q].2 at_).x=l1[q].2.x:=rfl
  have hepl:(tw l1[q].2 at_).place=at_:=rfl
  have hpe:kP f (cW f (es.take q)) es[q]=((cW f (es.take q)).1++[(tw l1[q].2 at_)],at_+jI f (tw l1[q].2 at_)):=by rw[kP,hat,hent]
  rw[← hent]at hmap2
  generalize he2:(tw l1[q].2 at_)=e2 at s2 hm2 hmap1 hmap2 hso hex hepl hpe
  rw[← hex]at hw
  generalize hl2:l1.set q (l1[q].1,e2)=l2 at s2 hm2 hmap1 hmap2
  have sp:=St.startr (s2.ent _ hm2)
  unfold enE at sp
  have hj:∀ h3 kv3,(bN kv3).Nodup→(∀ k,bw k kv3=YE (Vy f (cW f (es.take q)).1) e2 k)→SS h0 M h3 i js l2 ds lv dv (.map jk) sz kvs EL ED ((jk,true,bC kv3)::R)→hQ (.ptr l1[q].1 0) (I at_) (I (q:Nat)) (.ptr i 0) h3 (fun vs' h'=>∃ m,m<n∧∃ (q:Nat) (l':List (Nat×En)) (kv:KV),vs'=[I (cW f (es.take q)).2,I (q:Nat)]∧m+q=l.length∧l'.map (·.1)=l.map (·.1)∧l'.map (·.2)=(cW f (es.take q)).1++es.drop q∧(bN kv).Nodup∧(∀ k,bw k kv=Vy f (cW f (es.take q)).1 k)∧SS h0 M h' i js l' ds lv dv (.map jk) sz kvs EL ED ((jk,true,bC kv)::R)):=by
   intro h3 kv3 nd3 hf3 s3
   unfold hQ
   refine JK (e:=e2) (s3.ent _ hm2) hw s3.src ⟨kvs,s3.syms,nds,hfs⟩ hso (by rw[hepl];omega) fun h4 f4=>?_
   have hlong:=wj (f:=f) (e:=e2) hw hso (by rw[hepl];exact hin.1)
   refine aI (by omega) ?_
   refine aI (by omega) ?_
   refine⟨n-1,by omega,q+1,l2,kv3,?_⟩
   rw[hsucc,hpe]
   refine⟨rfl,by omega,hmap1,?_,nd3,?_,s3.call f4⟩
   ·exact hmap2
   ·intro k;rw[hf3];simp only[Vy,List.foldl_append,List.foldl_cons,List.foldl_nil]
  refine aw (aj (aj (af sp (.head _) rfl (pU ?_))))
  refine ah (fun hlab=>?_) (fun hlab=>?_)<;>simp only[za,zb,zc,zd,ze,zf,zg,zh,zi,u8i,zj,zk,zl]at hlab
  ·have si:=St.startr s2.src
   refine aw (aj (af si (.head _) rfl (aw (aj (aj (af sp (.head _) rfl ?_))))))
   refine tq s2.st (SS.subR .head) fun h3 s3=>?_
   refine hj h3 _ (qm nd1) (fun k=>?_) ⟨s2.al,s2.ad,s3⟩
   rw[nc,hf1,YE,if_pos (show e2.x.2.lab≠[] from hlab),hepl];rfl
  ·refine hj h2 kv1 nd1 (fun k=>?_) s2
   rw[hf1,YE,if_neg (by simpa using hlab)]
 ·have hq:q=l.length:=by omega
  subst hq
  rw[show es.take l.length=es by rw[← hel,List.take_length]]at he1 hf1 ⊢
  rw[show es.drop l.length=[] by rw[← hel,List.drop_length],List.append_nil]at he1
  refine aw (aj ?_)
  refine ay (L':=ED++((i,true,ew lv js (.map jk) dv (cW f es).2)::(js,true,bC kvs)::(EL++(cy l1++((jk,true,bC kv1)::R))))) (cs:=[lv,.map js,.map jk,dv,I sz]) s1.st SS.subS rfl rfl rfl (nle rfl) fun h2 s2=>?_
  have s2:SS h0 M h2 i js l1 ds lv dv (.map jk) (cW f es).2 kvs EL ED ((jk,true,bC kv1)::R):=⟨s1.al,s1.ad,s2⟩
  refine Z1 (F:=(ij f es).2.1) (by omega) (fun x hx=>?_) nd1 hf1 ?_ s2 fun kv' h' nd' hf' s'=>?_
  ·have hx2:x.2∈(cW f es).1:=by rw[← he1];exact List.mem_map.2 ⟨x,hx,rfl⟩
   have:=BV wes ses es.length (Nat.le_refl _) x.2 (by rw[List.take_length];exact hx2)
   obtain⟨⟨e0,h0,h1,_⟩,_⟩:=this
   rw[h1];exact wes _ h0
  ·rw[he1,hl1,← hel];rfl
  ·exact k l1 kv' h' hp1 he1 nd' hf' s'
theorem Xs (hl:l.length<100000) {f:Str→Option Int}(nds:(bN kvs).Nodup) (hfs:∀ k,bw k kvs=f k) (w:∀ x∈l,WfS x.2.x.2) (hs:∀ x∈l,SzOk f x.2)
  (s:SS h0 M h i js l ds lv dv kn sz kvs EL ED R)
  (k:∀ l' jk kv' h',l'.map (·.1)=l.map (·.1)→l'.map (·.2)=(ij f (l.map (·.2))).1→(bN kv').Nodup→(∀ k,bw k kv'=(ij f (l.map (·.2))).2.1 k)→SS h0 M h' i js l' ds lv dv (.map jk) (ij f (l.map (·.2))).2.2 kvs EL ED ((jk,true,bC kv')::R)→Q (.tup []) h'):C iG [.ptr i 0] h Q:=by
 refine AW _ _ _ ?_
 unfold xn
 refine zy s.st fun jk h1 s1=>?_
 have s1:=s.front s1
 refine aw (aj ?_)
 refine ay (L':=ED++((i,true,ew lv js (.map jk) dv sz)::(js,true,bC kvs)::(EL++(cy l++((jk,true,.amap [] 0)::R))))) (cs:=[lv,.map js,kn,dv,I sz]) s1.st SS.subS rfl rfl rfl (nle rfl) fun h2 s2=>?_
 have s2:SS h0 M h2 i js l ds lv dv (.map jk) sz kvs EL ED ((jk,true,bC [])::R):=⟨s.al,s.ad,s2⟩
 have si:=St.startr s2.src
 (repeat (first|refine aw ?_|refine aj ?_|refine af ‹_› (.head _) rfl ?_))
 clear si
 refine Ic s2.st s2.syms fun it h3 s3=>?_
 have s3:=s2.front s3
 refine aP (fun n vs h'=>∃ (sn:List Nat) (kv:KV),vs=[]∧n+sn.length=kvs.length∧FillInv (fun v=>v) kvs sn kv∧SS h0 M h' i js l ds lv dv (.map jk) sz kvs EL ED ((it,true,Ib js kvs sn)::(jk,true,bC kv)::R)) kvs.length ⟨[],[],rfl,by simp,.start,s3⟩ ?_
 rintro n vs h4 ⟨sn,kv,rfl,hn,fi,s4⟩
 unfold qd
 refine Nz s4.back s4.syms (fun hall=>?_) (fun q hq hnq h5 s5=>?_)
 ·refine aE rfl (ah (fun h=>by cases h) (fun _=>?_))
  have hdone:=fi.done hall
  have s5:=s4.unR (List.sublist_cons_self _ _)
  have si:=St.startr s5.src
  (repeat (first|refine aw ?_|refine aj ?_|refine af ‹_› (.head _) rfl ?_))
  clear si
  refine s5.row.len ?_
  refine WV hl nds hfs w hs fi.nd (fun k=>by rw[hdone,hfs];cases f k<;>rfl) s5 fun l' kv' h' a b c d e=>k l' jk kv' h' a b c d e
 ·have s5:=(s4.unR (List.sublist_cons_self _ _)).front s5
  refine aE rfl (ah (fun _=>?_) (fun h=>by cases h))
  refine JC s5.st (b:=true) (i:=it) (SS.memR (.head _)) s5.syms hq ?_
  have si:=St.startr s5.src
  (repeat (first|refine aw ?_|refine aj ?_|refine aE rfl ?_|refine af ‹_› (.head _) rfl ?_))
  clear si
  refine tq s5.st (SS.subR (.tail .head)) fun h6 s6=>?_
  have hlt:=fi.less hq hnq
  exact⟨n-1,by omega,sn++[q],_,rfl,by simp;omega,fi.step nds hq hnq,⟨s5.al,s5.ad,s6⟩⟩
end
end
end
end Go.Proofs.YtbhphjpgjgigpaaGreatDoor.AL
