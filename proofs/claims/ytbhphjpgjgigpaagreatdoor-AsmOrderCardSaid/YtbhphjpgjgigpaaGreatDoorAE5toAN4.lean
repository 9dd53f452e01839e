import Derived.Test.YtbhphjpgjgigpaaGreatDoorAI4toAE4
set_option linter.all false
set_option autoImplicit true
set_option relaxedAutoImplicit true
set_option maxRecDepth 100000
namespace Go.Proofs.YtbhphjpgjgigpaaGreatDoor.AL
noncomputable section
section
variable [Tabs]
theorem V5:∀ (d D:Nat),D+d=12→yB c5 [] D (Ao d)
 | 0,D,h=>by
   have:D=12:=by omega
   subst this
   exact Sx (fun l h Q i e r=>C6 _ l h Q i e r) (fun l h Q i e r=>C6 _ l h Q i e r)
 | d+1,D,h=>by
   have i1:=V5 d (D+1) (by omega)
   have i2:yB cB [I 0] (D+1) (gv (Ao d) 5):=PH i1 (uA d) 5 (Nat.le_refl _)
   exact Sx (Io (U9 i2) (by omega)) (Io (Vc i1) (by omega))
theorem VC (l:Str) {h:ae}{Q:QT}(k1:∀ x,gD l=some x→∀ h',Fr [] h h'→Q (.tup [.agg (bq x),B true]) h') (k0:gD l=none→∀ h',Fr [] h h'→Q (.tup [.agg zE,B false]) h'):C rY [T l] h Q:=by
 refine HV _ _ _ ?_
 unfold Ha
 refine aQ (St.start h) fun q h1 s1=>?_
 (repeat refine aD rfl ?_)
 refine bW s1 rfl fun i h2 s2=>?_
 have s2:St h [] h2 [(i,true,pO l 0 false),(q,true,.cells zE)]:=s2
 refine PH (V5 12 0 rfl) (uA 12) 5 (Nat.le_refl _) l h2 _ i (s2.get (.head _)) ⟨fun x l' h3 hm f3 e3=>?_,fun cs l' h3 hm f3 e3 hc ho=>?_⟩
 ·have s3:=s2.call1 f3 e3 .head
  refine aM s3 bd (au _) (aX _) (.tail .head) fun h4 s4=>?_
  refine xN (s4.get (.head _)) fun h5 f5 e5=>?_
  have s5:=s4.call1 f5 e5 .head
  have hp:gD l=if blk l'=[] then some x else none:=by unfold gD;rw[hm]
  (repeat (first|refine aw ?_|refine aj ?_|refine pU ?_|refine af ‹_› (.head _) rfl ?_))
  refine ah (fun hb=>?_) (fun hb=>?_)
  ·rw[if_neg (by simpa using hb)]at hp
   (repeat refine aD rfl ?_)
   refine aM s5 (au _) rfl rfl (.tail .head) fun h6 s6=>?_
   refine aK s6 rfl (.tail _ (.head _)) ?_
   exact k0 hp _ s6.fr
  ·rw[if_pos (by simpa using hb)]at hp
   refine aK s5 (au _) (.tail _ (.head _)) ?_
   refine aM s5 (au _) (au _) (aX _) (.tail .head) fun h6 s6=>?_
   refine aK s6 (au _) (.tail _ (.head _)) ?_
   exact k1 x hp _ s6.fr
 ·have s3:=s2.call1 f3 e3 .head
  refine aM s3 bd hc ho (.tail .head) fun h4 s4=>?_
  refine xN (s4.get (.head _)) fun h5 f5 e5=>?_
  have s5:=s4.call1 f5 e5 .head
  have hp:gD l=none:=by unfold gD;rw[hm]
  (repeat (first|refine aw ?_|refine aj ?_|refine af ‹_› (.head _) rfl ?_|refine aD rfl ?_))
  refine aM s5 hc rfl rfl (.tail .head) fun h6 s6=>?_
  refine aK s6 rfl (.tail _ (.head _)) ?_
  exact k0 hp _ s6.fr
def mostI:Int:=1099511627776
abbrev Ev:=Int×Int
def evV (e:Ev):AV:=.tup [I e.1,I e.2]
def fm (n:Int):Ev:=if n < -1099511627776∨1099511627776<n then (0,6) else (n,0)
section
variable {h:ae}{Q:QT}
theorem kw (n:Int) (k:Q (evV (fm n)) h):C cH [I n] h Q:=by
 refine Hf _ _ _ ?_
 unfold FZ
 unfold fm at k
 (repeat refine aJ ?_)
 refine ah (fun h1=>?_) (fun h1=>?_)<;>simp only[za,zb,zc,zd,ze,zf,zg,zh,zi,u8i,zj,zk,zl]at h1
 ·rw[if_pos (.inl h1)]at k;exact k
 (repeat refine bx ?_)
 refine ah (fun h2=>?_) (fun h2=>?_)<;>simp only[za,zb,zc,zd,ze,zf,zg,zh,zi,u8i,zj,zk,zl]at h2
 ·rw[if_pos (.inr h2)]at k;exact k
 ·rw[if_neg (by omega)]at k;exact k
def rt (a b:Int):Ev:=if a=0∨b=0 then (0,0) else if (mostI.tdiv (max b (-b)))<max a (-a) then (0,6) else fm (a*b)
theorem NB (a b:Int) (ha:-1099511627776≤a∧a≤1099511627776) (hb:-1099511627776≤b∧b≤1099511627776) (k:Q (evV (rt a b)) h):C ny [I a,I b] h Q:=by
 refine Hv _ _ _ _ ?_
 unfold EN
 unfold rt mostI at k
 (repeat refine aA ?_)
 refine ah (fun h1=>?_) (fun h1=>?_)<;>simp only[za,zb,zc,zd,ze,zf,zg,zh,zi,u8i,zj,zk,zl]at h1
 ·rw[if_pos (.inl h1)]at k;exact k
 (repeat refine aA ?_)
 refine ah (fun h2=>?_) (fun h2=>?_)<;>simp only[za,zb,zc,zd,ze,zf,zg,zh,zi,u8i,zj,zk,zl]at h2
 ·rw[if_pos (.inr h2)]at k;exact k
 rw[if_neg (by omega)]at k
 refine Yz ?_
 refine O2 (by omega) ?_
 (repeat refine FT ?_)
 refine O2 (by omega) ?_
 (repeat refine FT ?_)
 have hm:1≤max b (-b):=by omega
 have hq0:0≤Int.tdiv 1099511627776 (max b (-b)):=Int.tdiv_nonneg (by omega) (by omega)
 have hq1:Int.tdiv 1099511627776 (max b (-b))≤1099511627776:=by
  rw[Int.tdiv_eq_ediv_of_nonneg (by omega)];exact Int.ediv_le_self _ (by omega)
 refine tJ (by omega) (by omega) ?_
 refine bx ?_
 refine ah (fun h3=>?_) (fun h3=>?_)<;>simp only[za,zb,zc,zd,ze,zf,zg,zh,zi,u8i,zj,zk,zl]at h3
 ·rw[if_pos h3]at k;exact k
 ·rw[if_neg (by omega)]at k
  have hmul:max a (-a)*max b (-b)≤1099511627776:=by
   have h4:max a (-a)≤Int.tdiv 1099511627776 (max b (-b)):=by omega
   have h5:max a (-a)*max b (-b)≤Int.tdiv 1099511627776 (max b (-b))*max b (-b):=Int.mul_le_mul_of_nonneg_right h4 (by omega)
   rw[Int.tdiv_eq_ediv_of_nonneg (by omega)]at h5
   have h6:=Int.ediv_mul_le 1099511627776 (show max b (-b)≠0 by omega)
   omega
  have hab:-1099511627776≤a*b∧a*b≤1099511627776:=by
   have e1:(a*b).natAbs=(max a (-a)*max b (-b)).natAbs:=by
    rw[Int.natAbs_mul,Int.natAbs_mul]
    congr 1<;>omega
   have h7:0≤max a (-a)*max b (-b):=Int.mul_nonneg (by omega) (by omega)
   omega
  rw[sY (by omega)]
  refine kw _ ?_
  (repeat refine aE rfl ?_)
  exact k
def yi (kd:Nat) (a b:Int):Ev:=
 if kd=5 then fm (a+b) else if kd=6 then fm (a-b) else if kd=7 then rt a b else if kd=8 then fm (DP .i64 a b) else if kd=9 then fm (orI .i64 a b)
 else if b<0∨40<b then (0,6) else if kd=11 then fm (Lp .i64 a b.toNat) else rt a (2^b.toNat)
theorem Ya (kd:Nat) (a b:Int) (ha:-1099511627776≤a∧a≤1099511627776) (hb:-1099511627776≤b∧b≤1099511627776) (k:Q (evV (yi kd a b)) h):C uT [I (kd:Nat),I a,I b] h Q:=by
 refine Kj _ _ _ _ _ ?_
 unfold H8
 unfold yi at k
 (repeat refine aA ?_)
 refine ah (fun h5=>?_) (fun h5=>?_)<;>simp only[za,zb,zc,zd,ze,zf,zg,zh,zi,u8i,zj,zk,zl]at h5
 ·rw[if_pos (by omega)]at k
  (repeat refine aI (by omega) ?_)
  refine kw _ ?_
  (repeat refine aE rfl ?_);exact k
 rw[if_neg (by omega)]at k
 (repeat refine aA ?_)
 refine ah (fun h6=>?_) (fun h6=>?_)<;>simp only[za,zb,zc,zd,ze,zf,zg,zh,zi,u8i,zj,zk,zl]at h6
 ·rw[if_pos (by omega)]at k
  (repeat refine cw (by omega) ?_)
  refine kw _ ?_
  (repeat refine aE rfl ?_);exact k
 rw[if_neg (by omega)]at k
 (repeat refine aA ?_)
 refine ah (fun h7=>?_) (fun h7=>?_)<;>simp only[za,zb,zc,zd,ze,zf,zg,zh,zi,u8i,zj,zk,zl]at h7
 ·rw[if_pos (by omega)]at k
  refine NB a b ha hb ?_
  (repeat refine aE rfl ?_);exact k
 rw[if_neg (by omega)]at k
 (repeat refine aA ?_)
 refine ah (fun h8=>?_) (fun h8=>?_)<;>simp only[za,zb,zc,zd,ze,zf,zg,zh,zi,u8i,zj,zk,zl]at h8
 ·rw[if_pos (by omega)]at k
  refine pa ?_
  refine kw _ ?_
  (repeat refine aE rfl ?_);exact k
 rw[if_neg (by omega)]at k
 (repeat refine aA ?_)
 refine ah (fun h9=>?_) (fun h9=>?_)<;>simp only[za,zb,zc,zd,ze,zf,zg,zh,zi,u8i,zj,zk,zl]at h9
 ·rw[if_pos (by omega)]at k
  refine tK ?_
  refine kw _ ?_
  (repeat refine aE rfl ?_);exact k
 rw[if_neg (by omega)]at k
 (repeat refine aJ ?_)
 refine ah (fun hn=>?_) (fun hn=>?_)<;>simp only[za,zb,zc,zd,ze,zf,zg,zh,zi,u8i,zj,zk,zl]at hn
 ·rw[if_pos (.inl hn)]at k;exact k
 (repeat refine bx ?_)
 refine ah (fun hg=>?_) (fun hg=>?_)<;>simp only[za,zb,zc,zd,ze,zf,zg,zh,zi,u8i,zj,zk,zl]at hg
 ·rw[if_pos (.inr hg)]at k;exact k
 rw[if_neg (by omega)]at k
 (repeat refine aA ?_)
 refine ah (fun h11=>?_) (fun h11=>?_)<;>simp only[za,zb,zc,zd,ze,zf,zg,zh,zi,u8i,zj,zk,zl]at h11
 ·rw[if_pos (by omega)]at k
  refine wO (by omega) ?_
  refine kw _ ?_
  (repeat refine aE rfl ?_);exact k
 ·rw[if_neg (by omega)]at k
  refine jR (by omega) ?_
  obtain⟨n,rfl⟩:∃ n:Nat,b=n:=⟨b.toNat,by omega⟩
  have hn40:n≤40:=by omega
  have hp:2^n≤2^40:=Nat.pow_le_pow_right (by omega) hn40
  have hpi:((2:Int)^n)=((2^n:Nat):Int):=by simp
  have hp0:0<2^n:=Nat.two_pow_pos n
  have e1:min (n:Int).toNat IntKind.i64.bits=n:=by
   show min (n:Int).toNat 64=n
   omega
  rw[e1,Int.one_mul,sY (by rw[hpi];omega)]
  rw[Int.toNat_natCast]at k
  refine NB a _ ha (by rw[hpi];omega) ?_
  (repeat refine aE rfl ?_);exact k
abbrev Sy:=Str×Int
def syE (y:Sy):List AV:=[T y.1,I y.2]
def iL (here:Int) (syms:List Sy):Ex→Ev
 | .none=>(0,6)
 | .num n=>fm n
 | .name s=>match syms.find? fun y=>decide (y.1=s) with
   | some y=>fm y.2
   | none=>(0,4)
 | .here=>fm here
 | .neg e=>if (iL here syms e).2≠0 then (0,(iL here syms e).2) else fm (-(iL here syms e).1)
 | .bin k a b=>if (iL here syms a).2≠0 then (0,(iL here syms a).2) else if (iL here syms b).2≠0 then (0,(iL here syms b).2) else yi k (iL here syms a).1 (iL here syms b).1
theorem ig (n:Int):-1099511627776≤(fm n).1∧(fm n).1≤1099511627776:=by unfold fm;split<;>simp<;>omega
theorem UD (a b:Int):-1099511627776≤(rt a b).1∧(rt a b).1≤1099511627776:=by
 unfold rt;split
 ·simp
 ·split
  ·simp
  ·exact ig _
theorem ON (k:Nat) (a b:Int):-1099511627776≤(yi k a b).1∧(yi k a b).1≤1099511627776:=by
 unfold yi
 repeat' split
 all_goals first|exact ig _|exact UD _ _|simp
theorem E6 (here:Int) (syms:List Sy):∀ e:Ex,-1099511627776≤(iL here syms e).1∧(iL here syms e).1≤1099511627776
 | .none=>by simp[iL]
 | .num n=>ig _
 | .name s=>by
   unfold iL;split
   ·exact ig _
   ·simp
 | .here=>ig _
 | .neg e=>by
   unfold iL;split
   ·simp
   ·exact ig _
 | .bin k a b=>by
   unfold iL;split
   ·simp
   ·split
    ·simp
    ·exact ON _ _ _
def okE:Ex→Prop
 | .neg e=>okE e
 | .bin k a b=>(5≤k∧k≤11)∧okE a∧okE b
 | _=>True
theorem Pp {α:Type}(p:α→Bool):∀ l:List α,(fC p l=-1∧l.find? p=none)∨∃ (i:Nat) (hi:i<l.length),fC p l=(i:Nat)∧l.find? p=some l[i]:=fun l=>by
 unfold fC
 cases h:l.findIdx? p with
 | none=>
   rw[List.findIdx?_eq_none_iff]at h
   exact .inl ⟨rfl,by rw[List.find?_eq_none];intro x hx;simp[h x hx]⟩
 | some i=>
   rw[List.findIdx?_eq_some_iff_getElem]at h
   obtain⟨hi,hp,hn⟩:=h
   refine .inr ⟨i,hi,rfl,?_⟩
   rw[List.find?_eq_some_iff_getElem]
   exact⟨hp,i,hi,rfl,fun j hj=>by simpa using hn j hj⟩
theorem D8 (here:Int) (syms:List Sy) (hl:syms.length<1000000):∀ (e:Ex),okE e→∀ (h:ae) (Q:QT) {v:AV},Row syE 2 h v syms→(∀ h',Fr [] h h'→Q (evV (iL here syms e)) h')→C lN [.agg (bq e),I here,v] h Q
 | .none,hk,h,Q,v,r,k=>by
   refine jz _ _ _ _ _ ?_
   unfold mO
   refine bW (St.start h) rfl fun i h1 s1=>?_
   have s1:St h [] h1 [(i,true,.cells (bq .none))]:=s1
   (repeat (first|refine aj ?_|refine d6 ?_|refine aA ?_|refine af ‹_› (.head _) rfl ?_))
   exact k _ s1.fr
 | .num n,hk,h,Q,v,r,k=>by
   refine jz _ _ _ _ _ ?_
   unfold mO
   refine bW (St.start h) rfl fun i h1 s1=>?_
   have s1:St h [] h1 [(i,true,.cells (bq (.num n)))]:=s1
   (repeat (first|refine aj ?_|refine aA ?_|refine af ‹_› (.head _) rfl ?_))
   refine kw _ ?_
   (repeat refine aE rfl ?_)
   exact k _ s1.fr
 | .here,hk,h,Q,v,r,k=>by
   refine jz _ _ _ _ _ ?_
   unfold mO
   refine bW (St.start h) rfl fun i h1 s1=>?_
   have s1:St h [] h1 [(i,true,.cells (bq .here))]:=s1
   (repeat (first|refine aj ?_|refine aA ?_|refine af ‹_› (.head _) rfl ?_))
   refine kw _ ?_
   (repeat refine aE rfl ?_)
   exact k _ s1.fr
 | .name s,hk,h,Q,v,r,k=>by
   refine jz _ _ _ _ _ ?_
   unfold mO
   refine bW (St.start h) rfl fun i h1 s1=>?_
   have s1:St h [] h1 [(i,true,.cells (bq (.name s)))]:=s1
   (repeat (first|refine aj ?_|refine aA ?_|refine af ‹_› (.head _) rfl ?_))
   refine wy (enc:=syE) (fun _=>rfl) _ (fun y=>decide (y.1=s)) syms (by omega) (r.fr s1.fr) (fun x hx h2 Q f2 kq=>?_) fun h2 f2=>?_
   ·show ACall Pg p7 _ _ _
    refine G9 _ _ _ _ ?_
    unfold Dv
    have s2:=St.startr (f2.get (s1.get (.head _)) (by simp))
    refine bW s2 rfl fun j h3 s3=>?_
    (repeat (first|refine aj ?_|refine aV ?_|refine af ‹_› (by first|exact .head _|exact .tail _ (.head _)) rfl ?_))
    exact kq _ s3.fr
   ·have s2:=s1.call f2
    unfold iL at k
    rcases Pp (fun y:Sy=>decide (y.1=s)) syms with ⟨e1,e2⟩|⟨j,hj,e1,e2⟩
    ·rw[e1]
     rw[e2]at k
     (repeat refine aJ ?_)
     exact k _ s2.fr
    ·rw[e1]
     rw[e2]at k
     (repeat refine aJ ?_)
     refine (r.fr s2.fr).idx (fun _=>rfl) hj fun p t=>?_
     refine uS t (nle rfl) fun q t2=>?_
     refine aH t2 ?_
     refine kw _ ?_
     (repeat refine aE rfl ?_)
     exact k _ s2.fr
 | .neg e,hk,h,Q,v,r,k=>by
   refine jz _ _ _ _ _ ?_
   unfold mO
   refine bW (St.start h) rfl fun i h1 s1=>?_
   have s1:St h [] h1 [(i,true,.cells (bq (.neg e)))]:=s1
   (repeat (first|refine aj ?_|refine d6 ?_|refine aA ?_|refine af ‹_› (.head _) rfl ?_))
   have R1:∀ h,Row bq 4 h (.full 1 (bq e)) [e]:=fun h=>by
    have:=Row.full (h:=h) (enc:=bq) au [e]
    simpa using this
   refine (R1 h1).idx au (j:=0) (by simp) fun p t=>?_
   refine aR t (au e).symm ?_
   refine D8 here syms hl e hk h1 _ (r.fr s1.fr) fun h2 f2=>?_
   have s2:=s1.call f2
   have hin:=E6 here syms e
   unfold iL at k
   (repeat (first|refine aE rfl ?_|refine cg ?_))
   refine ah (fun h1=>?_) (fun h1=>?_)<;>simp only[za,zb,zc,zd,ze,zf,zg,zh,zi,u8i,zj,zk,zl]at h1
   ·rw[if_pos h1]at k
    exact k _ s2.fr
   ·rw[if_neg (by omega)]at k
    (repeat (first|refine aj ?_|refine d6 ?_|refine aA ?_|refine af ‹_› (.head _) rfl ?_))
    refine O2 (by simp[evV];omega) ?_
    refine kw _ ?_
    (repeat refine aE rfl ?_)
    exact k _ s2.fr
 | .bin kd a b,hk,h,Q,v,r,k=>by
   obtain⟨hkd,hka,hkb⟩:=hk
   refine jz _ _ _ _ _ ?_
   unfold mO
   refine bW (St.start h) rfl fun i h1 s1=>?_
   have s1:St h [] h1 [(i,true,.cells (bq (.bin kd a b)))]:=s1
   have R2:∀ h,Row bq 4 h (.full 2 (bq a++bq b)) [a,b]:=fun h=>by
    have:=Row.full (h:=h) (enc:=bq) au [a,b]
    simpa using this
   (repeat (first|refine aj ?_|refine aA ?_|refine af ‹_› (.head _) rfl ?_))
   refine ah (fun hb=>absurd hb (by simp;omega)) (fun _=>?_)
   (repeat (first|refine aj ?_|refine aA ?_|refine af ‹_› (.head _) rfl ?_))
   refine ah (fun hb=>absurd hb (by simp;omega)) (fun _=>?_)
   (repeat (first|refine aj ?_|refine aA ?_|refine af ‹_› (.head _) rfl ?_))
   refine ah (fun hb=>absurd hb (by simp;omega)) (fun _=>?_)
   (repeat (first|refine aj ?_|refine d6 ?_|refine aA ?_|refine af ‹_› (.head _) rfl ?_))
   refine (R2 h1).idx au (j:=0) (by simp) fun p t=>?_
   refine aR t (au a).symm ?_
   refine D8 here syms hl a hka h1 _ (r.fr s1.fr) fun h2 f2=>?_
   have s2:=s1.call f2
   have hin:=E6 here syms a
   have hin2:=E6 here syms b
   unfold iL at k
   (repeat (first|refine aE rfl ?_|refine cg ?_))
   refine ah (fun ha=>?_) (fun ha=>?_)<;>simp only[za,zb,zc,zd,ze,zf,zg,zh,zi,u8i,zj,zk,zl]at ha
   ·rw[if_pos ha]at k
    exact k _ s2.fr
   rw[if_neg (by omega)]at k
   (repeat (first|refine aj ?_|refine d6 ?_|refine aA ?_|refine af ‹_› (.head _) rfl ?_))
   refine (R2 h2).idx au (j:=1) (by simp) fun p t=>?_
   refine aR t (au b).symm ?_
   refine D8 here syms hl b hkb h2 _ (r.fr s2.fr) fun h3 f3=>?_
   have s3:=s2.call f3
   (repeat (first|refine aE rfl ?_|refine cg ?_))
   refine ah (fun hb=>?_) (fun hb=>?_)<;>simp only[za,zb,zc,zd,ze,zf,zg,zh,zi,u8i,zj,zk,zl]at hb
   ·rw[if_pos hb]at k
    exact k _ s3.fr
   rw[if_neg (by omega)]at k
   (repeat (first|refine aj ?_|refine af ‹_› (.head _) rfl ?_))
   refine Ya kd _ _ hin hin2 ?_
   (repeat refine aE rfl ?_)
   exact k _ s3.fr
end
end
section
variable [Tabs]
def vw (out:List Str) (n:Str):List Str:=if out.any (fun y=>decide (n=y))=true then out else out++[n]
def bV:Ex→List Str
 | .name s=>[s]
 | .neg e=>(bV e).foldl vw []
 | .bin _ a b=>(bV b).foldl vw ((bV a).foldl vw [])
 | _=>[]
def bn:Ex→Nat
 | .neg e=>1+bn e
 | .bin _ a b=>1+bn a+bn b
 | _=>1
theorem Wx (out:List Str) (n:Str):(vw out n).length≤out.length+1:=by unfold vw;split<;>simp
theorem xy:∀ (l out:List Str),(l.foldl vw out).length≤out.length+l.length
 | [],out=>by simp
 | n::l,out=>by
   have h1:=xy l (vw out n)
   have h2:=Wx out n
   simp only[List.foldl_cons,List.length_cons];omega
theorem kO:∀ e:Ex,(bV e).length≤bn e
 | .none=>by simp[bV]
 | .num _=>by simp[bV]
 | .here=>by simp[bV]
 | .name _=>by simp[bV,bn]
 | .neg e=>by
   have h1:=xy (bV e) []
   have h2:=kO e
   simp only[bV,bn,List.length_nil]at *;omega
 | .bin k a b=>by
   have h1:=xy (bV a) []
   have h2:=xy (bV b) ((bV a).foldl vw [])
   have h3:=kO a
   have h4:=kO b
   simp only[bV,bn,List.length_nil]at *;omega
def dS:Ex→List Ex
 | .neg e=>[e]
 | .bin _ a b=>[a,b]
 | _=>[]
def UR:Ex→List Str
 | .name s=>[s]
 | _=>[]
theorem SM (e:Ex):bV e=(dS e).foldl (fun out c=>(bV c).foldl vw out) (UR e):=by cases e<;>rfl
theorem AG {e c:Ex}(h:c∈dS e):bn c<bn e:=by
 cases e<;>simp[dS]at h
 ·subst h;simp[bn]
 ·rcases h with rfl|rfl<;>simp[bn]<;>omega
theorem EY {e c:Ex}(hk:okE e) (h:c∈dS e):okE c:=by
 cases e<;>simp[dS]at h
 ·subst h;exact hk
 ·rcases h with rfl|rfl
  ·exact hk.2.1
  ·exact hk.2.2
abbrev sE:Str→List AV:=fun x=>[T x]
theorem Fo (e:Ex) (h:ae):Row bq 4 h ((bq e)[3]'(by rw[au];omega)) (dS e):=by
 cases e with
 | none=>exact .nil
 | num n=>exact .nil
 | name s=>exact .nil
 | here=>exact .nil
 | neg e=>simpa [bq,dS] using Row.full (h:=h) (enc:=bq) au [e]
 | bin k a b=>simpa [bq,dS] using Row.full (h:=h) (enc:=bq) au [a,b]
theorem EB:∀ (n:Nat) (e:Ex),okE e→bn e≤n→n<100000000→∀ (h:ae) (Q:QT),(∀ h',Fr [] h h'→Q (.snap (bV e).length ((bV e).flatMap sE)) h')→C kA [.agg (bq e)] h Q
 | 0,e,_,hn,_,h,Q,k=>by cases e<;>simp[bn]at hn
 | n+1,e,hok,hn,hn2,h,Q,k=>by
   refine HD _ _ _ ?_
   unfold Fp
   refine bW (St.start h) rfl fun i h1 s1=>?_
   have s1:St h [] h1 [(i,true,.cells (bq e))]:=s1
   have RC:=Fo e
   have rest:∀ (v:AV) (E:Own) (h2:ae),AccE 1 v (UR e).length ((UR e).flatMap sE) E→St h [] h2 (E++[(i,true,.cells (bq e))])→l6 v (.ptr i 0) h2 Q:=by
    intro v E h2 a s2
    unfold l6
    (repeat refine aj ?_)
    refine af (a.rest s2) (.head _) (List.getElem?_eq_getElem (by rw[au];decide)) ?_
    refine (RC h2).len ?_
    refine aP (fun m vs h'=>∃ (j:Nat) (v:AV) (out:List Str) (E:Own),vs=[v,I (j:Nat)]∧m+j=(dS e).length∧AccE 1 v out.length (out.flatMap sE) E∧St h [] h' (E++[(i,true,.cells (bq e))])∧
     out=((dS e).take j).foldl (fun out c=>(bV c).foldl vw out) (UR e)∧out.length≤1+j*n) (dS e).length ⟨0,v,UR e,E,rfl,by omega,a,s2,rfl,by cases e<;>simp[UR]⟩ ?_
    rintro m vs h3 ⟨j,v,out,E,rfl,hm,a,s3,hout,hol⟩
    unfold wY
    (repeat refine aJ ?_)
    have hcl:(dS e).length≤2:=by cases e<;>simp[dS]
    refine ah (fun hb=>?_) (fun hb=>?_)<;>simp only[za,zb,zc,zd,ze,zf,zg,zh,zi,u8i,zj,zk,zl]at hb
    ·have hj:j<(dS e).length:=hb
     have hc:=AG (List.getElem_mem hj)
     refine (RC h3).idx au hj fun p t=>?_
     refine aR t (au _).symm ?_
     refine aQ s3 fun q h4 s4=>?_
     refine aM s4 rfl (au _) (aX _) .head fun h5 s5=>?_
     refine aK s5 (au _) (.head _) ?_
     refine EB n (dS e)[j] (EY hok (List.getElem_mem hj)) (by omega) (by omega) h5 _ fun h6 f6=>?_
     have s6:=(s5.call f6).drop1
     have hnl:=kO (dS e)[j]
     (repeat refine cE ?_)
     have RN6:∀ h,Row sE 1 h (.snap (bV (dS e)[j]).length ((bV (dS e)[j]).flatMap sE)) (bV (dS e)[j]):=fun h=>Row.snap (enc:=sE) (fun _=>rfl) _
     generalize hns:bV (dS e)[j]=ns at RN6 hnl ⊢
     have hb2:j*n≤2*n:=Nat.mul_le_mul_right _ (by omega)
     refine aP (fun m2 vs h'=>∃ (q:Nat) (v:AV) (o:List Str) (E:Own),vs=[v,I (q:Nat)]∧m2+q=ns.length∧AccE 1 v o.length (o.flatMap sE) E∧St h [] h' (E++[(i,true,.cells (bq e))])∧
      o=(ns.take q).foldl vw out∧o.length≤out.length+q) ns.length ⟨0,v,out,E,rfl,by omega,a,s6,rfl,by omega⟩ ?_
     rintro m2 vs h7 ⟨q2,v2,o,E2,rfl,hm2,a2,s7,ho,hoo⟩
     unfold wu
     (repeat refine aJ ?_)
     refine ah (fun hb3=>?_) (fun hb3=>?_)<;>simp only[za,zb,zc,zd,ze,zf,zg,zh,zi,u8i,zj,zk,zl]at hb3
     ·have hq:q2<ns.length:=hb3
      refine (RN6 h7).idx (fun _=>rfl) hq fun p t=>?_
      refine aH t ?_
      have RO:Row sE 1 h7 v2 o:=a2.rd s7
      refine zJ ns[q2] o (by omega) RO ?_
      have hnext:(ns.take (q2+1)).foldl vw out=vw o ns[q2]:=by
       rw[List.take_succ_eq_append_getElem hq,List.foldl_append,← ho];rfl
      refine bQ ?_
      cases hc2:o.any fun y=>decide (ns[q2]=y) with
      | true=>
        refine ah (fun h=>by cases h) (fun _=>?_)
        unfold lF rF
        refine aI (by omega) ?_
        refine⟨m2-1,by omega,q2+1,v2,o,E2,rfl,by omega,a2,s7,?_,by omega⟩
        rw[hnext,vw,if_pos hc2]
      | false=>
        refine ah (fun _=>?_) (fun h=>by cases h)
        refine aB rfl rfl ?_
        refine a2.app s7 (xs:=[T ns[q2]]) (m:=1) (Rd.full rfl) rfl (by omega) fun v3 E3 h8 a3 s8=>?_
        unfold lF rF
        refine aI (by omega) ?_
        refine⟨m2-1,by omega,q2+1,v3,o++[ns[q2]],E3,rfl,by omega,by simpa using a3,s8,?_,by simp;omega⟩
        rw[hnext,vw,if_neg (by simp[hc2])]
     ·have hq:ns.length≤q2:=by omega
      rw[List.take_of_length_le hq]at ho
      refine aI (by omega) ?_
      have hj1:(j+1)*n=j*n+n:=by rw[Nat.add_mul];omega
      refine⟨m-1,by omega,j+1,v2,o,E2,rfl,by omega,a2,s7,?_,by omega⟩
      rw[List.take_succ_eq_append_getElem hj,List.foldl_append,← hout,ho,← hns];rfl
    ·have hj:(dS e).length≤j:=by omega
     rw[List.take_of_length_le hj,← SM]at hout
     have hnl:=kO e
     have hol2:out.length=(bV e).length:=by rw[hout]
     refine DK (by omega) (a.rd s3) fun h4 f4=>?_
     rw[hout]
     exact k h4 (s3.call f4).fr
   cases e with
   | name s=>
     (repeat (first|refine aj ?_|refine aA ?_|refine af ‹_› (.head _) rfl ?_|refine aB rfl rfl ?_))
     refine qP s1 (Rd.full (n:=1) (cs:=[T s]) rfl) (by decide) (fun h=>by omega) fun j h2 _ s2=>?_
     exact rest _ [(j,true,.cells [T s])] h2 (.inr ⟨rfl,j,rfl,rfl⟩) s2
   | none=>
     refine aj (af s1 (.head _) rfl (aA (ah (fun h=>absurd h (by decide)) (fun _=>?_))))
     exact rest _ [] _ (.none _) s1
   | num n=>
     refine aj (af s1 (.head _) rfl (aA (ah (fun h=>absurd h (by decide)) (fun _=>?_))))
     exact rest _ [] _ (.none _) s1
   | here=>
     refine aj (af s1 (.head _) rfl (aA (ah (fun h=>absurd h (by decide)) (fun _=>?_))))
     exact rest _ [] _ (.none _) s1
   | neg e=>
     refine aj (af s1 (.head _) rfl (aA (ah (fun h=>absurd h (by decide)) (fun _=>?_))))
     exact rest _ [] _ (.none _) s1
   | bin k a b=>
     have hk2:=hok.1
     refine aj (af s1 (.head _) rfl (aA (ah (fun h=>absurd h (by simp;omega)) (fun _=>?_))))
     exact rest _ [] _ (.none _) s1
end
section
variable [Tabs]
def GA (fv:AV) (p:UInt8→Bool):Prop:=∀ (c:UInt8) (h:ae) (Q:QT),Q (B (p c)) h→CV fv [U8 c] h Q
section
variable {h:ae}{Q:QT}
def c6 (p:UInt8→Bool) (l:Str):Nat:=(l.takeWhile p).length
theorem Il (p:UInt8→Bool) (l:Str):c6 p l≤l.length:=(List.takeWhile_sublist _).length_le
theorem IU {p:UInt8→Bool}{l:Str}:c6 p l=l.length↔l.all p=true:=by
 unfold c6
 constructor
 ·intro h
  have:l.takeWhile p=l:=(List.takeWhile_sublist p).eq_of_length h
  rw[List.all_eq_true]
  exact takeWhile_self.1 this
 ·intro h
  rw[List.all_eq_true]at h
  rw[takeWhile_self.2 h]
theorem tC {fv:AV}{p:UInt8→Bool}(ht:GA fv p) (l:Str) (hl:l.length<4611686018427387904) (k:Q (I (c6 p l:Nat)) h):C eL [T l,fv] h Q:=by
 refine Hm _ _ _ _ ?_
 unfold Gs
 refine aP (fun n vs h'=>h'=h∧∃ i:Nat,vs=[I (i:Nat)]∧n+i=l.length∧∀ j (hj:j<l.length),j<i→p l[j]=true) l.length ⟨rfl,0,rfl,by omega,fun j _ hj=>by omega⟩ ?_
 rintro n vs h' ⟨rfl,i,rfl,hn,ha⟩
 unfold yO
 (repeat (first|refine bf ?_|refine aJ ?_))
 refine ah (fun hb=>?_) (fun hb=>?_)<;>simp only[za,zb,zc,zd,ze,zf,zg,zh,zi,u8i,zj,zk,zl]at hb
 ·have hi:i<l.length:=hb
  refine bP hi ?_
  refine ht l[i] _ _ ?_
  cases hp:p l[i] with
  | true=>
    refine ah (fun _=>?_) (fun h=>by cases h)
    (repeat refine aI (by omega) ?_)
    refine⟨n-1,by omega,rfl,i+1,rfl,by omega,fun j hj hj2=>?_⟩
    rcases Nat.lt_or_eq_of_le (Nat.le_of_lt_succ hj2) with h1|h1
    ·exact ha j hj h1
    ·subst h1;exact hp
  | false=>
    refine ah (fun h=>by cases h) (fun _=>?_)
    have:c6 p l=i:=by
     unfold c6
     rw[sG hi (fun j hj=>ha j (by omega) hj) hp];simp;omega
    rw[this]at k;exact k
 ·have:c6 p l=i:=by
   unfold c6
   rw[yz fun j hj=>ha j hj (by omega)];omega
  rw[this]at k;exact k
abbrev rN (c:UInt8):Bool:=bu c.toNat
abbrev fj (c:UInt8):Bool:=df c.toNat
theorem CN (c:UInt8) (k:Q (B (rN c)) h):C dU [U8 c] h Q:=by
 refine Hk _ _ _ ?_
 unfold GK
 have e1:decide ((48:Int)≤c.toNat)=decide (48≤c.toNat):=vc (a:=48)
 have e2:decide ((c.toNat:Int)≤57)=decide (c.toNat≤57):=vc (b:=57)
 unfold rN bu at k
 refine bL ?_
 rw[e1]
 cases h1:decide (48≤c.toNat) with
 | true=>
   refine ah (fun _=>?_) (fun h=>by cases h)
   refine fl ?_
   rw[h1,Bool.true_and]at k
   rw[e2];exact k
 | false=>
   refine ah (fun h=>by cases h) (fun _=>?_)
   rw[h1,Bool.false_and]at k;exact k
theorem S4 (c:UInt8) (k:Q (B (fj c)) h):C kj [U8 c] h Q:=by
 refine Hy _ _ _ ?_
 unfold FV
 have e1:decide ((97:Int)≤c.toNat)=decide (97≤c.toNat):=vc (a:=97)
 have e2:decide ((c.toNat:Int)≤122)=decide (c.toNat≤122):=vc (b:=122)
 have e3:decide ((c.toNat:Int)=95)=decide (c.toNat=95):=ZX (b:=95)
 unfold fj df wv at k
 have tail:∀ (h':h=h),(Q (B (decide (c.toNat=95)||bu c.toNat)) h)→ai .eql (U8 c) (.lit (.int .u8 95)) fun t11=>ifB t11 (Q (B true) h) (C dU [U8 c] h fun t15 h0=>Q t15 h0):=by
  intro _ k
  refine aA ?_
  rw[e3]
  cases h3:decide (c.toNat=95) with
  | true=>
    refine ah (fun _=>?_) (fun h=>by cases h)
    rw[h3,Bool.true_or]at k;exact k
  | false=>
    refine ah (fun h=>by cases h) (fun _=>?_)
    rw[h3,Bool.false_or]at k
    exact CN c k
 refine bL ?_
 rw[e1]
 cases h1:decide (97≤c.toNat) with
 | true=>
   refine ah (fun _=>?_) (fun h=>by cases h)
   rw[h1,Bool.true_and]at k
   refine fl ?_
   rw[e2]
   cases h2:decide (c.toNat≤122) with
   | true=>
     refine ah (fun _=>?_) (fun h=>by cases h)
     rw[h2,Bool.true_or,Bool.true_or]at k;exact k
   | false=>
     refine ah (fun h=>by cases h) (fun _=>?_)
     rw[h2,Bool.false_or]at k
     exact tail rfl k
 | false=>
   refine ah (fun h=>by cases h) (fun _=>?_)
   rw[h1,Bool.false_and,Bool.false_or]at k
   exact tail rfl k
theorem WL:GA (.fn (.func kj) [] []) fj:=fun c h Q k=>S4 c k
theorem We:GA (.fn (.func dU) [] []) rN:=fun c h Q k=>CN c k
theorem yY {p:UInt8→Bool}{l:Str}:decide (((c6 p l:Nat):Int)≠((l.length:Nat):Int))=!(l.all p):=by
 rw[Bool.eq_iff_iff,decide_eq_true_eq,Bool.not_eq_true',← Bool.not_eq_true,← IU];omega
theorem Sw (s:Str) (hs:s.length<4611686018427387904) (k:Q (B (kN s)) h):C pf [T s] h Q:=by
 refine Ks _ _ _ ?_
 unfold IY
 cases s with
 | nil=>(repeat refine aV ?_);exact k
 | cons c t=>
 dsimp only[kN]at k
 (repeat (first|refine bf ?_|refine bx ?_|refine aV ?_))
 refine ah (fun hl=>?_) (fun hl=>?_)<;>simp only[za,zb,zc,zd,ze,zf,zg,zh,zi,u8i,zj,zk,zl]at hl
 ·have e:decide ((c::t).length≤12)=false:=by simp at hl ⊢;omega
  rw[e,Bool.false_and]at k
  exact k
 have e:decide ((c::t).length≤12)=true:=by simp at hl ⊢;omega
 rw[e,Bool.true_and]at k
 refine gx (by omega) (by simp) ?_
 refine CN c ?_
 cases h2:rN c with
 | true=>
   refine ah (fun _=>?_) (fun h=>by cases h)
   rw[show bu c.toNat=true from h2]at k
   exact k
 | false=>
 refine ah (fun h=>by cases h) (fun _=>?_)
 rw[show bu c.toNat=false from h2]at k
 simp only[Bool.not_false,Bool.true_and]at k
 refine tC WL _ hs ?_
 refine bf ?_
 refine cg ?_
 rw[yY]
 cases h3:(c::t).all fj with
 | false=>
   refine ah (fun _=>?_) (fun h=>by cases h)
   rw[show ((c::t).all fun c=>df c.toNat)=false from h3,Bool.false_and]at k
   exact k
 | true=>
 refine ah (fun h=>by cases h) (fun _=>?_)
 rw[show ((c::t).all fun c=>df c.toNat)=true from h3,Bool.true_and]at k
 refine gx (by omega) (by simp) ?_
 refine cg ?_
 have e4:decide ((((c::t)[Int.toNat 0].toNat:Nat):Int)≠114)=decide (c≠114):=by
  rw[Bool.eq_iff_iff];simp[← UInt8.toNat_inj];omega
 rw[e4]
 cases h4:decide (c≠114) with
 | true=>
   refine ah (fun _=>?_) (fun h=>by cases h)
   rw[h4,Bool.true_or]at k
   exact k
 | false=>
 refine ah (fun h=>by cases h) (fun _=>?_)
 rw[h4,Bool.false_or]at k
 (repeat (first|refine bf ?_|refine aA ?_))
 cases t with
 | nil=>refine ah (fun _=>?_) (fun hb=>(by exfalso;first|(simp at hb;done)|(simp at hb;omega)|(revert hb;decide)|omega));exact k
 | cons d t=>
 refine ah (fun h=>by simp at h;omega) (fun _=>?_)
 refine gY (by omega) (by simp;omega) ?_
 rw[show ((c::d::t).drop (Int.toNat 1))=d::t from rfl]
 refine tC We (d::t) (by simp at hs ⊢;omega) ?_
 refine bf ?_
 refine cw (by simp at hs ⊢;omega) ?_
 refine cg ?_
 rw[show (((c::d::t).length:Nat):Int)-1=(((d::t).length:Nat):Int) by simp,yY]
 exact k
def jT:Prop:=∀ (s:Str),1≤s.length→s.length≤2→s.all rN=true→∀ (h:ae) (Q:QT),Q (.tup [I (s.foldl (fun n c=>n*10+(c.toNat-48)) 0:Nat),.lit .nilIface]) h→C em [T s] h Q
def YC (s:Str):Nat:=s.foldl (fun n c=>n*10+(c.toNat-48)) 0
def ya (s:Str):Nat×Bool:=match s with
 | c::t=>if decide (c=114)&&(decide (t.length=1∨t.length=2)&&(t.all rN&&!(decide (t.length=2)&&decide (t.head?=some 48)))) then (YC t,decide (YC t<32)) else (0,false)
 | []=>(0,false)
theorem Mw (hA:jT) (s:Str) (hs:s.length<4611686018427387904) (k:Q (.tup [I ((ya s).1:Nat),B (ya s).2]) h):C mT [T s] h Q:=by
 refine BP _ _ _ ?_
 unfold yu
 (repeat (first|refine bf ?_|refine aJ ?_))
 cases s with
 | nil=>refine ah (fun _=>?_) (fun hb=>(by exfalso;first|(simp at hb;done)|(simp at hb;omega)|(revert hb;decide)|omega));exact k
 | cons c t=>
 dsimp only[ya]at k
 refine ah (fun h1=>?_) (fun h1=>?_)<;>simp only[za,zb,zc,zd,ze,zf,zg,zh,zi,u8i,zj,zk,zl]at h1
 ·have:t.length=0:=by simp at h1;omega
  rw[if_neg (by simp;omega)]at k
  exact k
 (repeat (first|refine bf ?_|refine bx ?_))
 refine ah (fun h2=>?_) (fun h2=>?_)<;>simp only[za,zb,zc,zd,ze,zf,zg,zh,zi,u8i,zj,zk,zl]at h2
 ·rw[if_neg (by simp at h2 ⊢;omega)]at k
  exact k
 have ht:t.length=1∨t.length=2:=by simp at h1 h2;omega
 refine gx (by omega) (by simp) ?_
 (repeat refine cg ?_)
 have e4:decide ((((c::t)[Int.toNat 0].toNat:Nat):Int)≠114)=decide (c≠114):=by
  rw[Bool.eq_iff_iff];simp[← UInt8.toNat_inj];omega
 rw[e4]
 refine ah (fun h3=>?_) (fun h3=>?_)<;>simp only[za,zb,zc,zd,ze,zf,zg,zh,zi,u8i,zj,zk,zl]at h3
 ·rw[if_neg (by simp[h3])]at k
  exact k
 have h3:c=114:=by simpa using h3
 refine gY (by omega) (by simp;omega) ?_
 rw[show ((c::t).drop (Int.toNat 1))=t from rfl]
 refine tC We t (by omega) ?_
 (repeat (first|refine bf ?_|refine cg ?_|refine cw (by omega) ?_))
 rw[show (((c::t).length:Nat):Int)-1=((t.length:Nat):Int) by simp,yY]
 cases h5:t.all rN with
 | false=>
   refine ah (fun _=>?_) (fun h=>by cases h)
   rw[if_neg (by simp[h5])]at k
   exact k
 | true=>
 refine ah (fun h=>by cases h) (fun _=>?_)
 (repeat (first|refine bf ?_|refine aA ?_))
 have fin:(!(decide (t.length=2)&&decide (t.head?=some 48)))=true→bo (T (c::t)) (some (I 1)) none fun t40=>C em [t40] h fun t41 h1=>ao 0 t41 fun t42=>ao 1 t41 fun t43=>ai .lss t42 (I 32) fun t46=>Q (.tup [t42,t46]) h1:=by
  intro hz
  refine gY (by omega) (by simp;omega) ?_
  rw[show ((c::t).drop (Int.toNat 1))=t from rfl]
  refine hA t (by omega) (by omega) h5 _ _ ?_
  (repeat (first|refine aE rfl ?_|refine aJ ?_))
  rw[if_pos (by simp only[h3,h5,hz,decide_true,Bool.true_and,Bool.and_true,decide_eq_true_eq];exact ht)]at k
  have e5:decide (((t.foldl (fun n c=>n*10+(c.toNat-48)) 0:Nat):Int)<32)=decide (YC t<32):=by
   unfold YC;rw[Bool.eq_iff_iff,decide_eq_true_eq,decide_eq_true_eq];omega
  rw[e5]
  exact k
 cases h6:decide (t.length=2) with
 | true=>
   simp only[decide_eq_true_eq]at h6
   obtain⟨a,b,rfl⟩:∃ a b,t=[a,b]:=by
    match t,h6 with
    | [a,b],_=>exact⟨a,b,rfl⟩
   have e6:decide ((([c,a,b].length:Nat):Int)=3)=true:=by simp
   rw[e6]
   refine qc (ah (fun _=>?_) (fun h=>by cases h)) ⟨_,rfl⟩
   refine gx (by omega) (by simp) ?_
   refine aA ?_
   have e7:decide ((([c,a,b][Int.toNat 1].toNat:Nat):Int)=48)=decide (a=48):=by
    rw[Bool.eq_iff_iff];simp[← UInt8.toNat_inj];omega
   rw[e7]
   refine ah (fun h8=>?_) (fun h8=>?_)<;>simp only[za,zb,zc,zd,ze,zf,zg,zh,zi,u8i,zj,zk,zl]at h8
   ·rw[if_neg (by simp[h8])]at k;exact k
   ·exact fin (by simp[h8])
 | false=>
   simp only[decide_eq_false_iff_not]at h6
   have e6:decide ((((c::t).length:Nat):Int)=3)=false:=by simp;omega
   rw[e6]
   refine qc (ah (fun h=>by cases h) (fun _=>?_)) ⟨_,rfl⟩
   exact fin (by simp[h6])
def bX (s:Str):List Str:=if s=[] then [] else (bJ 44 s).map sT
theorem je (c:UInt8):∀ (l x:Str),x∈bJ c l→x.length≤l.length
 | [],x,h=>by simp[bJ]at h;subst h;simp
 | a::l,x,h=>by
   unfold bJ at h
   split at h
   ·rcases List.mem_cons.1 h with rfl|h
    ·simp
    ·have:=je c l x h;simp;omega
   ·cases hs:bJ c l with
    | nil=>rw[hs]at h;simp at h;subst h;simp
    | cons p ps=>
      rw[hs]at h
      rcases List.mem_cons.1 h with rfl|h
      ·have:=je c l p (by rw[hs];simp);simp;omega
      ·have:=je c l x (by rw[hs];simp[h]);simp;omega
theorem LK (hI:g6) (s:Str) (hs:s.length<4000000000) (k:∀ h',Fr [] h h'→Q (.snap (bX s).length ((bX s).flatMap sE)) h'):C m6 [T s] h Q:=by
 refine ACall.conv ?_
 refine CC _ _ _ ?_
 unfold yF
 unfold bX at k
 (repeat refine aV ?_)
 refine ah (fun hb=>?_) (fun hb=>?_)<;>simp only[za,zb,zc,zd,ze,zf,zg,zh,zi,u8i,zj,zk,zl]at hb
 ·rw[if_pos hb]at k
  exact eb (k _ (Fr.refl _ _))
 rw[if_neg hb]at k
 refine IL hI 44 s hs fun i h1 s1=>?_
 have hsum:=je 44 s
 have hlen:=i5 44 s
 have hcnt:=List.count_le_length (a:=44) (l:=s)
 generalize bJ 44 s=ps at s1 k hsum hlen ⊢
 (repeat refine Wm ?_)
 refine aP (fun n vs h'=>∃ j:Nat,vs=[I (j:Nat)]∧n+j=ps.length∧St h [] h' [(i,true,.cells (((ps.take j).map sT++ps.drop j).flatMap fun x=>[T x]))]) ps.length ⟨0,rfl,by omega,by simpa using s1⟩ ?_
 rintro n vs h2 ⟨j,rfl,hn,s2⟩
 unfold sU
 (repeat refine aJ ?_)
 have hll:((ps.take j).map sT++ps.drop j).length=ps.length:=by simp;omega
 refine ah (fun hb2=>?_) (fun hb2=>?_)<;>simp only[za,zb,zc,zd,ze,zf,zg,zh,zi,u8i,zj,zk,zl]at hb2
 ·have hj:j<ps.length:=hb2
  refine D7 hj ?_
  rw[Nat.mul_one]
  have hx:((ps.take j).map sT++ps.drop j)[j]?=some ps[j]:=by
   rw[List.getElem?_append_right (by simp;omega),List.getElem?_drop]
   have:j+(j-((ps.take j).map sT).length)=j:=by simp;omega
   rw[this];simp[hj]
  refine af (a:=T ps[j]) s2 (.head _) (by rw[Xu,List.getElem?_map,hx];rfl) ?_
  refine Ej _ (by have:=hsum _ (List.getElem_mem hj);omega) fun h3 f3=>?_
  have s3:=s2.call f3
  refine D7 hj ?_
  rw[Nat.mul_one]
  refine ay s3 .head rfl rfl rfl (by rw[gz _ 1 (fun _=>rfl),hll];omega) fun h4 s4=>?_
  rw[show (T (sT ps[j])).cells=[T (sT ps[j])] from rfl,zq (by omega)]at s4
  (repeat refine aI (by omega) ?_)
  refine⟨n-1,by omega,j+1,rfl,by omega,?_⟩
  have e:((ps.take j).map sT++ps.drop j).set j (sT ps[j])=(ps.take (j+1)).map sT++ps.drop (j+1):=by
   rw[List.set_append_right _ _ (by simp;omega),show j-((ps.take j).map sT).length=0 by simp;omega,List.drop_eq_getElem_cons hj,List.set_cons_zero,List.take_succ_eq_append_getElem hj,List.map_append,List.append_assoc];rfl
  rw[e]at s4;exact s4
 ·rw[List.take_of_length_le (by omega),List.drop_of_length_le (by omega),List.append_nil]at s2
  have:=o7 (n:=ps.length) (sz:=1) (Q:=Q) (s2.get (i:=i) (.head _)) (by rw[gz _ 1 (fun _=>rfl)];simp) (by
   have:=k _ (s2.kill .head).fr
   simpa using this)
  exact this
end
end
section
variable [Tabs]
structure Ar where
 reg:Int
 e:Ex
 deriving DecidableEq
def arE (a:Ar):List AV:=I a.reg::bq a.e
theorem bR (a:Ar):(arE a).length=5:=by simp[arE,au]
theorem Aj (a:Ar):(arE a).all AV.one=true:=by simp only[arE,List.all_cons,aX];rfl
theorem R9:∀ l:List Ar,(l.flatMap arE).all AV.one=true
 | []=>rfl
 | a::l=>by rw[List.flatMap_cons,List.all_append,Aj,R9 l];rfl
structure RS where
 lab:Str
 kind:Nat
 op:Nat
 text:Str
 args:List Ar
abbrev rdO (rs:RS) (v:AV):AObj:=.cells [I 1,T rs.lab,I (rs.kind:Nat),I (rs.op:Nat),T rs.text,v]
def RSt (h0 h:ae) (i:Nat) (rs:RS):Prop:=∃ v E,AccE 5 v rs.args.length (rs.args.flatMap arE) E∧St h0 [] h (E++[(i,true,rdO rs v)])
theorem RSt.call {h0 h h':ae}{i:Nat}{rs:RS}(r:RSt h0 h i rs) (f:Fr [] h h'):RSt h0 h' i rs:=by
 obtain⟨v,E,a,s⟩:=r
 exact⟨v,E,a,s.call f⟩
theorem AccE.mem {sz n i:Nat}{v:AV}{cs:List AV}{E:Own}{x:Nat×Bool×AObj}:x∈E++[x]:=by simp
section
variable {h0 h:ae}{Q:QT}{i:Nat}
theorem RSt.put {rs rs':RS}(r:RSt h0 h i rs) {o:Nat}{u:AV}{K:ae→Prop}(hu:u.isTup=false) (hc:u.cells.length=1) (h1:u.cells.all AV.one=true) (ho:o+1≤6) (ha:rs'.args=rs.args)
  (he:∀ v,splice [I 1,T rs.lab,I (rs.kind:Nat),I (rs.op:Nat),T rs.text,v] o u.cells=[I 1,T rs'.lab,I (rs'.kind:Nat),I (rs'.op:Nat),T rs'.text,v]) (k:∀ h',RSt h0 h' i rs'→K h'):an 1 (.ptr i o) u h K:=by
 obtain⟨v,E,a,s⟩:=r
 rcases a with ⟨a1,a2,rfl,rfl⟩|⟨a1,j,rfl,rfl⟩
 ·refine ay s (L':=[(i,true,rdO rs' (.full 0 []))]) (cs:=[I 1,T rs.lab,I (rs.kind:Nat),I (rs.op:Nat),T rs.text,.full 0 []]) (by rw[he];exact .head) hu hc h1 ho fun h' s'=>?_
  exact k h' ⟨_,[],.inl ⟨by rw[ha];exact a1,by rw[ha];exact a2,rfl,rfl⟩,s'⟩
 ·refine ay s (L':=[(j,true,.cells (rs.args.flatMap arE)),(i,true,rdO rs' (.sl j 0 rs.args.length 5))]) (cs:=[I 1,T rs.lab,I (rs.kind:Nat),I (rs.op:Nat),T rs.text,.sl j 0 rs.args.length 5]) (by rw[he];exact .tail .head) hu hc h1 ho fun h' s'=>?_
  exact k h' ⟨_,_,.inr ⟨by rw[ha];exact a1,j,by rw[ha],rfl⟩,by rw[ha];exact s'⟩
theorem RSt.load {rs:RS}(r:RSt h0 h i rs) {o:Nat}{a:AV}{K:AV→Prop}(ho:∀ v,[I 1,T rs.lab,I (rs.kind:Nat),I (rs.op:Nat),T rs.text,v][o]?=some a) (k:K a):ag (.ptr i o) h K:=by
 obtain⟨v,E,a,s⟩:=r
 exact af s (List.mem_append_right _ (.head _)) (ho v) k
inductive Way where
 | value
 | reg
 | word
abbrev ZQ:Way→FuncId
 | .value=>bF
 | .reg=>d9
 | .word=>fY
def GQ (i:Nat) (w:Way):List AV:=[.fn (.func (ZQ w)) [.ptr i 0] []]
def jH:Way→Str→RS→RS×Bool
 | .value,s,rs=>match gD s with
   | some x=>({ rs with args:=rs.args++[⟨-1,x⟩] },true)
   | none=>({ rs with args:=rs.args++[⟨-1,.none⟩] },false)
 | .reg,s,rs=>({ rs with args:=rs.args++[⟨(ya s).1,.none⟩] },(ya s).2)
 | .word,s,rs=>({ rs with text:=s },kN s)
theorem It (w:Way) (s:Str) (rs:RS):(jH w s rs).1.args.length≤rs.args.length+1:=by
 cases w<;>simp only[jH]
 ·cases gD s<;>simp
 ·simp
 ·simp
theorem aau (hA:jT) (w:Way) (s:Str) (hs:s.length<4000000000) {rs:RS}(hn:rs.args.length<1000) (r:RSt h0 h i rs) (k:∀ h',RSt h0 h' i (jH w s rs).1→Q (B (jH w s rs).2) h'):C (ZQ w) [.ptr i 0,T s] h Q:=by
 cases w with
 | value=>
   show C bF _ _ _
   refine vW _ _ _ _ ?_
   unfold qG
   have fin:∀ (x:Ex) (b:Bool) (h1:ae),Fr [] h h1→jH .value s rs=({ rs with args:=rs.args++[⟨-1,x⟩] },b)→cP [(I 0),(I 0),(S ⟨#[]⟩),(.full 0 [])] h1 fun t5 h1=>an 4 t5 (.agg (bq x)) h1 fun h2=>aF (.ptr i 0) fun t14=>ab 0 t14 fun t15=>ab 5 t15 fun t16=>ag t16 h2 fun t17=>aq 4 t5 h2 fun t18=>ax [(I 0),(I 0),(I 0),(S ⟨#[]⟩),(.full 0 [])] [(0,1,(I (-1))),(1,4,t18)] fun t19=>am 1 5 [t19] fun t20=>bl 5 64 t17 t20 h2 fun t21 h3=>aF (.ptr i 0) fun t22=>ab 0 t22 fun t23=>ab 5 t23 fun t24=>an 1 t24 t21 h3 fun h4=>Q (B b) h4:=by
    intro x b h1 f1 hst
    obtain⟨v,E,a,s1⟩:=r.call f1
    refine aQ s1 fun q h2 s2=>?_
    refine aM s2 rfl (au _) (aX _) .head fun h3 s3=>?_
    have s4:=s3.drop1
    refine aw (aj (aj (af s4 (cs:=[I 1,T rs.lab,I (rs.kind:Nat),I (rs.op:Nat),T rs.text,v]) (b:=true) (List.mem_append_right _ (.head _)) rfl ?_)))
    refine aK s3 (au _) (.head _) ?_
    refine aD (cs:=arE ⟨-1,x⟩) ?_ ?_
    ·obtain⟨c1,c2,c3,c4,e4⟩:=YV (au x)
     simp only[arE,e4]
     rfl
    refine aB rfl (by simp[AV.isTup,AV.cells,bR]) ?_
    rw[show ([AV.agg (arE ⟨-1,x⟩)].flatMap fun x=>x.cells)=arE ⟨-1,x⟩ by simp[AV.cells]]
    refine a.app s4 (xs:=arE ⟨-1,x⟩) (m:=1) (Rd.full (by rw[bR])) (Aj _) (by omega) fun v' E' h5 a5 s5=>?_
    refine aw (aj (aj ?_))
    rw[hst]at k
    rcases a5 with ⟨a1,a2,rfl,rfl⟩|⟨a1,j,rfl,rfl⟩
    ·simp at a1
    ·refine ay s5 (L':=[(j,true,.cells (rs.args.flatMap arE++arE ⟨-1,x⟩)),(i,true,rdO { rs with args:=rs.args++[⟨-1,x⟩] } (.sl j 0 (rs.args.length+1) 5))]) (cs:=[I 1,T rs.lab,I (rs.kind:Nat),I (rs.op:Nat),T rs.text,v]) (.tail .head) rfl rfl rfl (nle rfl) fun h6 s6=>?_
     exact k h6 ⟨.sl j 0 (rs.args.length+1) 5,[(j,true,.cells (rs.args.flatMap arE++arE ⟨-1,x⟩))],.inr ⟨by simpa using a1,j,by simp,by simp⟩,s6⟩
   refine VC s (fun x hx h1 f1=>?_) (fun hx h1 f1=>?_)
   ·(repeat refine aE rfl ?_)
    exact fin x true h1 f1 (by simp[jH,hx])
   ·(repeat refine aE rfl ?_)
    exact fin .none false h1 f1 (by simp[jH,hx])
 | reg=>
   show C d9 _ _ _
   refine sM _ _ _ _ ?_
   unfold nQ
   refine Mw hA s (by omega) ?_
   (repeat (first|refine aw ?_|refine aj ?_|refine aE rfl ?_))
   obtain⟨v,E,a,s1⟩:=r
   refine af s1 (cs:=[I 1,T rs.lab,I (rs.kind:Nat),I (rs.op:Nat),T rs.text,v]) (b:=true) (List.mem_append_right _ (.head _)) rfl ?_
   refine aD (cs:=arE ⟨(ya s).1,.none⟩) rfl ?_
   refine aB rfl (by simp[AV.isTup,AV.cells,bR]) ?_
   rw[show ([AV.agg (arE ⟨(ya s).1,.none⟩)].flatMap fun x=>x.cells)=arE ⟨(ya s).1,.none⟩ by simp[AV.cells]]
   refine a.app s1 (xs:=arE ⟨(ya s).1,.none⟩) (m:=1) (Rd.full (by rw[bR])) (Aj _) (by omega) fun v' E' h5 a5 s5=>?_
   refine aw (aj (aj ?_))
   rcases a5 with ⟨a1,a2,rfl,rfl⟩|⟨a1,j,rfl,rfl⟩
   ·simp at a1
   ·refine ay s5 (L':=[(j,true,.cells (rs.args.flatMap arE++arE ⟨(ya s).1,.none⟩)),(i,true,rdO { rs with args:=rs.args++[⟨(ya s).1,.none⟩] } (.sl j 0 (rs.args.length+1) 5))]) (cs:=[I 1,T rs.lab,I (rs.kind:Nat),I (rs.op:Nat),T rs.text,v]) (.tail .head) rfl rfl rfl (nle rfl) fun h6 s6=>?_
    exact k h6 ⟨.sl j 0 (rs.args.length+1) 5,[(j,true,.cells (rs.args.flatMap arE++arE ⟨(ya s).1,.none⟩))],.inr ⟨by simpa [jH] using a1,j,by simp[jH],by simp[jH]⟩,s6⟩
 | word=>
   show C fY _ _ _
   refine x5 _ _ _ _ ?_
   unfold tm
   (repeat (first|refine aw ?_|refine aj ?_))
   refine r.put (rs':={ rs with text:=s }) rfl rfl rfl (by omega) rfl (fun v=>rfl) fun h1 r1=>?_
   refine Sw s (by omega) ?_
   exact k h1 r1
def goW:List Way→List Str→RS→RS×Bool
 | w::ws,s::ss,rs=>if (jH w s rs).2=true then goW ws ss (jH w s rs).1 else ((jH w s rs).1,false)
 | _,_,rs=>(rs,true)
def nM (l:List Str) (ws:List Way) (rs:RS):RS×Bool:=if l.length=ws.length then goW ws l rs else (rs,false)
theorem Qh (hA:jT) (l:List Str) (hl:l.length<4000000000) (hs:∀ s∈l,s.length<4000000000) (ws:List Way) (hw:ws.length<900) {rs:RS}(hn:rs.args.length=0) (r:RSt h0 h i rs) {v1 v2:AV}
  (R1:∀ h',Row sE 1 h' v1 l) (R2:∀ h',Row (GQ i) 1 h' v2 ws) (k:∀ h',RSt h0 h' i (nM l ws rs).1→Q (B (nM l ws rs).2) h'):C fK [v1,v2] h Q:=by
 refine OD _ _ _ _ ?_
 unfold LP
 refine (R1 h).len ?_
 refine (R2 h).len ?_
 refine aA ?_
 have e1:decide (((l.length:Nat):Int)=((ws.length:Nat):Int))=decide (l.length=ws.length):=ZX
 rw[e1]
 unfold nM at k
 by_cases hlen:l.length=ws.length
 ·rw[if_pos hlen]at k
  rw[decide_eq_true hlen]
  refine aP (fun n vs h'=>∃ (j:Nat) (b:Bool) (rs':RS),vs=[B b,I (j:Nat)]∧n+j=ws.length∧RSt h0 h' i rs'∧rs'.args.length≤j∧
   goW ws l rs=(if b=true then goW (ws.drop j) (l.drop j) rs' else (rs',false))) ws.length ⟨0,true,rs,rfl,by omega,r,by omega,rfl⟩ ?_
  rintro n vs h' ⟨j,b,rs',rfl,hn2,r2,ha,hg⟩
  unfold xf
  refine (R2 h').len ?_
  (repeat refine aJ ?_)
  refine ah (fun hb=>?_) (fun hb=>?_)<;>simp only[za,zb,zc,zd,ze,zf,zg,zh,zi,u8i,zj,zk,zl]at hb
  ·have hj:j<ws.length:=hb
   cases b with
   | true=>
     refine ah (fun _=>?_) (fun h=>by cases h)
     refine (R2 h').idx (fun _=>rfl) hj fun p t=>?_
     refine aH t ?_
     refine (R1 h').idx (fun _=>rfl) (show j<l.length by omega) fun p t=>?_
     refine aH t ?_
     show ACall Pg (ZQ ws[j]) [.ptr i 0,T l[j]] h' _
     rw[if_pos rfl,List.drop_eq_getElem_cons hj,List.drop_eq_getElem_cons (show j<l.length by omega),goW]at hg
     have hsl:=It ws[j] l[j] rs'
     refine aau hA ws[j] l[j] (hs _ (by simp)) (by omega) r2 fun h3 r3=>?_
     (repeat refine aI (by omega) ?_)
     refine⟨n-1,by omega,j+1,_,_,rfl,by omega,r3,by omega,hg⟩
   | false=>
     refine ah (fun h=>by cases h) (fun _=>?_)
     rw[if_neg (by simp)]at hg
     rw[hg]at k
     exact k h' r2
  ·have hj:ws.length≤j:=by omega
   cases b with
   | true=>
     rw[if_pos rfl,List.drop_of_length_le hj,List.drop_of_length_le (by omega)]at hg
     rw[hg]at k
     exact k h' r2
   | false=>
     rw[if_neg (by simp)]at hg
     rw[hg]at k
     exact k h' r2
 ·rw[if_neg hlen]at k
  rw[decide_eq_false hlen]
  refine aP (fun n vs h'=>vs=[B false,I 0]∧h'=h) 0 ⟨rfl,rfl⟩ ?_
  rintro n vs h' ⟨rfl,rfl⟩
  unfold xf
  refine (R2 h').len ?_
  (repeat refine aJ ?_)
  refine ah (fun hb=>?_) (fun hb=>?_)<;>simp only[za,zb,zc,zd,ze,zf,zg,zh,zi,u8i,zj,zk,zl]at hb
  ·refine ah (fun h=>by cases h) (fun _=>?_)
   exact k h' r
  ·exact k h' r
end
end
section
variable [Tabs]
section
variable {h0 h:ae}{M:List Nat}{L L':Own}{Q:QT}{i:Nat}
theorem St.join {h':ae}(s:St h0 M h L) (s':St h [] h' L') (ht:∀ e∈L',e.2.1=true):St h0 M h' (L'++L) where
 fr:=s.fr.trans s'.fr (by simp)
 at_ e he:=by
  rcases List.mem_append.1 he with he|he
  ·exact s'.at_ e he
  ·exact s'.fr.get (s.at_ e he) (by simp)
 own e he hb hl:=by
  rcases List.mem_append.1 he with he|he
  ·have:=s'.own e he hb (Nat.lt_of_lt_of_le hl s.fr.len);simp at this
  ·exact s.own e he hb hl
 nd:=by
  rw[List.map_append,List.nodup_append]
  refine⟨s'.nd,s.nd,fun a ha b hb hab=>?_⟩
  subst hab
  rw[List.mem_map]at ha hb
  obtain⟨x,hx,rfl⟩:=ha
  obtain⟨y,hy,hxy⟩:=hb
  have h1:=jc (s.at_ y hy)
  have h2:=s'.own x hx (ht x hx) (by omega)
  simp at h2
theorem AccE.own {sz n:Nat}{v:AV}{cs:List AV}{E:Own}(a:AccE sz v n cs E):∀ e∈E,e.2.1=true:=by
 rcases a with ⟨_,_,_,rfl⟩|⟨_,j,_,rfl⟩<;>simp
theorem Y7 (fv:AV) (h1:fv.one=true) (hc:fv.cells=[fv]) (ht:fv.isTup=false) (n:Nat) (hn:n<1000) (k:∀ v E h',AccE 1 v n (List.replicate n fv) E→St h [] h' E→Q v h'):C jl [fv,I (n:Nat)] h Q:=by
 refine KA _ _ _ _ ?_
 unfold Ig
 refine aP (fun m vs h'=>∃ (j:Nat) (v:AV) (E:Own),vs=[v,I (j:Nat)]∧m+j=n∧AccE 1 v j (List.replicate j fv) E∧St h [] h' (E++[])) n ⟨0,.full 0 [],[],rfl,by omega,.none 1,St.start h⟩ ?_
 rintro m vs h' ⟨j,v,E,rfl,hm,a,s⟩
 unfold A5
 (repeat refine aJ ?_)
 refine ah (fun hb=>?_) (fun hb=>?_)<;>simp only[za,zb,zc,zd,ze,zf,zg,zh,zi,u8i,zj,zk,zl]at hb
 ·have hj:j<n:=hb
  refine aB rfl (by simp[ht,hc]) ?_
  rw[show ([fv].flatMap fun x=>x.cells)=[fv] by simp[hc]]
  refine a.app s (xs:=[fv]) (m:=1) (Rd.full rfl) (by simp[h1]) (by omega) fun v' E' h3 a3 s3=>?_
  (repeat refine aI (by omega) ?_)
  refine⟨m-1,by omega,j+1,v',E',rfl,by omega,?_,s3⟩
  rw[List.replicate_succ'];exact a3
 ·have hj:j=n:=by omega
  subst hj
  exact k v E h' a (by simpa using s)
theorem Ns (k:Nat) (cs:List AV):∀ l:List Str,fzL k cs (l.flatMap sE)=l.flatMap sE
 | []=>rfl
 | x::l=>by
   rw[List.flatMap_cons]
   show fz k cs (T x)::fzL k cs (l.flatMap sE)=_
   rw[Ns k cs l];rfl
theorem IM (hA:jT) (l:List Str) (hl:l.length<4000000000) (hs:∀ s∈l,s.length<4000000000) (ws:List Way) (hw:ws.length<900) {rs:RS}(hn:rs.args.length=0) {v:AV}{E:Own}(a:AccE 1 v ws.length (ws.flatMap (GQ i)) E)
  {v0:AV} {E0:Own} (a0:AccE 5 v0 rs.args.length (rs.args.flatMap arE) E0) (s:St h0 [] h (E++(E0++[(i,true,rdO rs v0)]))) (k:∀ h',RSt h0 h' i (nM l ws rs).1→Q (B (nM l ws rs).2) h'):C fK [.snap l.length (l.flatMap sE),v] h Q:=by
 rcases a with ⟨a1,a2,rfl,rfl⟩|⟨a1,j,rfl,rfl⟩
 ·have:ws=[]:=List.length_eq_zero_iff.1 a1
  subst this
  exact Qh hA l hl hs [] hw hn ⟨v0,E0,a0,s⟩ (fun h'=>Row.snap (enc:=sE) (fun _=>rfl) l) (fun h'=>.nil) k
 ·refine ACall.frzArg (s.get (.head _)) ?_
  simp only[fzL,fz]
  rw[if_pos ⟨trivial,by omega⟩,Ns,List.drop_zero,List.take_of_length_le (by omega)]
  exact Qh hA l hl hs ws hw hn ⟨v0,E0,a0,s.kill .head⟩ (fun h'=>Row.snap (enc:=sE) (fun _=>rfl) l) (fun h'=>Row.snap (enc:=GQ i) (fun _=>rfl) ws) k
theorem DW (hI:g6) (s sub:Str) (hs:s.length<4294967281) (k:Q (B (decide (0≤Lib.index s sub))) h):C jQ [T s,T sub] h Q:=by
 refine xV _ _ _ _ ?_
 unfold tA
 refine hI s sub _ _ hs ?_
 (repeat refine bL ?_)
 exact k
def ln (k:Str):Way:=if decide (0≤Lib.index [32,88,32,89,32,68,32,65,32,66,32] ([32]++k++[32]))=true then .reg else .value
theorem Ta:∀ r∈tbl,∀ k∈cK r.kinds,k.length<10:=by decide
theorem G8 (hF:cD) (hI:g6) (hA:jT) {rs:RS}(ho:rs.op<tbl.length) (hn:rs.args.length=0) (r:RSt h0 h i rs) (l:List Str) (hl:l.length<4000000000) (hs:∀ s∈l,s.length<4000000000)
  (k:∀ h',RSt h0 h' i (nM l ((cK (bj rs.op)).map ln) rs).1→Q (B (nM l ((cK (bj rs.op)).map ln) rs).2) h'):C eO [.ptr i 0,.snap l.length (l.flatMap sE)] h Q:=by
 refine pK _ _ _ _ ?_
 unfold k9
 (repeat (first|refine aw ?_|refine aj ?_))
 refine r.load (a:=I (rs.op:Nat)) (fun v=>rfl) ?_
 refine L9 ho fun h1 f1=>?_
 rw[iR ho]
 have hmem:tbl[rs.op]∈tbl:=by simp
 refine B9 hF hmem ?_
 have hk1:=Cu _ hmem
 have hk2:=Ta _ hmem
 rw[← iR ho]at hk1 hk2 ⊢
 have r1:=r.call f1
 generalize cK (bj rs.op)=ks at k hk1 hk2 ⊢
 have RK:∀ h,Row sE 1 h (.snap ks.length (ks.flatMap fun x=>[T x])) ks:=fun h=>Row.snap (enc:=sE) (fun _=>rfl) ks
 obtain⟨v0,E0,a0,s0⟩:=r1
 (repeat refine cE ?_)
 refine aP (fun m vs h'=>∃ (j:Nat) (v:AV) (E:Own),vs=[v,I (j:Nat)]∧m+j=ks.length∧AccE 1 v j (((ks.take j).map ln).flatMap (GQ i)) E∧St h0 [] h' (E++(E0++[(i,true,rdO rs v0)]))) ks.length ⟨0,.full 0 [],[],rfl,by omega,.none 1,s0⟩ ?_
 rintro m vs h' ⟨j,v,E,rfl,hm,a,s⟩
 unfold iO
 (repeat refine aJ ?_)
 refine ah (fun hb=>?_) (fun hb=>?_)<;>simp only[za,zb,zc,zd,ze,zf,zg,zh,zi,u8i,zj,zk,zl]at hb
 ·have hj:j<ks.length:=hb
  refine (RK h').idx (fun _=>rfl) hj fun p t=>?_
  refine aH t ?_
  have hkl:=hk2 ks[j] (by simp)
  refine d3 (by simp;omega) ?_
  refine d3 (by simp;omega) ?_
  refine DW hI _ _ (by decide) ?_
  have hnext:((ks.take (j+1)).map ln).flatMap (GQ i)=((ks.take j).map ln).flatMap (GQ i)++GQ i (ln ks[j]):=by
   rw[List.take_succ_eq_append_getElem hj,List.map_append,List.flatMap_append];simp[List.flatMap_cons]
  refine ah (fun hc=>?_) (fun hc=>?_)
  ·refine aB rfl rfl ?_
   refine a.app s (xs:=GQ i .reg) (m:=1) (Rd.full rfl) rfl (by omega) fun v' E' h3 a3 s3=>?_
   unfold dr eU
   refine aI (by omega) ?_
   refine⟨m-1,by omega,j+1,v',E',rfl,by omega,?_,s3⟩
   rw[hnext,show ln ks[j]=.reg by unfold ln;rw[if_pos hc]];exact a3
  ·refine aB rfl rfl ?_
   refine a.app s (xs:=GQ i .value) (m:=1) (Rd.full rfl) rfl (by omega) fun v' E' h3 a3 s3=>?_
   unfold dr eU
   refine aI (by omega) ?_
   refine⟨m-1,by omega,j+1,v',E',rfl,by omega,?_,s3⟩
   rw[hnext,show ln ks[j]=.value by unfold ln;rw[if_neg (by rw[hc];simp)]];exact a3
 ·have hj:j=ks.length:=by omega
  subst hj
  rw[List.take_length]at a
  refine IM hA l hl hs (ks.map ln) (by simp;omega) hn (v:=v) (E:=E) (by simpa using a) a0 s k
def okC (c:UInt8):Bool:=decide (32≤c.toNat)&&(decide (c.toNat≤126)&&decide (c≠34))
theorem aaC:GA (.fn (.func eH) [] []) okC:=fun c h Q k=>by
 show ACall Pg eH [U8 c] h Q
 refine uD _ _ _ ?_
 unfold ow
 have e1:decide ((32:Int)≤c.toNat)=decide (32≤c.toNat):=vc (a:=32)
 have e2:decide ((c.toNat:Int)≤126)=decide (c.toNat≤126):=vc (b:=126)
 have e3:decide ((c.toNat:Int)≠34)=decide (c≠34):=by rw[Bool.eq_iff_iff];simp[← UInt8.toNat_inj];omega
 unfold okC at k
 refine bL ?_
 rw[e1]
 cases h1:decide (32≤c.toNat) with
 | true=>
   refine ah (fun _=>?_) (fun h=>by cases h)
   rw[h1,Bool.true_and]at k
   refine fl ?_
   rw[e2]
   cases h2:decide (c.toNat≤126) with
   | true=>
     refine ah (fun _=>?_) (fun h=>by cases h)
     rw[h2,Bool.true_and]at k
     refine cg ?_
     rw[e3];exact k
   | false=>
     refine ah (fun h=>by cases h) (fun _=>?_)
     rw[h2,Bool.false_and]at k;exact k
 | false=>
   refine ah (fun h=>by cases h) (fun _=>?_)
   rw[h1,Bool.false_and]at k;exact k
def y6 (s:Str) (rs:RS):RS×Bool:=
 if s.length<2∨62<s.length∨s[0]?≠some 34∨s[s.length-1]?≠some 34 then (rs,false)
 else ({ rs with text:=(s.drop 1).take (s.length-2) },((s.drop 1).take (s.length-2)).all okC)
theorem XX (s:Str) {rs:RS}(r:RSt h0 h i rs) (k:∀ h',RSt h0 h' i (y6 s rs).1→Q (B (y6 s rs).2) h'):C jg [.ptr i 0,T s] h Q:=by
 refine wN _ _ _ _ ?_
 unfold qE
 unfold y6 at k
 (repeat (first|refine bf ?_|refine aJ ?_))
 refine ah (fun h1=>?_) (fun h1=>?_)<;>simp only[za,zb,zc,zd,ze,zf,zg,zh,zi,u8i,zj,zk,zl]at h1
 ·rw[if_pos (.inl (by omega))]at k;exact k h r
 (repeat (first|refine bf ?_|refine bx ?_))
 refine ah (fun h2=>?_) (fun h2=>?_)<;>simp only[za,zb,zc,zd,ze,zf,zg,zh,zi,u8i,zj,zk,zl]at h2
 ·rw[if_pos (.inr (.inl (by omega)))]at k;exact k h r
 have hl1:2≤s.length:=by omega
 have hl2:s.length≤62:=by omega
 refine gx (by omega) (by simp;omega) ?_
 refine cg ?_
 have c34:∀ c:UInt8,decide ((c.toNat:Int)≠34)=decide (c≠34):=fun c=>by rw[Bool.eq_iff_iff];simp[← UInt8.toNat_inj];omega
 rw[c34]
 refine ah (fun h3=>?_) (fun h3=>?_)<;>simp only[za,zb,zc,zd,ze,zf,zg,zh,zi,u8i,zj,zk,zl]at h3
 ·rw[if_pos (.inr (.inr (.inl (by rw[List.getElem?_eq_getElem (by omega)];simpa using h3))))]at k;exact k h r
 have h3:s[0]?=some 34:=by rw[List.getElem?_eq_getElem (by omega)];simpa using h3
 (repeat (first|refine bf ?_|refine cw (by omega) ?_))
 refine gx (by omega) (by omega) ?_
 refine cg ?_
 rw[c34]
 have e1:((s.length:Int)-1).toNat=s.length-1:=by omega
 refine ah (fun h4=>?_) (fun h4=>?_)<;>simp only[za,zb,zc,zd,ze,zf,zg,zh,zi,u8i,zj,zk,zl]at h4
 ·rw[if_pos (.inr (.inr (.inr (by rw[List.getElem?_eq_getElem (by omega)];simp only[e1]at h4;simpa using h4))))]at k;exact k h r
 have h4:s[s.length-1]?=some 34:=by rw[List.getElem?_eq_getElem (by omega)];simp only[e1]at h4;simpa using h4
 rw[if_neg (by rintro (h|h|h|h)<;>first|omega|exact h h3|exact h h4)]at k
 (repeat (first|refine bf ?_|refine cw (by omega) ?_))
 refine F2 (by omega) (by omega) (by omega) ?_
 rw[e1,show s.length-1-Int.toNat 1=s.length-2 by simp;omega,show Int.toNat 1=1 from rfl]
 (repeat (first|refine aw ?_|refine aj ?_))
 refine r.put (rs':={ rs with text:=(s.drop 1).take (s.length-2) }) rfl rfl rfl (by omega) rfl (fun v=>rfl) fun h5 r5=>?_
 (repeat (first|refine aw ?_|refine aj ?_))
 refine r5.load (a:=T ((s.drop 1).take (s.length-2))) (fun v=>rfl) ?_
 (repeat (first|refine aw ?_|refine aj ?_))
 refine r5.load (a:=T ((s.drop 1).take (s.length-2))) (fun v=>rfl) ?_
 (repeat refine bf ?_)
 refine tC aaC _ (by simp;omega) ?_
 refine⟨r5.load (fun v=>rfl) rfl,?_⟩
 refine aA ?_
 have e2:decide (((c6 okC ((s.drop 1).take (s.length-2)):Nat):Int)=((((s.drop 1).take (s.length-2)).length:Nat):Int))=((s.drop 1).take (s.length-2)).all okC:=by
  rw[Bool.eq_iff_iff,decide_eq_true_eq,← IU];omega
 rw[e2]
 exact k h5 r5
end
end
section
variable [Tabs]
section
variable {h0 h:ae}{Q:QT}{i:Nat}
def growsL:List Str:=[[98],[98,108],[98,99]]
def datasL:List Str:=[[46,98,121,116,101],[46,104,97,108,102],[46,108,111,110,103]]
def spacesL:List Str:=[[46,97,108,105,103,110],[46,115,112,97,99,101]]
def kC (s:Str) (l:List Str):Int:=fC (fun y=>decide (s=y)) l
theorem V4 (k:Q (.full growsL.length (growsL.flatMap sE)) h):C rz [] h Q:=by
 refine Ht _ _ ?_
 unfold Ff
 (repeat refine aB rfl rfl ?_)
 exact k
def vU (name rest:Str) (rs:RS):RS×Bool:=
 match mK name with
 | some op=>nM (bX rest) ((cK (bj op)).map ln) { rs with kind:=1,op:=op }
 | none=>
   if 0≤kC name growsL then nM (bX rest) (List.replicate (1+(kC name growsL).toNat / 2*2) .value) { rs with kind:=2,op:=(kC name growsL).toNat }
   else if 0≤kC name datasL then (if 1≤(bX rest).length∧(bX rest).length≤16 then nM (bX rest) (List.replicate (bX rest).length .value) { rs with kind:=3+(kC name datasL).toNat } else ({ rs with kind:=3+(kC name datasL).toNat },false))
   else if name=[46,97,115,99,105,105] then y6 rest { rs with kind:=6 }
   else if 0≤kC name spacesL then nM (bX rest) [.value] { rs with kind:=7+(kC name spacesL).toNat }
   else if name=[46,101,113,117] then nM (bX rest) [.word,.value] { rs with kind:=9 }
   else (rs,false)
theorem FQ (s:Str) (hs:s.length<3000000000):(bX s).length<4000000000∧∀ x∈bX s,x.length<4000000000:=by
 unfold bX
 split
 ·simp
 ·have h1:=i5 44 s
  have h2:=List.count_le_length (a:=(44:UInt8)) (l:=s)
  refine⟨by simp;omega,fun x hx=>?_⟩
  rw[List.mem_map]at hx
  obtain⟨y,hy,rfl⟩:=hx
  have h3:=je 44 s y hy
  have h4:=p9 y
  omega
theorem Cg {s:Str}{op:Nat}(h:mK s=some op):op<tbl.length:=by
 unfold mK at h
 rw[List.findIdx?_eq_some_iff_getElem]at h
 exact h.1
theorem uy (s:Str) (l:List Str):-1≤kC s l∧(kC s l).toNat≤l.length∧(0≤kC s l→(kC s l).toNat<l.length):=by
 unfold kC fC
 cases h:l.findIdx? fun y=>decide (s=y) with
 | none=>simp
 | some j=>
   rw[List.findIdx?_eq_some_iff_getElem]at h
   have:=h.1
   simp;omega
theorem Hx (n:Nat):List.replicate n (AV.fn (.func bF) [.ptr i 0] [])=(List.replicate n Way.value).flatMap (GQ i):=by
 induction n with
 | zero=>rfl
 | succ n ih=>rw[List.replicate_succ,List.replicate_succ,List.flatMap_cons,ih];rfl
theorem BW (hA:jT) (l:List Str) (hl:l.length<4000000000) (hs:∀ s∈l,s.length<4000000000) (n:Nat) (hn:n<100) {rs:RS}(ha:rs.args.length=0) (r:RSt h0 h i rs)
  (k:∀ h',RSt h0 h' i (nM l (List.replicate n .value) rs).1→Q (B (nM l (List.replicate n .value) rs).2) h'):
  C jl [(.fn (.func bF) [.ptr i 0] []),I (n:Nat)] h fun t h9=>C fK [.snap l.length (l.flatMap sE),t] h9 Q:=by
 refine Y7 _ rfl rfl rfl n (by omega) fun v E h' a s=>?_
 obtain⟨v0,E0,a0,s0⟩:=r
 have sj:=s0.join s a.own
 exact IM hA l hl hs (List.replicate n .value) (by simp;omega) ha (v:=v) (E:=E) (by rw[← Hx];simpa using a) a0 sj k
theorem J4 (hF:cD) (hI:g6) (hA:jT) (name rest:Str) (hr:rest.length<3000000000) {rs:RS}(ha:rs.args=[]) (r:RSt h0 h i rs) (k:∀ h',RSt h0 h' i (vU name rest rs).1→Q (B (vU name rest rs).2) h'):
  C fR [.ptr i 0,T name,T rest] h Q:=by
 refine rS _ _ _ _ _ ?_
 unfold mB
 refine LK hI rest (by omega) fun h1 f1=>?_
 have r1:=r.call f1
 obtain⟨hol,hos⟩:=FQ rest hr
 refine Ro name fun h2 f2=>?_
 have r2:=r1.call f2
 have ha0:rs.args.length=0:=by rw[ha];rfl
 unfold vU at k
 (repeat refine aE rfl ?_)
 cases hf:mK name with
 | some op=>
   rw[hf]at k
   refine ah (fun _=>?_) (fun h=>by cases h)
   (repeat (first|refine aw ?_|refine aj ?_))
   refine r2.put (rs':={ rs with kind:=1 }) rfl rfl rfl (by omega) rfl (fun v=>rfl) fun h3 r3=>?_
   (repeat (first|refine aw ?_|refine aj ?_))
   refine r3.put (rs':={ rs with kind:=1,op:=op }) rfl rfl rfl (by omega) rfl (fun v=>rfl) fun h4 r4=>?_
   exact G8 hF hI hA (rs:={ rs with kind:=1,op:=op }) (Cg hf) ha0 r4 _ hol hos k
 | none=>
 rw[hf]at k
 simp only at k
 refine ah (fun h=>by cases h) (fun _=>?_)
 refine V4 ?_
 refine kG name growsL (by decide) (Row.full (enc:=sE) (fun _=>rfl) growsL) ?_
 obtain⟨g1,g2,g3⟩:=uy name growsL
 rw[show fC (fun y=>decide (name=y)) growsL=kC name growsL from rfl]
 generalize hgi:kC name growsL=gi at k g1 g2 g3 ⊢
 (repeat refine bL ?_)
 refine ah (fun hg=>?_) (fun hg=>?_)<;>simp only[za,zb,zc,zd,ze,zf,zg,zh,zi,u8i,zj,zk,zl]at hg
 ·rw[if_pos hg]at k
  have g3:=g3 hg
  have:growsL.length=3:=rfl
  (repeat (first|refine aw ?_|refine aj ?_))
  refine r2.put (rs':={ rs with kind:=2 }) rfl rfl rfl (by omega) rfl (fun v=>rfl) fun h3 r3=>?_
  (repeat (first|refine aw ?_|refine aj ?_))
  obtain⟨n,rfl⟩:∃ n:Nat,gi=n:=⟨gi.toNat,by omega⟩
  rw[Int.toNat_natCast]at k g3
  refine r3.put (rs':={ rs with kind:=2,op:=n }) rfl rfl rfl (by omega) rfl (fun v=>rfl) fun h4 r4=>?_
  have hq:(n:Int).tdiv 2=((n / 2:Nat):Int):=by rw[Int.tdiv_eq_ediv_of_nonneg (by omega)];omega
  refine tJ (by decide) (by rw[hq];omega) ?_
  rw[hq]
  refine uH (by omega) ?_
  refine aI (by omega) ?_
  have e1:(1:Int)+((n / 2:Nat):Int)*2=((1+n / 2*2:Nat):Int):=by omega
  rw[e1]
  exact BW hA _ hol hos _ (by omega) (rs:={ rs with kind:=2,op:=n }) ha0 r4 k
 rw[if_neg (by omega)]at k
 have hdat:∀ d:Nat,kC name datasL=d→cf (B true) (T name) (.snap (bX rest).length ((bX rest).flatMap sE)) (.ptr i 0) (T name) (T rest) h2 Q:=by
  intro d hd
  have hd3:d<3:=by
   have:=uy name datasL
   have h3:datasL.length=3:=rfl
   omega
  rw[hd,if_pos (by omega),Int.toNat_natCast]at k
  unfold cf
  refine ah (fun _=>?_) (fun h=>by cases h)
  refine aB rfl rfl ?_
  refine kG name datasL (by decide) (Row.full (enc:=sE) (fun _=>rfl) datasL) ?_
  rw[show fC (fun y=>decide (name=y)) datasL=kC name datasL from rfl,hd]
  refine aI (by omega) ?_
  have e1:(3:Int)+(d:Int)=((3+d:Nat):Int):=by omega
  rw[e1]
  (repeat (first|refine aw ?_|refine aj ?_))
  refine r2.put (rs':={ rs with kind:=3+d }) rfl rfl rfl (by omega) rfl (fun v=>rfl) fun h3 r3=>?_
  (repeat (first|refine cE ?_|refine bL ?_))
  refine ah (fun hn1=>?_) (fun hn1=>?_)<;>simp only[za,zb,zc,zd,ze,zf,zg,zh,zi,u8i,zj,zk,zl]at hn1
  ·(repeat (first|refine cE ?_|refine fl ?_))
   refine ah (fun hn2=>?_) (fun hn2=>?_)<;>simp only[za,zb,zc,zd,ze,zf,zg,zh,zi,u8i,zj,zk,zl]at hn2
   ·rw[if_pos ⟨by omega,by omega⟩]at k
    (repeat refine cE ?_)
    exact BW hA _ hol hos _ (by omega) (rs:={ rs with kind:=3+d }) ha0 r3 k
   ·rw[if_neg (by omega)]at k
    exact k h3 r3
  ·rw[if_neg (by omega)]at k
   exact k h3 r3
 refine aV ?_
 refine ah (fun hb1=>?_) (fun hb1=>?_)<;>simp only[za,zb,zc,zd,ze,zf,zg,zh,zi,u8i,zj,zk,zl]at hb1
 ·rw[decide_eq_true hb1];exact hdat 0 (by rw[hb1];decide)
 refine aV ?_
 refine ah (fun hb2=>?_) (fun hb2=>?_)<;>simp only[za,zb,zc,zd,ze,zf,zg,zh,zi,u8i,zj,zk,zl]at hb2
 ·rw[decide_eq_true hb2];exact hdat 1 (by rw[hb2];decide)
 refine aV ?_
 cases hb3:decide (name=[46,108,111,110,103]) with
 | true=>exact hdat 2 (by simp only[decide_eq_true_eq]at hb3;rw[hb3];decide)
 | false=>
 simp only[decide_eq_false_iff_not]at hb3
 have hnd:kC name datasL=-1:=by
  unfold kC
  refine gW fun j hj=>?_
  have h3:datasL.length=3:=rfl
  have:j=0∨j=1∨j=2:=by omega
  rcases this with rfl|rfl|rfl
  ·exact decide_eq_false hb1
  ·exact decide_eq_false hb2
  ·exact decide_eq_false hb3
 rw[hnd,if_neg (by omega)]at k
 unfold cf
 refine ah (fun h=>by cases h) (fun _=>?_)
 refine aV ?_
 refine ah (fun hasc=>?_) (fun hasc=>?_)<;>simp only[za,zb,zc,zd,ze,zf,zg,zh,zi,u8i,zj,zk,zl]at hasc
 ·rw[if_pos hasc]at k
  (repeat (first|refine aw ?_|refine aj ?_))
  refine r2.put (rs':={ rs with kind:=6 }) rfl rfl rfl (by omega) rfl (fun v=>rfl) fun h3 r3=>?_
  exact XX rest r3 k
 rw[if_neg hasc]at k
 have hspc:∀ d:Nat,kC name spacesL=d→cL (B true) (T name) (.snap (bX rest).length ((bX rest).flatMap sE)) (.ptr i 0) (T name) h2 Q:=by
  intro d hd
  have hd3:d<2:=by
   have:=uy name spacesL
   have h3:spacesL.length=2:=rfl
   omega
  rw[hd,if_pos (by omega),Int.toNat_natCast]at k
  unfold cL
  refine ah (fun _=>?_) (fun h=>by cases h)
  refine aB rfl rfl ?_
  refine kG name spacesL (by decide) (Row.full (enc:=sE) (fun _=>rfl) spacesL) ?_
  rw[show fC (fun y=>decide (name=y)) spacesL=kC name spacesL from rfl,hd]
  refine aI (by omega) ?_
  have e1:(7:Int)+(d:Int)=((7+d:Nat):Int):=by omega
  rw[e1]
  (repeat (first|refine aw ?_|refine aj ?_))
  refine r2.put (rs':={ rs with kind:=7+d }) rfl rfl rfl (by omega) rfl (fun v=>rfl) fun h3 r3=>?_
  exact BW hA _ hol hos 1 (by omega) (rs:={ rs with kind:=7+d }) ha0 r3 k
 refine aV ?_
 refine ah (fun ha1=>?_) (fun ha1=>?_)<;>simp only[za,zb,zc,zd,ze,zf,zg,zh,zi,u8i,zj,zk,zl]at ha1
 ·rw[show decide (name=[46,97,108,105,103,110])=true by rw[ha1];rfl]
  exact hspc 0 (by rw[ha1];decide)
 refine aV ?_
 cases ha2:decide (name=[46,115,112,97,99,101]) with
 | true=>exact hspc 1 (by simp only[decide_eq_true_eq]at ha2;rw[ha2];decide)
 | false=>
 simp only[decide_eq_false_iff_not]at ha2
 have hns:kC name spacesL=-1:=by
  unfold kC
  refine gW fun j hj=>?_
  have h3:spacesL.length=2:=rfl
  have:j=0∨j=1:=by omega
  rcases this with rfl|rfl
  ·exact decide_eq_false ha1
  ·exact decide_eq_false ha2
 rw[hns,if_neg (by omega)]at k
 unfold cL
 refine ah (fun h=>by cases h) (fun _=>?_)
 refine aV ?_
 refine ah (fun heq=>?_) (fun heq=>?_)<;>simp only[za,zb,zc,zd,ze,zf,zg,zh,zi,u8i,zj,zk,zl]at heq
 ·rw[if_pos heq]at k
  (repeat (first|refine aw ?_|refine aj ?_))
  refine r2.put (rs':={ rs with kind:=9 }) rfl rfl rfl (by omega) rfl (fun v=>rfl) fun h3 r3=>?_
  refine aB rfl rfl ?_
  exact Qh hA _ hol hos [.word,.value] (by decide) (rs:={ rs with kind:=9 }) ha0 r3 (fun h'=>Row.snap (enc:=sE) (fun _=>rfl) _) (fun h'=>Row.full (enc:=GQ i) (fun _=>rfl) [.word,.value]) k
 ·rw[if_neg heq]at k
  exact k h2 r2
def Ch:Bool→Str→Str
 | _,[]=>[]
 | q,c::l=>if c=35∧q=false then [] else c::Ch (if c=34 then !q else q) l
def yd (s:Str):Str:=sT (Ch false s)
theorem OH:∀ (q:Bool) (l:Str),(Ch q l).length≤l.length
 | _,[]=>by simp[Ch]
 | q,c::l=>by
   unfold Ch
   split
   ·simp
   ·have:=OH (if c=34 then !q else q) l;simp;omega
theorem N4 {s:Str}(hs:s.length<4000000000) (q:Bool) (j:Nat) (hj:j≤s.length) {next:NT}
  (k0:Ch q (s.drop j)=[]→∀ h',Fr [] h h'→Q (T (sT (s.take j))) h') (k1:∀ (hj:j<s.length),Ch q (s.drop j)=s[j]::Ch (if s[j]=34 then !q else q) (s.drop (j+1))→next [B (if s[j]=34 then !q else q),I ((j+1:Nat):Int)] h):
  qK (T s) (B q) (I (j:Nat)) h Q next:=by
 unfold qK
 have fin:Ch q (s.drop j)=[]→qC (T s) (I (j:Nat)) h Q:=by
  intro hc
  unfold qC
  refine pk (by omega) (by omega) ?_
  rw[Int.toNat_natCast]
  exact Ej _ (by simp;omega) (k0 hc)
 (repeat (first|refine bf ?_|refine aA ?_))
 refine ah (fun hb=>?_) (fun hb=>?_)<;>simp only[za,zb,zc,zd,ze,zf,zg,zh,zi,u8i,zj,zk,zl]at hb
 ·have:j=s.length:=by omega
  subst this
  exact fin (by rw[List.drop_length];rfl)
 have hj2:j<s.length:=by omega
 have hcut:=List.drop_eq_getElem_cons hj2
 have go:¬(s[j]=35∧q=false)→qZ (T s) (B q) (I (j:Nat)) h next:=by
  intro hn
  have k1:=k1 hj2 (by rw[hcut,Ch,if_neg hn])
  unfold qZ
  refine bP hj2 ?_
  refine aA ?_
  have e:decide ((s[j].toNat:Int)=34)=decide (s[j]=34):=by rw[Bool.eq_iff_iff];simp[← UInt8.toNat_inj];omega
  rw[e]
  refine ah (fun h34=>?_) (fun h34=>?_)<;>simp only[za,zb,zc,zd,ze,zf,zg,zh,zi,u8i,zj,zk,zl]at h34
  ·refine bQ ?_
   unfold qW
   refine aI (by omega) ?_
   rw[if_pos h34]at k1;exact k1
  ·unfold qW
   refine aI (by omega) ?_
   rw[if_neg h34]at k1;exact k1
 refine bP hj2 ?_
 refine aA ?_
 have e:decide ((s[j].toNat:Int)=35)=decide (s[j]=35):=by rw[Bool.eq_iff_iff];simp[← UInt8.toNat_inj];omega
 rw[e]
 cases h35:decide (s[j]=35) with
 | true=>
   simp only[decide_eq_true_eq]at h35
   refine qc (ah (fun _=>?_) (fun h=>by cases h)) ⟨_,rfl⟩
   refine bQ ?_
   cases q with
   | true=>exact ah (fun h=>by cases h) (fun _=>go (by simp))
   | false=>exact ah (fun _=>fin (by rw[hcut,Ch,if_pos ⟨h35,rfl⟩])) (fun h=>by cases h)
 | false=>
   simp only[decide_eq_false_iff_not]at h35
   exact qc (ah (fun h=>by cases h) (fun _=>go (by simp[h35]))) ⟨_,rfl⟩
theorem X7 (s:Str) (hs:s.length<4000000000) (k:∀ h',Fr [] h h'→Q (T (yd s)) h'):C tG [T s] h Q:=by
 refine JZ _ _ _ ?_
 unfold CH
 refine N4 hs false 0 (by omega) (fun hc=>by
  have:yd s=sT (s.take 0):=by unfold yd;rw[List.drop_zero]at hc;rw[hc];rfl
  rw[this]at k;exact k) (fun hj hc=>?_)
 refine aP (fun n vs h'=>h'=h∧∃ (q:Bool) (j:Nat),vs=[B q,I (j:Nat)]∧j≤s.length∧n+j=s.length∧Ch false s=s.take j++Ch q (s.drop j)) (s.length-1) ⟨rfl,_,1,rfl,by omega,by omega,by
  rw[List.drop_zero]at hc;rw[hc]
  cases s with
  | nil=>simp at hj
  | cons c t=>rfl⟩ ?_
 rintro n vs h' ⟨rfl,q,j,rfl,hj2,hn,hcut⟩
 refine N4 hs q j hj2 (fun hc=>by
  have:yd s=sT (s.take j):=by unfold yd;rw[hcut,hc,List.append_nil]
  rw[this]at k;exact k) (fun hj3 hc=>?_)
 refine⟨n-1,by omega,rfl,_,j+1,rfl,by omega,by omega,?_⟩
 rw[hcut,hc,List.take_succ_eq_append_getElem hj3,List.append_assoc];rfl
end
end
end
end Go.Proofs.YtbhphjpgjgigpaaGreatDoor.AL
