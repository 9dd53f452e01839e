import Derived.Test.YtgkmmcdhhkllnaaGreatDoorAI4toAE4
set_option linter.all false
set_option autoImplicit true
set_option relaxedAutoImplicit true
set_option maxRecDepth 100000
namespace Go.Proofs.YtgkmmcdhhkllnaaGreatDoor.AL
section
noncomputable section
variable [Tabs]
theorem Wu:∀ (d D:Nat),D+d=12→zL da [] D (Br d)
 | 0,D,h=>by
   have:D=12:=by omega
   subst this
   exact Sv (fun l h Q i e r=>D1 _ l h Q i e r) (fun l h Q i e r=>D1 _ l h Q i e r)
 | d+1,D,h=>by
   have i1:=Wu d (D+1) (by omega)
   have i2:zL cD [I 0] (D+1) (gD (Br d) 5):=RP i1 (vp d) 5 (Nat.le_refl _)
   exact Sv (JS (X3 i2) (by omega)) (JS (W4 i1) (by omega))
theorem Wx (l:Str) {h:ae}{Q:QT}(k1:∀ x,gI l=some x→∀ h',Fr [] h h'→Q (.tup [.agg (bq x),B true]) h') (k0:gI l=none→∀ h',Fr [] h h'→Q (.tup [.agg zE,B false]) h'):C su [T l] h Q:=by
 refine Ii _ _ _ ?_
 unfold HL
 refine aQ (St.start h) fun q h1 s1=>?_
 (repeat refine aD rfl ?_)
 refine bR s1 rfl fun i h2 s2=>?_
 have s2:St h [] h2 [(i,true,pO l 0 false),(q,true,.cells zE)]:=s2
 refine RP (Wu 12 0 rfl) (vp 12) 5 (Nat.le_refl _) l h2 _ i (s2.get (.head _)) ⟨fun x l' h3 hm f3 e3=>?_,fun cs l' h3 hm f3 e3 hc ho=>?_⟩
 ·have s3:=s2.call1 f3 e3 .head
  refine aM s3 aZ (aq _) (aV _) (.tail .head) fun h4 s4=>?_
  refine yj (s4.get (.head _)) fun h5 f5 e5=>?_
  have s5:=s4.call1 f5 e5 .head
  have hp:gI l=if blk l'=[] then some x else none:=by unfold gI;rw[hm]
  (repeat (first|refine au ?_|refine aj ?_|refine qq ?_|refine af ‹_› (.head _) rfl ?_))
  refine ah (fun hb=>?_) (fun hb=>?_)
  ·rw[if_neg (by simpa using hb)]at hp
   (repeat refine aD rfl ?_)
   refine aM s5 (aq _) rfl rfl (.tail .head) fun h6 s6=>?_
   refine aL s6 rfl (.tail _ (.head _)) ?_
   exact k0 hp _ s6.fr
  ·rw[if_pos (by simpa using hb)]at hp
   refine aL s5 (aq _) (.tail _ (.head _)) ?_
   refine aM s5 (aq _) (aq _) (aV _) (.tail .head) fun h6 s6=>?_
   refine aL s6 (aq _) (.tail _ (.head _)) ?_
   exact k1 x hp _ s6.fr
 ·have s3:=s2.call1 f3 e3 .head
  refine aM s3 aZ hc ho (.tail .head) fun h4 s4=>?_
  refine yj (s4.get (.head _)) fun h5 f5 e5=>?_
  have s5:=s4.call1 f5 e5 .head
  have hp:gI l=none:=by unfold gI;rw[hm]
  (repeat (first|refine au ?_|refine aj ?_|refine af ‹_› (.head _) rfl ?_|refine aD rfl ?_))
  refine aM s5 hc rfl rfl (.tail .head) fun h6 s6=>?_
  refine aL s6 rfl (.tail _ (.head _)) ?_
  exact k0 hp _ s6.fr
def mostI:Int:=1099511627776
abbrev Ev:=Int×Int
def evV (e:Ev):AV:=.tup [I e.1,I e.2]
def iq (n:Int):Ev:=if n < -1099511627776∨1099511627776<n then (0,6) else (n,0)
section
variable {h:ae}{Q:QT}
theorem kP (n:Int) (k:Q (evV (iq n)) h):C cK [I n] h Q:=by
 refine Ie _ _ _ ?_
 unfold G5
 unfold iq at k
 (repeat refine aJ ?_)
 refine ah (fun h1=>?_) (fun h1=>?_)<;>simp only[za,zb,zc,zd,ze,zf,zg,zh,zi,u8i,zj,zk,zl]at h1
 ·rw[if_pos (.inl h1)]at k;exact k
 (repeat refine bU ?_)
 refine ah (fun h2=>?_) (fun h2=>?_)<;>simp only[za,zb,zc,zd,ze,zf,zg,zh,zi,u8i,zj,zk,zl]at h2
 ·rw[if_pos (.inr h2)]at k;exact k
 ·rw[if_neg (by omega)]at k;exact k
def AB (a b:Int):Ev:=if a=0∨b=0 then (0,0) else if (mostI.tdiv (max b (-b)))<max a (-a) then (0,6) else iq (a*b)
theorem Nq (a b:Int) (ha:-1099511627776≤a∧a≤1099511627776) (hb:-1099511627776≤b∧b≤1099511627776) (k:Q (evV (AB a b)) h):C oc [I a,I b] h Q:=by
 refine IL _ _ _ _ ?_
 unfold H6
 unfold AB mostI at k
 (repeat refine aA ?_)
 refine ah (fun h1=>?_) (fun h1=>?_)<;>simp only[za,zb,zc,zd,ze,zf,zg,zh,zi,u8i,zj,zk,zl]at h1
 ·rw[if_pos (.inl h1)]at k;exact k
 (repeat refine aA ?_)
 refine ah (fun h2=>?_) (fun h2=>?_)<;>simp only[za,zb,zc,zd,ze,zf,zg,zh,zi,u8i,zj,zk,zl]at h2
 ·rw[if_pos (.inr h2)]at k;exact k
 rw[if_neg (by omega)]at k
 refine Y9 ?_
 refine Ri (by omega) ?_
 (repeat refine HH ?_)
 refine Ri (by omega) ?_
 (repeat refine HH ?_)
 have hm:1≤max b (-b):=by omega
 have hq0:0≤Int.tdiv 1099511627776 (max b (-b)):=Int.tdiv_nonneg (by omega) (by omega)
 have hq1:Int.tdiv 1099511627776 (max b (-b))≤1099511627776:=by
  rw[Int.tdiv_eq_ediv_of_nonneg (by omega)];exact Int.ediv_le_self _ (by omega)
 refine vA (by omega) (by omega) ?_
 refine bU ?_
 refine ah (fun h3=>?_) (fun h3=>?_)<;>simp only[za,zb,zc,zd,ze,zf,zg,zh,zi,u8i,zj,zk,zl]at h3
 ·rw[if_pos h3]at k;exact k
 ·rw[if_neg (by omega)]at k
  have hmul:max a (-a)*max b (-b)≤1099511627776:=by
   have h4:max a (-a)≤Int.tdiv 1099511627776 (max b (-b)):=by omega
   have h5:max a (-a)*max b (-b)≤Int.tdiv 1099511627776 (max b (-b))*max b (-b):=Int.mul_le_mul_of_nonneg_right h4 (by omega)
   rw[Int.tdiv_eq_ediv_of_nonneg (by omega)]at h5
   have h6:=Int.ediv_mul_le 1099511627776 (show max b (-b)≠0 by omega)
   omega
  have hab:-1099511627776≤a*b∧a*b≤1099511627776:=by
   have e1:(a*b).natAbs=(max a (-a)*max b (-b)).natAbs:=by
    rw[Int.natAbs_mul,Int.natAbs_mul]
    congr 1<;>omega
   have h7:0≤max a (-a)*max b (-b):=Int.mul_nonneg (by omega) (by omega)
   omega
  rw[uo (by omega)]
  refine kP _ ?_
  (repeat refine aF rfl ?_)
  exact k
def Hv (kd:Nat) (a b:Int):Ev:=
 if kd=5 then iq (a+b) else if kd=6 then iq (a-b) else if kd=7 then AB a b else if kd=8 then iq (Eu .i64 a b) else if kd=9 then iq (orI .i64 a b)
 else if b<0∨40<b then (0,6) else if kd=11 then iq (L6 .i64 a b.toNat) else AB a (2^b.toNat)
theorem aau (kd:Nat) (a b:Int) (ha:-1099511627776≤a∧a≤1099511627776) (hb:-1099511627776≤b∧b≤1099511627776) (k:Q (evV (Hv kd a b)) h):C u6 [I (kd:Nat),I a,I b] h Q:=by
 refine LR _ _ _ _ _ ?_
 unfold JW
 unfold Hv at k
 (repeat refine aA ?_)
 refine ah (fun h5=>?_) (fun h5=>?_)<;>simp only[za,zb,zc,zd,ze,zf,zg,zh,zi,u8i,zj,zk,zl]at h5
 ·rw[if_pos (by omega)]at k
  (repeat refine aH (by omega) ?_)
  refine kP _ ?_
  (repeat refine aF rfl ?_);exact k
 rw[if_neg (by omega)]at k
 (repeat refine aA ?_)
 refine ah (fun h6=>?_) (fun h6=>?_)<;>simp only[za,zb,zc,zd,ze,zf,zg,zh,zi,u8i,zj,zk,zl]at h6
 ·rw[if_pos (by omega)]at k
  (repeat refine cH (by omega) ?_)
  refine kP _ ?_
  (repeat refine aF rfl ?_);exact k
 rw[if_neg (by omega)]at k
 (repeat refine aA ?_)
 refine ah (fun h7=>?_) (fun h7=>?_)<;>simp only[za,zb,zc,zd,ze,zf,zg,zh,zi,u8i,zj,zk,zl]at h7
 ·rw[if_pos (by omega)]at k
  refine Nq a b ha hb ?_
  (repeat refine aF rfl ?_);exact k
 rw[if_neg (by omega)]at k
 (repeat refine aA ?_)
 refine ah (fun h8=>?_) (fun h8=>?_)<;>simp only[za,zb,zc,zd,ze,zf,zg,zh,zi,u8i,zj,zk,zl]at h8
 ·rw[if_pos (by omega)]at k
  refine pT ?_
  refine kP _ ?_
  (repeat refine aF rfl ?_);exact k
 rw[if_neg (by omega)]at k
 (repeat refine aA ?_)
 refine ah (fun h9=>?_) (fun h9=>?_)<;>simp only[za,zb,zc,zd,ze,zf,zg,zh,zi,u8i,zj,zk,zl]at h9
 ·rw[if_pos (by omega)]at k
  refine vE ?_
  refine kP _ ?_
  (repeat refine aF rfl ?_);exact k
 rw[if_neg (by omega)]at k
 (repeat refine aJ ?_)
 refine ah (fun hn=>?_) (fun hn=>?_)<;>simp only[za,zb,zc,zd,ze,zf,zg,zh,zi,u8i,zj,zk,zl]at hn
 ·rw[if_pos (.inl hn)]at k;exact k
 (repeat refine bU ?_)
 refine ah (fun hg=>?_) (fun hg=>?_)<;>simp only[za,zb,zc,zd,ze,zf,zg,zh,zi,u8i,zj,zk,zl]at hg
 ·rw[if_pos (.inr hg)]at k;exact k
 rw[if_neg (by omega)]at k
 (repeat refine aA ?_)
 refine ah (fun h11=>?_) (fun h11=>?_)<;>simp only[za,zb,zc,zd,ze,zf,zg,zh,zi,u8i,zj,zk,zl]at h11
 ·rw[if_pos (by omega)]at k
  refine x6 (by omega) ?_
  refine kP _ ?_
  (repeat refine aF rfl ?_);exact k
 ·rw[if_neg (by omega)]at k
  refine kr (by omega) ?_
  obtain⟨n,rfl⟩:∃ n:Nat,b=n:=⟨b.toNat,by omega⟩
  have hn40:n≤40:=by omega
  have hp:2^n≤2^40:=Nat.pow_le_pow_right (by omega) hn40
  have hpi:((2:Int)^n)=((2^n:Nat):Int):=by simp
  have hp0:0<2^n:=Nat.two_pow_pos n
  have e1:min (n:Int).toNat IntKind.i64.bits=n:=by
   show min (n:Int).toNat 64=n
   omega
  rw[e1,Int.one_mul,uo (by rw[hpi];omega)]
  rw[Int.toNat_natCast]at k
  refine Nq a _ ha (by rw[hpi];omega) ?_
  (repeat refine aF rfl ?_);exact k
abbrev Sy:=Str×Int
def syE (y:Sy):List AV:=[T y.1,I y.2]
def iM (here:Int) (syms:List Sy):Ex→Ev
 | .none=>(0,6)
 | .num n=>iq n
 | .name s=>match syms.find? fun y=>decide (y.1=s) with
   | some y=>iq y.2
   | none=>(0,4)
 | .here=>iq here
 | .neg e=>if (iM here syms e).2≠0 then (0,(iM here syms e).2) else iq (-(iM here syms e).1)
 | .bin k a b=>if (iM here syms a).2≠0 then (0,(iM here syms a).2) else if (iM here syms b).2≠0 then (0,(iM here syms b).2) else Hv k (iM here syms a).1 (iM here syms b).1
theorem iG (n:Int):-1099511627776≤(iq n).1∧(iq n).1≤1099511627776:=by unfold iq;split<;>simp<;>omega
theorem Vq (a b:Int):-1099511627776≤(AB a b).1∧(AB a b).1≤1099511627776:=by
 unfold AB;split
 ·simp
 ·split
  ·simp
  ·exact iG _
theorem NN (k:Nat) (a b:Int):-1099511627776≤(Hv k a b).1∧(Hv k a b).1≤1099511627776:=by
 unfold Hv
 repeat' split
 all_goals first|exact iG _|exact Vq _ _|simp
theorem Hp (here:Int) (syms:List Sy):∀ e:Ex,-1099511627776≤(iM here syms e).1∧(iM here syms e).1≤1099511627776
 | .none=>by simp[iM]
 | .num n=>iG _
 | .name s=>by
   unfold iM;split
   ·exact iG _
   ·simp
 | .here=>iG _
 | .neg e=>by
   unfold iM;split
   ·simp
   ·exact iG _
 | .bin k a b=>by
   unfold iM;split
   ·simp
   ·split
    ·simp
    ·exact NN _ _ _
def okE:Ex→Prop
 | .neg e=>okE e
 | .bin k a b=>(5≤k∧k≤11)∧okE a∧okE b
 | _=>True
theorem Ra {α:Type}(p:α→Bool):∀ l:List α,(fR p l=-1∧l.find? p=none)∨∃ (i:Nat) (hi:i<l.length),fR p l=(i:Nat)∧l.find? p=some l[i]:=fun l=>by
 unfold fR
 cases h:l.findIdx? p with
 | none=>
   rw[List.findIdx?_eq_none_iff]at h
   exact .inl ⟨rfl,by rw[List.find?_eq_none];intro x hx;simp[h x hx]⟩
 | some i=>
   rw[List.findIdx?_eq_some_iff_getElem]at h
   obtain⟨hi,hp,hn⟩:=h
   refine .inr ⟨i,hi,rfl,?_⟩
   rw[List.find?_eq_some_iff_getElem]
   exact⟨hp,i,hi,rfl,fun j hj=>by simpa using hn j hj⟩
theorem E8 (here:Int) (syms:List Sy) (hl:syms.length<1000000):∀ (e:Ex),okE e→∀ (h:ae) (Q:QT) {v:AV},Row syE 2 h v syms→(∀ h',Fr [] h h'→Q (evV (iM here syms e)) h')→C mV [.agg (bq e),I here,v] h Q
 | .none,hk,h,Q,v,r,k=>by
   refine jI _ _ _ _ _ ?_
   unfold nO
   refine bR (St.start h) rfl fun i h1 s1=>?_
   have s1:St h [] h1 [(i,true,.cells (bq .none))]:=s1
   (repeat (first|refine aj ?_|refine iy ?_|refine aA ?_|refine af ‹_› (.head _) rfl ?_))
   exact k _ s1.fr
 | .num n,hk,h,Q,v,r,k=>by
   refine jI _ _ _ _ _ ?_
   unfold nO
   refine bR (St.start h) rfl fun i h1 s1=>?_
   have s1:St h [] h1 [(i,true,.cells (bq (.num n)))]:=s1
   (repeat (first|refine aj ?_|refine aA ?_|refine af ‹_› (.head _) rfl ?_))
   refine kP _ ?_
   (repeat refine aF rfl ?_)
   exact k _ s1.fr
 | .here,hk,h,Q,v,r,k=>by
   refine jI _ _ _ _ _ ?_
   unfold nO
   refine bR (St.start h) rfl fun i h1 s1=>?_
   have s1:St h [] h1 [(i,true,.cells (bq .here))]:=s1
   (repeat (first|refine aj ?_|refine aA ?_|refine af ‹_› (.head _) rfl ?_))
   refine kP _ ?_
   (repeat refine aF rfl ?_)
   exact k _ s1.fr
 | .name s,hk,h,Q,v,r,k=>by
   refine jI _ _ _ _ _ ?_
   unfold nO
   refine bR (St.start h) rfl fun i h1 s1=>?_
   have s1:St h [] h1 [(i,true,.cells (bq (.name s)))]:=s1
   (repeat (first|refine aj ?_|refine aA ?_|refine af ‹_› (.head _) rfl ?_))
   refine wR (enc:=syE) (fun _=>rfl) _ (fun y=>decide (y.1=s)) syms (by omega) (r.fr s1.fr) (fun x hx h2 Q f2 kq=>?_) fun h2 f2=>?_
   ·show ACall Pg qD _ _ _
    refine F1 _ _ _ _ ?_
    unfold Ea
    have s2:=St.startr (f2.get (s1.get (.head _)) (by simp))
    refine bR s2 rfl fun j h3 s3=>?_
    (repeat (first|refine aj ?_|refine aU ?_|refine af ‹_› (by first|exact .head _|exact .tail _ (.head _)) rfl ?_))
    exact kq _ s3.fr
   ·have s2:=s1.call f2
    unfold iM at k
    rcases Ra (fun y:Sy=>decide (y.1=s)) syms with ⟨e1,e2⟩|⟨j,hj,e1,e2⟩
    ·rw[e1]
     rw[e2]at k
     (repeat refine aJ ?_)
     exact k _ s2.fr
    ·rw[e1]
     rw[e2]at k
     (repeat refine aJ ?_)
     refine (r.fr s2.fr).idx (fun _=>rfl) hj fun p t=>?_
     refine xT t (nle rfl) fun q t2=>?_
     refine aI t2 ?_
     refine kP _ ?_
     (repeat refine aF rfl ?_)
     exact k _ s2.fr
 | .neg e,hk,h,Q,v,r,k=>by
   refine jI _ _ _ _ _ ?_
   unfold nO
   refine bR (St.start h) rfl fun i h1 s1=>?_
   have s1:St h [] h1 [(i,true,.cells (bq (.neg e)))]:=s1
   (repeat (first|refine aj ?_|refine iy ?_|refine aA ?_|refine af ‹_› (.head _) rfl ?_))
   have R1:∀ h,Row bq 4 h (.full 1 (bq e)) [e]:=fun h=>by
    have:=Row.full (h:=h) (enc:=bq) aq [e]
    simpa using this
   refine (R1 h1).idx aq (j:=0) (by simp) fun p t=>?_
   refine bk t (aq e).symm ?_
   refine E8 here syms hl e hk h1 _ (r.fr s1.fr) fun h2 f2=>?_
   have s2:=s1.call f2
   have hin:=Hp here syms e
   unfold iM at k
   (repeat (first|refine aF rfl ?_|refine bT ?_))
   refine ah (fun h1=>?_) (fun h1=>?_)<;>simp only[za,zb,zc,zd,ze,zf,zg,zh,zi,u8i,zj,zk,zl]at h1
   ·rw[if_pos h1]at k
    exact k _ s2.fr
   ·rw[if_neg (by omega)]at k
    (repeat (first|refine aj ?_|refine iy ?_|refine aA ?_|refine af ‹_› (.head _) rfl ?_))
    refine Ri (by simp[evV];omega) ?_
    refine kP _ ?_
    (repeat refine aF rfl ?_)
    exact k _ s2.fr
 | .bin kd a b,hk,h,Q,v,r,k=>by
   obtain⟨hkd,hka,hkb⟩:=hk
   refine jI _ _ _ _ _ ?_
   unfold nO
   refine bR (St.start h) rfl fun i h1 s1=>?_
   have s1:St h [] h1 [(i,true,.cells (bq (.bin kd a b)))]:=s1
   have R2:∀ h,Row bq 4 h (.full 2 (bq a++bq b)) [a,b]:=fun h=>by
    have:=Row.full (h:=h) (enc:=bq) aq [a,b]
    simpa using this
   (repeat (first|refine aj ?_|refine aA ?_|refine af ‹_› (.head _) rfl ?_))
   refine ah (fun hb=>absurd hb (by simp;omega)) (fun _=>?_)
   (repeat (first|refine aj ?_|refine aA ?_|refine af ‹_› (.head _) rfl ?_))
   refine ah (fun hb=>absurd hb (by simp;omega)) (fun _=>?_)
   (repeat (first|refine aj ?_|refine aA ?_|refine af ‹_› (.head _) rfl ?_))
   refine ah (fun hb=>absurd hb (by simp;omega)) (fun _=>?_)
   (repeat (first|refine aj ?_|refine iy ?_|refine aA ?_|refine af ‹_› (.head _) rfl ?_))
   refine (R2 h1).idx aq (j:=0) (by simp) fun p t=>?_
   refine bk t (aq a).symm ?_
   refine E8 here syms hl a hka h1 _ (r.fr s1.fr) fun h2 f2=>?_
   have s2:=s1.call f2
   have hin:=Hp here syms a
   have hin2:=Hp here syms b
   unfold iM at k
   (repeat (first|refine aF rfl ?_|refine bT ?_))
   refine ah (fun ha=>?_) (fun ha=>?_)<;>simp only[za,zb,zc,zd,ze,zf,zg,zh,zi,u8i,zj,zk,zl]at ha
   ·rw[if_pos ha]at k
    exact k _ s2.fr
   rw[if_neg (by omega)]at k
   (repeat (first|refine aj ?_|refine iy ?_|refine aA ?_|refine af ‹_› (.head _) rfl ?_))
   refine (R2 h2).idx aq (j:=1) (by simp) fun p t=>?_
   refine bk t (aq b).symm ?_
   refine E8 here syms hl b hkb h2 _ (r.fr s2.fr) fun h3 f3=>?_
   have s3:=s2.call f3
   (repeat (first|refine aF rfl ?_|refine bT ?_))
   refine ah (fun hb=>?_) (fun hb=>?_)<;>simp only[za,zb,zc,zd,ze,zf,zg,zh,zi,u8i,zj,zk,zl]at hb
   ·rw[if_pos hb]at k
    exact k _ s3.fr
   rw[if_neg (by omega)]at k
   (repeat (first|refine aj ?_|refine af ‹_› (.head _) rfl ?_))
   refine aau kd _ _ hin hin2 ?_
   (repeat refine aF rfl ?_)
   exact k _ s3.fr
end
end
end
section
noncomputable section
variable [Tabs]
def wa (out:List Str) (n:Str):List Str:=if out.any (fun y=>decide (n=y))=true then out else out++[n]
def bX:Ex→List Str
 | .name s=>[s]
 | .neg e=>(bX e).foldl wa []
 | .bin _ a b=>(bX b).foldl wa ((bX a).foldl wa [])
 | _=>[]
def bn:Ex→Nat
 | .neg e=>1+bn e
 | .bin _ a b=>1+bn a+bn b
 | _=>1
theorem W8 (out:List Str) (n:Str):(wa out n).length≤out.length+1:=by unfold wa;split<;>simp
theorem yw:∀ (l out:List Str),(l.foldl wa out).length≤out.length+l.length
 | [],out=>by simp
 | n::l,out=>by
   have h1:=yw l (wa out n)
   have h2:=W8 out n
   simp only[List.foldl_cons,List.length_cons];omega
theorem lk:∀ e:Ex,(bX e).length≤bn e
 | .none=>by simp[bX]
 | .num _=>by simp[bX]
 | .here=>by simp[bX]
 | .name _=>by simp[bX,bn]
 | .neg e=>by
   have h1:=yw (bX e) []
   have h2:=lk e
   simp only[bX,bn,List.length_nil]at *;omega
 | .bin k a b=>by
   have h1:=yw (bX a) []
   have h2:=yw (bX b) ((bX a).foldl wa [])
   have h3:=lk a
   have h4:=lk b
   simp only[bX,bn,List.length_nil]at *;omega
def dV:Ex→List Ex
 | .neg e=>[e]
 | .bin _ a b=>[a,b]
 | _=>[]
def VE:Ex→List Str
 | .name s=>[s]
 | _=>[]
theorem Ur (e:Ex):bX e=(dV e).foldl (fun out c=>(bX c).foldl wa out) (VE e):=by cases e<;>rfl
theorem BE {e c:Ex}(h:c∈dV e):bn c<bn e:=by
 cases e<;>simp[dV]at h
 ·subst h;simp[bn]
 ·rcases h with rfl|rfl<;>simp[bn]<;>omega
theorem G7 {e c:Ex}(hk:okE e) (h:c∈dV e):okE c:=by
 cases e<;>simp[dV]at h
 ·subst h;exact hk
 ·rcases h with rfl|rfl
  ·exact hk.2.1
  ·exact hk.2.2
abbrev sE:Str→List AV:=fun x=>[T x]
theorem Gw (e:Ex) (h:ae):Row bq 4 h ((bq e)[3]'(by rw[aq];omega)) (dV e):=by
 cases e with
 | none=>exact .nil
 | num n=>exact .nil
 | name s=>exact .nil
 | here=>exact .nil
 | neg e=>simpa [bq,dV] using Row.full (h:=h) (enc:=bq) aq [e]
 | bin k a b=>simpa [bq,dV] using Row.full (h:=h) (enc:=bq) aq [a,b]
theorem GZ:∀ (n:Nat) (e:Ex),okE e→bn e≤n→n<100000000→∀ (h:ae) (Q:QT),(∀ h',Fr [] h h'→Q (.snap (bX e).length ((bX e).flatMap sE)) h')→C kV [.agg (bq e)] h Q
 | 0,e,_,hn,_,h,Q,k=>by cases e<;>simp[bn]at hn
 | n+1,e,hok,hn,hn2,h,Q,k=>by
   refine Iq _ _ _ ?_
   unfold HZ
   refine bR (St.start h) rfl fun i h1 s1=>?_
   have s1:St h [] h1 [(i,true,.cells (bq e))]:=s1
   have RC:=Gw e
   have rest:∀ (v:AV) (E:Own) (h2:ae),AccE 1 v (VE e).length ((VE e).flatMap sE) E→St h [] h2 (E++[(i,true,.cells (bq e))])→mP v (.ptr i 0) h2 Q:=by
    intro v E h2 a s2
    unfold mP
    (repeat refine aj ?_)
    refine af (a.rest s2) (.head _) (List.getElem?_eq_getElem (by rw[aq];decide)) ?_
    refine (RC h2).len ?_
    refine aP (fun m vs h'=>∃ (j:Nat) (v:AV) (out:List Str) (E:Own),vs=[v,I (j:Nat)]∧m+j=(dV e).length∧AccE 1 v out.length (out.flatMap sE) E∧St h [] h' (E++[(i,true,.cells (bq e))])∧
     out=((dV e).take j).foldl (fun out c=>(bX c).foldl wa out) (VE e)∧out.length≤1+j*n) (dV e).length ⟨0,v,VE e,E,rfl,by omega,a,s2,rfl,by cases e<;>simp[VE]⟩ ?_
    rintro m vs h3 ⟨j,v,out,E,rfl,hm,a,s3,hout,hol⟩
    unfold xt
    (repeat refine aJ ?_)
    have hcl:(dV e).length≤2:=by cases e<;>simp[dV]
    refine ah (fun hb=>?_) (fun hb=>?_)<;>simp only[za,zb,zc,zd,ze,zf,zg,zh,zi,u8i,zj,zk,zl]at hb
    ·have hj:j<(dV e).length:=hb
     have hc:=BE (List.getElem_mem hj)
     refine (RC h3).idx aq hj fun p t=>?_
     refine bk t (aq _).symm ?_
     refine aQ s3 fun q h4 s4=>?_
     refine aM s4 rfl (aq _) (aV _) .head fun h5 s5=>?_
     refine aL s5 (aq _) (.head _) ?_
     refine GZ n (dV e)[j] (G7 hok (List.getElem_mem hj)) (by omega) (by omega) h5 _ fun h6 f6=>?_
     have s6:=(s5.call f6).drop1
     have hnl:=lk (dV e)[j]
     (repeat refine dB ?_)
     have RN6:∀ h,Row sE 1 h (.snap (bX (dV e)[j]).length ((bX (dV e)[j]).flatMap sE)) (bX (dV e)[j]):=fun h=>Row.snap (enc:=sE) (fun _=>rfl) _
     generalize hns:bX (dV e)[j]=ns at RN6 hnl ⊢
     have hb2:j*n≤2*n:=Nat.mul_le_mul_right _ (by omega)
     refine aP (fun m2 vs h'=>∃ (q:Nat) (v:AV) (o:List Str) (E:Own),vs=[v,I (q:Nat)]∧m2+q=ns.length∧AccE 1 v o.length (o.flatMap sE) E∧St h [] h' (E++[(i,true,.cells (bq e))])∧
      o=(ns.take q).foldl wa out∧o.length≤out.length+q) ns.length ⟨0,v,out,E,rfl,by omega,a,s6,rfl,by omega⟩ ?_
     rintro m2 vs h7 ⟨q2,v2,o,E2,rfl,hm2,a2,s7,ho,hoo⟩
     unfold wn
     (repeat refine aJ ?_)
     refine ah (fun hb3=>?_) (fun hb3=>?_)<;>simp only[za,zb,zc,zd,ze,zf,zg,zh,zi,u8i,zj,zk,zl]at hb3
     ·have hq:q2<ns.length:=hb3
      refine (RN6 h7).idx (fun _=>rfl) hq fun p t=>?_
      refine aI t ?_
      have RO:Row sE 1 h7 v2 o:=a2.rd s7
      refine AA ns[q2] o (by omega) RO ?_
      have hnext:(ns.take (q2+1)).foldl wa out=wa o ns[q2]:=by
       rw[List.take_succ_eq_append_getElem hq,List.foldl_append,← ho];rfl
      refine bP ?_
      cases hc2:o.any fun y=>decide (ns[q2]=y) with
      | true=>
        refine ah (fun h=>by cases h) (fun _=>?_)
        unfold mz te
        refine aH (by omega) ?_
        refine⟨m2-1,by omega,q2+1,v2,o,E2,rfl,by omega,a2,s7,?_,by omega⟩
        rw[hnext,wa,if_pos hc2]
      | false=>
        refine ah (fun _=>?_) (fun h=>by cases h)
        refine aB rfl rfl ?_
        refine a2.app s7 (xs:=[T ns[q2]]) (m:=1) (Rd.full rfl) rfl (by omega) fun v3 E3 h8 a3 s8=>?_
        unfold mz te
        refine aH (by omega) ?_
        refine⟨m2-1,by omega,q2+1,v3,o++[ns[q2]],E3,rfl,by omega,by simpa using a3,s8,?_,by simp;omega⟩
        rw[hnext,wa,if_neg (by simp[hc2])]
     ·have hq:ns.length≤q2:=by omega
      rw[List.take_of_length_le hq]at ho
      refine aH (by omega) ?_
      have hj1:(j+1)*n=j*n+n:=by rw[Nat.add_mul];omega
      refine⟨m-1,by omega,j+1,v2,o,E2,rfl,by omega,a2,s7,?_,by omega⟩
      rw[List.take_succ_eq_append_getElem hj,List.foldl_append,← hout,ho,← hns];rfl
    ·have hj:(dV e).length≤j:=by omega
     rw[List.take_of_length_le hj,← Ur]at hout
     have hnl:=lk e
     have hol2:out.length=(bX e).length:=by rw[hout]
     refine EP (by omega) (a.rd s3) fun h4 f4=>?_
     rw[hout]
     exact k h4 (s3.call f4).fr
   cases e with
   | name s=>
     (repeat (first|refine aj ?_|refine aA ?_|refine af ‹_› (.head _) rfl ?_|refine aB rfl rfl ?_))
     refine rH s1 (Rd.full (n:=1) (cs:=[T s]) rfl) (by decide) (fun h=>by omega) fun j h2 _ s2=>?_
     exact rest _ [(j,true,.cells [T s])] h2 (.inr ⟨rfl,j,rfl,rfl⟩) s2
   | none=>
     refine aj (af s1 (.head _) rfl (aA (ah (fun h=>absurd h (by decide)) (fun _=>?_))))
     exact rest _ [] _ (.none _) s1
   | num n=>
     refine aj (af s1 (.head _) rfl (aA (ah (fun h=>absurd h (by decide)) (fun _=>?_))))
     exact rest _ [] _ (.none _) s1
   | here=>
     refine aj (af s1 (.head _) rfl (aA (ah (fun h=>absurd h (by decide)) (fun _=>?_))))
     exact rest _ [] _ (.none _) s1
   | neg e=>
     refine aj (af s1 (.head _) rfl (aA (ah (fun h=>absurd h (by decide)) (fun _=>?_))))
     exact rest _ [] _ (.none _) s1
   | bin k a b=>
     have hk2:=hok.1
     refine aj (af s1 (.head _) rfl (aA (ah (fun h=>absurd h (by simp;omega)) (fun _=>?_))))
     exact rest _ [] _ (.none _) s1
end
end
section
noncomputable section
variable [Tabs]
def FL (fv:AV) (p:UInt8→Bool):Prop:=∀ (c:UInt8) (h:ae) (Q:QT),Q (B (p c)) h→CV fv [U8 c] h Q
section
variable {h:ae}{Q:QT}
def c8 (p:UInt8→Bool) (l:Str):Nat:=(l.takeWhile p).length
theorem Jv (p:UInt8→Bool) (l:Str):c8 p l≤l.length:=(List.takeWhile_sublist _).length_le
theorem J4 {p:UInt8→Bool}{l:Str}:c8 p l=l.length↔l.all p=true:=by
 unfold c8
 constructor
 ·intro h
  have:l.takeWhile p=l:=(List.takeWhile_sublist p).eq_of_length h
  rw[List.all_eq_true]
  exact takeWhile_self.1 this
 ·intro h
  rw[List.all_eq_true]at h
  rw[takeWhile_self.2 h]
theorem ud {fv:AV}{p:UInt8→Bool}(ht:FL fv p) (l:Str) (hl:l.length<4611686018427387904) (k:Q (I (c8 p l:Nat)) h):C eR [T l,fv] h Q:=by
 refine IG _ _ _ _ ?_
 unfold Fz
 refine aP (fun n vs h'=>h'=h∧∃ i:Nat,vs=[I (i:Nat)]∧n+i=l.length∧∀ j (hj:j<l.length),j<i→p l[j]=true) l.length ⟨rfl,0,rfl,by omega,fun j _ hj=>by omega⟩ ?_
 rintro n vs h' ⟨rfl,i,rfl,hn,ha⟩
 unfold zN
 (repeat (first|refine be ?_|refine aJ ?_))
 refine ah (fun hb=>?_) (fun hb=>?_)<;>simp only[za,zb,zc,zd,ze,zf,zg,zh,zi,u8i,zj,zk,zl]at hb
 ·have hi:i<l.length:=hb
  refine bO hi ?_
  refine ht l[i] _ _ ?_
  cases hp:p l[i] with
  | true=>
    refine ah (fun _=>?_) (fun h=>by cases h)
    (repeat refine aH (by omega) ?_)
    refine⟨n-1,by omega,rfl,i+1,rfl,by omega,fun j hj hj2=>?_⟩
    rcases Nat.lt_or_eq_of_le (Nat.le_of_lt_succ hj2) with h1|h1
    ·exact ha j hj h1
    ·subst h1;exact hp
  | false=>
    refine ah (fun h=>by cases h) (fun _=>?_)
    have:c8 p l=i:=by
     unfold c8
     rw[tk hi (fun j hj=>ha j (by omega) hj) hp];simp;omega
    rw[this]at k;exact k
 ·have:c8 p l=i:=by
   unfold c8
   rw[zt fun j hj=>ha j hj (by omega)];omega
  rw[this]at k;exact k
abbrev sV (c:UInt8):Bool:=bt c.toNat
abbrev fx (c:UInt8):Bool:=dl c.toNat
theorem CJ (c:UInt8) (k:Q (B (sV c)) h):C d3 [U8 c] h Q:=by
 refine Iu _ _ _ ?_
 unfold Hh
 have e1:decide ((48:Int)≤c.toNat)=decide (48≤c.toNat):=vN (a:=48)
 have e2:decide ((c.toNat:Int)≤57)=decide (c.toNat≤57):=vN (b:=57)
 unfold sV bt at k
 refine bL ?_
 rw[e1]
 cases h1:decide (48≤c.toNat) with
 | true=>
   refine ah (fun _=>?_) (fun h=>by cases h)
   refine eT ?_
   rw[h1,Bool.true_and]at k
   rw[e2];exact k
 | false=>
   refine ah (fun h=>by cases h) (fun _=>?_)
   rw[h1,Bool.false_and]at k;exact k
theorem TA (c:UInt8) (k:Q (B (fx c)) h):C kM [U8 c] h Q:=by
 refine IK _ _ _ ?_
 unfold HV
 have e1:decide ((97:Int)≤c.toNat)=decide (97≤c.toNat):=vN (a:=97)
 have e2:decide ((c.toNat:Int)≤122)=decide (c.toNat≤122):=vN (b:=122)
 have e3:decide ((c.toNat:Int)=95)=decide (c.toNat=95):=abq (b:=95)
 unfold fx dl wu at k
 have tail:∀ (h':h=h),(Q (B (decide (c.toNat=95)||bt c.toNat)) h)→ai .eql (U8 c) (.lit (.int .u8 95)) fun t11=>ifB t11 (Q (B true) h) (C d3 [U8 c] h fun t15 h0=>Q t15 h0):=by
  intro _ k
  refine aA ?_
  rw[e3]
  cases h3:decide (c.toNat=95) with
  | true=>
    refine ah (fun _=>?_) (fun h=>by cases h)
    rw[h3,Bool.true_or]at k;exact k
  | false=>
    refine ah (fun h=>by cases h) (fun _=>?_)
    rw[h3,Bool.false_or]at k
    exact CJ c k
 refine bL ?_
 rw[e1]
 cases h1:decide (97≤c.toNat) with
 | true=>
   refine ah (fun _=>?_) (fun h=>by cases h)
   rw[h1,Bool.true_and]at k
   refine eT ?_
   rw[e2]
   cases h2:decide (c.toNat≤122) with
   | true=>
     refine ah (fun _=>?_) (fun h=>by cases h)
     rw[h2,Bool.true_or,Bool.true_or]at k;exact k
   | false=>
     refine ah (fun h=>by cases h) (fun _=>?_)
     rw[h2,Bool.false_or]at k
     exact tail rfl k
 | false=>
   refine ah (fun h=>by cases h) (fun _=>?_)
   rw[h1,Bool.false_and,Bool.false_or]at k
   exact tail rfl k
theorem Yq:FL (.fn (.func kM) [] []) fx:=fun c h Q k=>TA c k
theorem WH:FL (.fn (.func d3) [] []) sV:=fun c h Q k=>CJ c k
theorem AE {p:UInt8→Bool}{l:Str}:decide (((c8 p l:Nat):Int)≠((l.length:Nat):Int))=!(l.all p):=by
 rw[Bool.eq_iff_iff,decide_eq_true_eq,Bool.not_eq_true',← Bool.not_eq_true,← J4];omega
theorem Sn (s:Str) (hs:s.length<4611686018427387904) (k:Q (B (jv s)) h):C p8 [T s] h Q:=by
 refine K3 _ _ _ ?_
 unfold Ki
 cases s with
 | nil=>(repeat refine aU ?_);exact k
 | cons c t=>
 dsimp only[jv]at k
 (repeat (first|refine be ?_|refine bU ?_|refine aU ?_))
 refine ah (fun hl=>?_) (fun hl=>?_)<;>simp only[za,zb,zc,zd,ze,zf,zg,zh,zi,u8i,zj,zk,zl]at hl
 ·have e:decide ((c::t).length≤12)=false:=by simp at hl ⊢;omega
  rw[e,Bool.false_and]at k
  exact k
 have e:decide ((c::t).length≤12)=true:=by simp at hl ⊢;omega
 rw[e,Bool.true_and]at k
 refine gB (by omega) (by simp) ?_
 refine CJ c ?_
 cases h2:sV c with
 | true=>
   refine ah (fun _=>?_) (fun h=>by cases h)
   rw[show bt c.toNat=true from h2]at k
   exact k
 | false=>
 refine ah (fun h=>by cases h) (fun _=>?_)
 rw[show bt c.toNat=false from h2]at k
 simp only[Bool.not_false,Bool.true_and]at k
 refine ud Yq _ hs ?_
 refine be ?_
 refine bT ?_
 rw[AE]
 cases h3:(c::t).all fx with
 | false=>
   refine ah (fun _=>?_) (fun h=>by cases h)
   rw[show ((c::t).all fun c=>dl c.toNat)=false from h3,Bool.false_and]at k
   exact k
 | true=>
 refine ah (fun h=>by cases h) (fun _=>?_)
 rw[show ((c::t).all fun c=>dl c.toNat)=true from h3,Bool.true_and]at k
 refine gB (by omega) (by simp) ?_
 refine bT ?_
 have e4:decide ((((c::t)[Int.toNat 0].toNat:Nat):Int)≠114)=decide (c≠114):=by
  rw[Bool.eq_iff_iff];simp[← UInt8.toNat_inj];omega
 rw[e4]
 cases h4:decide (c≠114) with
 | true=>
   refine ah (fun _=>?_) (fun h=>by cases h)
   rw[h4,Bool.true_or]at k
   exact k
 | false=>
 refine ah (fun h=>by cases h) (fun _=>?_)
 rw[h4,Bool.false_or]at k
 (repeat (first|refine be ?_|refine aA ?_))
 cases t with
 | nil=>refine ah (fun _=>?_) (fun hb=>(by exfalso;first|(simp at hb;done)|(simp at hb;omega)|(revert hb;decide)|omega));exact k
 | cons d t=>
 refine ah (fun h=>by simp at h;omega) (fun _=>?_)
 refine ii (by omega) (by simp;omega) ?_
 rw[show ((c::d::t).drop (Int.toNat 1))=d::t from rfl]
 refine ud WH (d::t) (by simp at hs ⊢;omega) ?_
 refine be ?_
 refine cH (by simp at hs ⊢;omega) ?_
 refine bT ?_
 rw[show (((c::d::t).length:Nat):Int)-1=(((d::t).length:Nat):Int) by simp,AE]
 exact k
def je:Prop:=∀ (s:Str),1≤s.length→s.length≤2→s.all sV=true→∀ (h:ae) (Q:QT),Q (.tup [I (s.foldl (fun n c=>n*10+(c.toNat-48)) 0:Nat),.lit .nilIface]) h→C eu [T s] h Q
def ZM (s:Str):Nat:=s.foldl (fun n c=>n*10+(c.toNat-48)) 0
def yI (s:Str):Nat×Bool:=match s with
 | c::t=>if decide (c=114)&&(decide (t.length=1∨t.length=2)&&(t.all sV&&!(decide (t.length=2)&&decide (t.head?=some 48)))) then (ZM t,decide (ZM t<32)) else (0,false)
 | []=>(0,false)
theorem Nx (hA:je) (s:Str) (hs:s.length<4611686018427387904) (k:Q (.tup [I ((yI s).1:Nat),B (yI s).2]) h):C nI [T s] h Q:=by
 refine Cu _ _ _ ?_
 unfold zP
 (repeat (first|refine be ?_|refine aJ ?_))
 cases s with
 | nil=>refine ah (fun _=>?_) (fun hb=>(by exfalso;first|(simp at hb;done)|(simp at hb;omega)|(revert hb;decide)|omega));exact k
 | cons c t=>
 dsimp only[yI]at k
 refine ah (fun h1=>?_) (fun h1=>?_)<;>simp only[za,zb,zc,zd,ze,zf,zg,zh,zi,u8i,zj,zk,zl]at h1
 ·have:t.length=0:=by simp at h1;omega
  rw[if_neg (by simp;omega)]at k
  exact k
 (repeat (first|refine be ?_|refine bU ?_))
 refine ah (fun h2=>?_) (fun h2=>?_)<;>simp only[za,zb,zc,zd,ze,zf,zg,zh,zi,u8i,zj,zk,zl]at h2
 ·rw[if_neg (by simp at h2 ⊢;omega)]at k
  exact k
 have ht:t.length=1∨t.length=2:=by simp at h1 h2;omega
 refine gB (by omega) (by simp) ?_
 (repeat refine bT ?_)
 have e4:decide ((((c::t)[Int.toNat 0].toNat:Nat):Int)≠114)=decide (c≠114):=by
  rw[Bool.eq_iff_iff];simp[← UInt8.toNat_inj];omega
 rw[e4]
 refine ah (fun h3=>?_) (fun h3=>?_)<;>simp only[za,zb,zc,zd,ze,zf,zg,zh,zi,u8i,zj,zk,zl]at h3
 ·rw[if_neg (by simp[h3])]at k
  exact k
 have h3:c=114:=by simpa using h3
 refine ii (by omega) (by simp;omega) ?_
 rw[show ((c::t).drop (Int.toNat 1))=t from rfl]
 refine ud WH t (by omega) ?_
 (repeat (first|refine be ?_|refine bT ?_|refine cH (by omega) ?_))
 rw[show (((c::t).length:Nat):Int)-1=((t.length:Nat):Int) by simp,AE]
 cases h5:t.all sV with
 | false=>
   refine ah (fun _=>?_) (fun h=>by cases h)
   rw[if_neg (by simp[h5])]at k
   exact k
 | true=>
 refine ah (fun h=>by cases h) (fun _=>?_)
 (repeat (first|refine be ?_|refine aA ?_))
 have fin:(!(decide (t.length=2)&&decide (t.head?=some 48)))=true→bm (T (c::t)) (some (I 1)) none fun t40=>C eu [t40] h fun t41 h1=>an 0 t41 fun t42=>an 1 t41 fun t43=>ai .lss t42 (I 32) fun t46=>Q (.tup [t42,t46]) h1:=by
  intro hz
  refine ii (by omega) (by simp;omega) ?_
  rw[show ((c::t).drop (Int.toNat 1))=t from rfl]
  refine hA t (by omega) (by omega) h5 _ _ ?_
  (repeat (first|refine aF rfl ?_|refine aJ ?_))
  rw[if_pos (by simp only[h3,h5,hz,decide_true,Bool.true_and,Bool.and_true,decide_eq_true_eq];exact ht)]at k
  have e5:decide (((t.foldl (fun n c=>n*10+(c.toNat-48)) 0:Nat):Int)<32)=decide (ZM t<32):=by
   unfold ZM;rw[Bool.eq_iff_iff,decide_eq_true_eq,decide_eq_true_eq];omega
  rw[e5]
  exact k
 cases h6:decide (t.length=2) with
 | true=>
   simp only[decide_eq_true_eq]at h6
   obtain⟨a,b,rfl⟩:∃ a b,t=[a,b]:=by
    match t,h6 with
    | [a,b],_=>exact⟨a,b,rfl⟩
   have e6:decide ((([c,a,b].length:Nat):Int)=3)=true:=by simp
   rw[e6]
   refine sL (ah (fun _=>?_) (fun h=>by cases h)) ⟨_,rfl⟩
   refine gB (by omega) (by simp) ?_
   refine aA ?_
   have e7:decide ((([c,a,b][Int.toNat 1].toNat:Nat):Int)=48)=decide (a=48):=by
    rw[Bool.eq_iff_iff];simp[← UInt8.toNat_inj];omega
   rw[e7]
   refine ah (fun h8=>?_) (fun h8=>?_)<;>simp only[za,zb,zc,zd,ze,zf,zg,zh,zi,u8i,zj,zk,zl]at h8
   ·rw[if_neg (by simp[h8])]at k;exact k
   ·exact fin (by simp[h8])
 | false=>
   simp only[decide_eq_false_iff_not]at h6
   have e6:decide ((((c::t).length:Nat):Int)=3)=false:=by simp;omega
   rw[e6]
   refine sL (ah (fun h=>by cases h) (fun _=>?_)) ⟨_,rfl⟩
   exact fin (by simp[h6])
def bZ (s:Str):List Str:=if s=[] then [] else (bG 44 s).map uq
theorem ji (c:UInt8):∀ (l x:Str),x∈bG c l→x.length≤l.length
 | [],x,h=>by simp[bG]at h;subst h;simp
 | a::l,x,h=>by
   unfold bG at h
   split at h
   ·rcases List.mem_cons.1 h with rfl|h
    ·simp
    ·have:=ji c l x h;simp;omega
   ·cases hs:bG c l with
    | nil=>rw[hs]at h;simp at h;subst h;simp
    | cons p ps=>
      rw[hs]at h
      rcases List.mem_cons.1 h with rfl|h
      ·have:=ji c l p (by rw[hs];simp);simp;omega
      ·have:=ji c l x (by rw[hs];simp[h]);simp;omega
theorem K9 (hI:gq) (s:Str) (hs:s.length<4000000000) (k:∀ h',Fr [] h h'→Q (.snap (bZ s).length ((bZ s).flatMap sE)) h'):C nG [T s] h Q:=by
 refine ACall.conv ?_
 refine Cy _ _ _ ?_
 unfold zn
 unfold bZ at k
 (repeat refine aU ?_)
 refine ah (fun hb=>?_) (fun hb=>?_)<;>simp only[za,zb,zc,zd,ze,zf,zg,zh,zi,u8i,zj,zk,zl]at hb
 ·rw[if_pos hb]at k
  exact en (k _ (Fr.refl _ _))
 rw[if_neg hb]at k
 refine Kb hI 44 s hs fun i h1 s1=>?_
 have hsum:=ji 44 s
 have hlen:=jy 44 s
 have hcnt:=List.count_le_length (a:=44) (l:=s)
 generalize bG 44 s=ps at s1 k hsum hlen ⊢
 (repeat refine W1 ?_)
 refine aP (fun n vs h'=>∃ j:Nat,vs=[I (j:Nat)]∧n+j=ps.length∧St h [] h' [(i,true,.cells (((ps.take j).map uq++ps.drop j).flatMap fun x=>[T x]))]) ps.length ⟨0,rfl,by omega,by simpa using s1⟩ ?_
 rintro n vs h2 ⟨j,rfl,hn,s2⟩
 unfold tx
 (repeat refine aJ ?_)
 have hll:((ps.take j).map uq++ps.drop j).length=ps.length:=by simp;omega
 refine ah (fun hb2=>?_) (fun hb2=>?_)<;>simp only[za,zb,zc,zd,ze,zf,zg,zh,zi,u8i,zj,zk,zl]at hb2
 ·have hj:j<ps.length:=hb2
  refine yg hj ?_
  rw[Nat.mul_one]
  have hx:((ps.take j).map uq++ps.drop j)[j]?=some ps[j]:=by
   rw[List.getElem?_append_right (by simp;omega),List.getElem?_drop]
   have:j+(j-((ps.take j).map uq).length)=j:=by simp;omega
   rw[this];simp[hj]
  refine af (a:=T ps[j]) s2 (.head _) (by rw[VR,List.getElem?_map,hx];rfl) ?_
  refine Fv _ (by have:=hsum _ (List.getElem_mem hj);omega) fun h3 f3=>?_
  have s3:=s2.call f3
  refine yg hj ?_
  rw[Nat.mul_one]
  refine ay s3 .head rfl rfl rfl (by rw[fM _ 1 (fun _=>rfl),hll];omega) fun h4 s4=>?_
  rw[show (T (uq ps[j])).cells=[T (uq ps[j])] from rfl,zW (by omega)]at s4
  (repeat refine aH (by omega) ?_)
  refine⟨n-1,by omega,j+1,rfl,by omega,?_⟩
  have e:((ps.take j).map uq++ps.drop j).set j (uq ps[j])=(ps.take (j+1)).map uq++ps.drop (j+1):=by
   rw[List.set_append_right _ _ (by simp;omega),show j-((ps.take j).map uq).length=0 by simp;omega,List.drop_eq_getElem_cons hj,List.set_cons_zero,List.take_succ_eq_append_getElem hj,List.map_append,List.append_assoc];rfl
  rw[e]at s4;exact s4
 ·rw[List.take_of_length_le (by omega),List.drop_of_length_le (by omega),List.append_nil]at s2
  have:=qb (n:=ps.length) (sz:=1) (Q:=Q) (s2.get (i:=i) (.head _)) (by rw[fM _ 1 (fun _=>rfl)];simp) (by
   have:=k _ (s2.kill .head).fr
   simpa using this)
  exact this
end
end
end
section
noncomputable section
variable [Tabs]
structure Ar where
 reg:Int
 e:Ex
 deriving DecidableEq
def arE (a:Ar):List AV:=I a.reg::bq a.e
theorem bQ (a:Ar):(arE a).length=5:=by simp[arE,aq]
theorem A8 (a:Ar):(arE a).all AV.one=true:=by simp only[arE,List.all_cons,aV];rfl
theorem SV:∀ l:List Ar,(l.flatMap arE).all AV.one=true
 | []=>rfl
 | a::l=>by rw[List.flatMap_cons,List.all_append,A8,SV l];rfl
structure RS where
 lab:Str
 kind:Nat
 op:Nat
 text:Str
 args:List Ar
abbrev rdO (rs:RS) (v:AV):AObj:=.cells [I 1,T rs.lab,I (rs.kind:Nat),I (rs.op:Nat),T rs.text,v]
def RSt (h0 h:ae) (i:Nat) (rs:RS):Prop:=∃ v E,AccE 5 v rs.args.length (rs.args.flatMap arE) E∧St h0 [] h (E++[(i,true,rdO rs v)])
theorem RSt.call {h0 h h':ae}{i:Nat}{rs:RS}(r:RSt h0 h i rs) (f:Fr [] h h'):RSt h0 h' i rs:=by
 obtain⟨v,E,a,s⟩:=r
 exact⟨v,E,a,s.call f⟩
theorem AccE.mem {sz n i:Nat}{v:AV}{cs:List AV}{E:Own}{x:Nat×Bool×AObj}:x∈E++[x]:=by simp
section
variable {h0 h:ae}{Q:QT}{i:Nat}
theorem RSt.put {rs rs':RS}(r:RSt h0 h i rs) {o:Nat}{u:AV}{K:ae→Prop}(hu:u.isTup=false) (hc:u.cells.length=1) (h1:u.cells.all AV.one=true) (ho:o+1≤6) (ha:rs'.args=rs.args)
  (he:∀ v,splice [I 1,T rs.lab,I (rs.kind:Nat),I (rs.op:Nat),T rs.text,v] o u.cells=[I 1,T rs'.lab,I (rs'.kind:Nat),I (rs'.op:Nat),T rs'.text,v]) (k:∀ h',RSt h0 h' i rs'→K h'):ak 1 (.ptr i o) u h K:=by
 obtain⟨v,E,a,s⟩:=r
 rcases a with ⟨a1,a2,rfl,rfl⟩|⟨a1,j,rfl,rfl⟩
 ·refine ay s (L':=[(i,true,rdO rs' (.full 0 []))]) (cs:=[I 1,T rs.lab,I (rs.kind:Nat),I (rs.op:Nat),T rs.text,.full 0 []]) (by rw[he];exact .head) hu hc h1 ho fun h' s'=>?_
  exact k h' ⟨_,[],.inl ⟨by rw[ha];exact a1,by rw[ha];exact a2,rfl,rfl⟩,s'⟩
 ·refine ay s (L':=[(j,true,.cells (rs.args.flatMap arE)),(i,true,rdO rs' (.sl j 0 rs.args.length 5))]) (cs:=[I 1,T rs.lab,I (rs.kind:Nat),I (rs.op:Nat),T rs.text,.sl j 0 rs.args.length 5]) (by rw[he];exact .tail .head) hu hc h1 ho fun h' s'=>?_
  exact k h' ⟨_,_,.inr ⟨by rw[ha];exact a1,j,by rw[ha],rfl⟩,by rw[ha];exact s'⟩
theorem RSt.load {rs:RS}(r:RSt h0 h i rs) {o:Nat}{a:AV}{K:AV→Prop}(ho:∀ v,[I 1,T rs.lab,I (rs.kind:Nat),I (rs.op:Nat),T rs.text,v][o]?=some a) (k:K a):ag (.ptr i o) h K:=by
 obtain⟨v,E,a,s⟩:=r
 exact af s (List.mem_append_right _ (.head _)) (ho v) k
inductive Way where
 | value
 | reg
 | word
abbrev aaR:Way→FuncId
 | .value=>bB
 | .reg=>ee
 | .word=>gm
def Gy (i:Nat) (w:Way):List AV:=[.fn (.func (aaR w)) [.ptr i 0] []]
def ki:Way→Str→RS→RS×Bool
 | .value,s,rs=>match gI s with
   | some x=>({ rs with args:=rs.args++[⟨-1,x⟩] },true)
   | none=>({ rs with args:=rs.args++[⟨-1,.none⟩] },false)
 | .reg,s,rs=>({ rs with args:=rs.args++[⟨(yI s).1,.none⟩] },(yI s).2)
 | .word,s,rs=>({ rs with text:=s },jv s)
theorem JQ (w:Way) (s:Str) (rs:RS):(ki w s rs).1.args.length≤rs.args.length+1:=by
 cases w<;>simp only[ki]
 ·cases gI s<;>simp
 ·simp
 ·simp
theorem aaT (hA:je) (w:Way) (s:Str) (hs:s.length<4000000000) {rs:RS}(hn:rs.args.length<1000) (r:RSt h0 h i rs) (k:∀ h',RSt h0 h' i (ki w s rs).1→Q (B (ki w s rs).2) h'):C (aaR w) [.ptr i 0,T s] h Q:=by
 cases w with
 | value=>
   show C bB _ _ _
   refine wV _ _ _ _ ?_
   unfold ri
   have fin:∀ (x:Ex) (b:Bool) (h1:ae),Fr [] h h1→ki .value s rs=({ rs with args:=rs.args++[⟨-1,x⟩] },b)→df [(I 0),(I 0),(S ⟨#[]⟩),(.full 0 [])] h1 fun t5 h1=>ak 4 t5 (.agg (bq x)) h1 fun h2=>aE (.ptr i 0) fun t14=>ab 0 t14 fun t15=>ab 5 t15 fun t16=>ag t16 h2 fun t17=>aw 4 t5 h2 fun t18=>ax [(I 0),(I 0),(I 0),(S ⟨#[]⟩),(.full 0 [])] [(0,1,(I (-1))),(1,4,t18)] fun t19=>ao 1 5 [t19] fun t20=>bc 5 64 t17 t20 h2 fun t21 h3=>aE (.ptr i 0) fun t22=>ab 0 t22 fun t23=>ab 5 t23 fun t24=>ak 1 t24 t21 h3 fun h4=>Q (B b) h4:=by
    intro x b h1 f1 hst
    obtain⟨v,E,a,s1⟩:=r.call f1
    refine aQ s1 fun q h2 s2=>?_
    refine aM s2 rfl (aq _) (aV _) .head fun h3 s3=>?_
    have s4:=s3.drop1
    refine au (aj (aj (af s4 (cs:=[I 1,T rs.lab,I (rs.kind:Nat),I (rs.op:Nat),T rs.text,v]) (b:=true) (List.mem_append_right _ (.head _)) rfl ?_)))
    refine aL s3 (aq _) (.head _) ?_
    refine aD (cs:=arE ⟨-1,x⟩) ?_ ?_
    ·obtain⟨c1,c2,c3,c4,e4⟩:=Z9 (aq x)
     simp only[arE,e4]
     rfl
    refine aB rfl (by simp[AV.isTup,AV.cells,bQ]) ?_
    rw[show ([AV.agg (arE ⟨-1,x⟩)].flatMap fun x=>x.cells)=arE ⟨-1,x⟩ by simp[AV.cells]]
    refine a.app s4 (xs:=arE ⟨-1,x⟩) (m:=1) (Rd.full (by rw[bQ])) (A8 _) (by omega) fun v' E' h5 a5 s5=>?_
    refine au (aj (aj ?_))
    rw[hst]at k
    rcases a5 with ⟨a1,a2,rfl,rfl⟩|⟨a1,j,rfl,rfl⟩
    ·simp at a1
    ·refine ay s5 (L':=[(j,true,.cells (rs.args.flatMap arE++arE ⟨-1,x⟩)),(i,true,rdO { rs with args:=rs.args++[⟨-1,x⟩] } (.sl j 0 (rs.args.length+1) 5))]) (cs:=[I 1,T rs.lab,I (rs.kind:Nat),I (rs.op:Nat),T rs.text,v]) (.tail .head) rfl rfl rfl (nle rfl) fun h6 s6=>?_
     exact k h6 ⟨.sl j 0 (rs.args.length+1) 5,[(j,true,.cells (rs.args.flatMap arE++arE ⟨-1,x⟩))],.inr ⟨by simpa using a1,j,by simp,by simp⟩,s6⟩
   refine Wx s (fun x hx h1 f1=>?_) (fun hx h1 f1=>?_)
   ·(repeat refine aF rfl ?_)
    exact fin x true h1 f1 (by simp[ki,hx])
   ·(repeat refine aF rfl ?_)
    exact fin .none false h1 f1 (by simp[ki,hx])
 | reg=>
   show C ee _ _ _
   refine ug _ _ _ _ ?_
   unfold oA
   refine Nx hA s (by omega) ?_
   (repeat (first|refine au ?_|refine aj ?_|refine aF rfl ?_))
   obtain⟨v,E,a,s1⟩:=r
   refine af s1 (cs:=[I 1,T rs.lab,I (rs.kind:Nat),I (rs.op:Nat),T rs.text,v]) (b:=true) (List.mem_append_right _ (.head _)) rfl ?_
   refine aD (cs:=arE ⟨(yI s).1,.none⟩) rfl ?_
   refine aB rfl (by simp[AV.isTup,AV.cells,bQ]) ?_
   rw[show ([AV.agg (arE ⟨(yI s).1,.none⟩)].flatMap fun x=>x.cells)=arE ⟨(yI s).1,.none⟩ by simp[AV.cells]]
   refine a.app s1 (xs:=arE ⟨(yI s).1,.none⟩) (m:=1) (Rd.full (by rw[bQ])) (A8 _) (by omega) fun v' E' h5 a5 s5=>?_
   refine au (aj (aj ?_))
   rcases a5 with ⟨a1,a2,rfl,rfl⟩|⟨a1,j,rfl,rfl⟩
   ·simp at a1
   ·refine ay s5 (L':=[(j,true,.cells (rs.args.flatMap arE++arE ⟨(yI s).1,.none⟩)),(i,true,rdO { rs with args:=rs.args++[⟨(yI s).1,.none⟩] } (.sl j 0 (rs.args.length+1) 5))]) (cs:=[I 1,T rs.lab,I (rs.kind:Nat),I (rs.op:Nat),T rs.text,v]) (.tail .head) rfl rfl rfl (nle rfl) fun h6 s6=>?_
    exact k h6 ⟨.sl j 0 (rs.args.length+1) 5,[(j,true,.cells (rs.args.flatMap arE++arE ⟨(yI s).1,.none⟩))],.inr ⟨by simpa [ki] using a1,j,by simp[ki],by simp[ki]⟩,s6⟩
 | word=>
   show C gm _ _ _
   refine yR _ _ _ _ ?_
   unfold tt
   (repeat (first|refine au ?_|refine aj ?_))
   refine r.put (rs':={ rs with text:=s }) rfl rfl rfl (by omega) rfl (fun v=>rfl) fun h1 r1=>?_
   refine Sn s (by omega) ?_
   exact k h1 r1
def goW:List Way→List Str→RS→RS×Bool
 | w::ws,s::ss,rs=>if (ki w s rs).2=true then goW ws ss (ki w s rs).1 else ((ki w s rs).1,false)
 | _,_,rs=>(rs,true)
def oL (l:List Str) (ws:List Way) (rs:RS):RS×Bool:=if l.length=ws.length then goW ws l rs else (rs,false)
theorem QY (hA:je) (l:List Str) (hl:l.length<4000000000) (hs:∀ s∈l,s.length<4000000000) (ws:List Way) (hw:ws.length<900) {rs:RS}(hn:rs.args.length=0) (r:RSt h0 h i rs) {v1 v2:AV}
  (R1:∀ h',Row sE 1 h' v1 l) (R2:∀ h',Row (Gy i) 1 h' v2 ws) (k:∀ h',RSt h0 h' i (oL l ws rs).1→Q (B (oL l ws rs).2) h'):C fK [v1,v2] h Q:=by
 refine OG _ _ _ _ ?_
 unfold OB
 refine (R1 h).len ?_
 refine (R2 h).len ?_
 refine aA ?_
 have e1:decide (((l.length:Nat):Int)=((ws.length:Nat):Int))=decide (l.length=ws.length):=abq
 rw[e1]
 unfold oL at k
 by_cases hlen:l.length=ws.length
 ·rw[if_pos hlen]at k
  rw[decide_eq_true hlen]
  refine aP (fun n vs h'=>∃ (j:Nat) (b:Bool) (rs':RS),vs=[B b,I (j:Nat)]∧n+j=ws.length∧RSt h0 h' i rs'∧rs'.args.length≤j∧
   goW ws l rs=(if b=true then goW (ws.drop j) (l.drop j) rs' else (rs',false))) ws.length ⟨0,true,rs,rfl,by omega,r,by omega,rfl⟩ ?_
  rintro n vs h' ⟨j,b,rs',rfl,hn2,r2,ha,hg⟩
  unfold xg
  refine (R2 h').len ?_
  (repeat refine aJ ?_)
  refine ah (fun hb=>?_) (fun hb=>?_)<;>simp only[za,zb,zc,zd,ze,zf,zg,zh,zi,u8i,zj,zk,zl]at hb
  ·have hj:j<ws.length:=hb
   cases b with
   | true=>
     refine ah (fun _=>?_) (fun h=>by cases h)
     refine (R2 h').idx (fun _=>rfl) hj fun p t=>?_
     refine aI t ?_
     refine (R1 h').idx (fun _=>rfl) (show j<l.length by omega) fun p t=>?_
     refine aI t ?_
     show ACall Pg (aaR ws[j]) [.ptr i 0,T l[j]] h' _
     rw[if_pos rfl,List.drop_eq_getElem_cons hj,List.drop_eq_getElem_cons (show j<l.length by omega),goW]at hg
     have hsl:=JQ ws[j] l[j] rs'
     refine aaT hA ws[j] l[j] (hs _ (by simp)) (by omega) r2 fun h3 r3=>?_
     (repeat refine aH (by omega) ?_)
     refine⟨n-1,by omega,j+1,_,_,rfl,by omega,r3,by omega,hg⟩
   | false=>
     refine ah (fun h=>by cases h) (fun _=>?_)
     rw[if_neg (by simp)]at hg
     rw[hg]at k
     exact k h' r2
  ·have hj:ws.length≤j:=by omega
   cases b with
   | true=>
     rw[if_pos rfl,List.drop_of_length_le hj,List.drop_of_length_le (by omega)]at hg
     rw[hg]at k
     exact k h' r2
   | false=>
     rw[if_neg (by simp)]at hg
     rw[hg]at k
     exact k h' r2
 ·rw[if_neg hlen]at k
  rw[decide_eq_false hlen]
  refine aP (fun n vs h'=>vs=[B false,I 0]∧h'=h) 0 ⟨rfl,rfl⟩ ?_
  rintro n vs h' ⟨rfl,rfl⟩
  unfold xg
  refine (R2 h').len ?_
  (repeat refine aJ ?_)
  refine ah (fun hb=>?_) (fun hb=>?_)<;>simp only[za,zb,zc,zd,ze,zf,zg,zh,zi,u8i,zj,zk,zl]at hb
  ·refine ah (fun h=>by cases h) (fun _=>?_)
   exact k h' r
  ·exact k h' r
end
end
end
section
noncomputable section
variable [Tabs]
section
variable {h0 h:ae}{M:List Nat}{L L':Own}{Q:QT}{i:Nat}
theorem St.join {h':ae}(s:St h0 M h L) (s':St h [] h' L') (ht:∀ e∈L',e.2.1=true):St h0 M h' (L'++L) where
 fr:=s.fr.trans s'.fr (by simp)
 at_ e he:=by
  rcases List.mem_append.1 he with he|he
  ·exact s'.at_ e he
  ·exact s'.fr.get (s.at_ e he) (by simp)
 own e he hb hl:=by
  rcases List.mem_append.1 he with he|he
  ·have:=s'.own e he hb (Nat.lt_of_lt_of_le hl s.fr.len);simp at this
  ·exact s.own e he hb hl
 nd:=by
  rw[List.map_append,List.nodup_append]
  refine⟨s'.nd,s.nd,fun a ha b hb hab=>?_⟩
  subst hab
  rw[List.mem_map]at ha hb
  obtain⟨x,hx,rfl⟩:=ha
  obtain⟨y,hy,hxy⟩:=hb
  have h1:=ju (s.at_ y hy)
  have h2:=s'.own x hx (ht x hx) (by omega)
  simp at h2
theorem AccE.own {sz n:Nat}{v:AV}{cs:List AV}{E:Own}(a:AccE sz v n cs E):∀ e∈E,e.2.1=true:=by
 rcases a with ⟨_,_,_,rfl⟩|⟨_,j,_,rfl⟩<;>simp
theorem Z2 (fv:AV) (h1:fv.one=true) (hc:fv.cells=[fv]) (ht:fv.isTup=false) (n:Nat) (hn:n<1000) (k:∀ v E h',AccE 1 v n (List.replicate n fv) E→St h [] h' E→Q v h'):C jG [fv,I (n:Nat)] h Q:=by
 refine Lq _ _ _ _ ?_
 unfold Kq
 refine aP (fun m vs h'=>∃ (j:Nat) (v:AV) (E:Own),vs=[v,I (j:Nat)]∧m+j=n∧AccE 1 v j (List.replicate j fv) E∧St h [] h' (E++[])) n ⟨0,.full 0 [],[],rfl,by omega,.none 1,St.start h⟩ ?_
 rintro m vs h' ⟨j,v,E,rfl,hm,a,s⟩
 unfold Cc
 (repeat refine aJ ?_)
 refine ah (fun hb=>?_) (fun hb=>?_)<;>simp only[za,zb,zc,zd,ze,zf,zg,zh,zi,u8i,zj,zk,zl]at hb
 ·have hj:j<n:=hb
  refine aB rfl (by simp[ht,hc]) ?_
  rw[show ([fv].flatMap fun x=>x.cells)=[fv] by simp[hc]]
  refine a.app s (xs:=[fv]) (m:=1) (Rd.full rfl) (by simp[h1]) (by omega) fun v' E' h3 a3 s3=>?_
  (repeat refine aH (by omega) ?_)
  refine⟨m-1,by omega,j+1,v',E',rfl,by omega,?_,s3⟩
  rw[List.replicate_succ'];exact a3
 ·have hj:j=n:=by omega
  subst hj
  exact k v E h' a (by simpa using s)
theorem Oe (k:Nat) (cs:List AV):∀ l:List Str,fzL k cs (l.flatMap sE)=l.flatMap sE
 | []=>rfl
 | x::l=>by
   rw[List.flatMap_cons]
   show fz k cs (T x)::fzL k cs (l.flatMap sE)=_
   rw[Oe k cs l];rfl
theorem I9 (hA:je) (l:List Str) (hl:l.length<4000000000) (hs:∀ s∈l,s.length<4000000000) (ws:List Way) (hw:ws.length<900) {rs:RS}(hn:rs.args.length=0) {v:AV}{E:Own}(a:AccE 1 v ws.length (ws.flatMap (Gy i)) E)
  {v0:AV} {E0:Own} (a0:AccE 5 v0 rs.args.length (rs.args.flatMap arE) E0) (s:St h0 [] h (E++(E0++[(i,true,rdO rs v0)]))) (k:∀ h',RSt h0 h' i (oL l ws rs).1→Q (B (oL l ws rs).2) h'):C fK [.snap l.length (l.flatMap sE),v] h Q:=by
 rcases a with ⟨a1,a2,rfl,rfl⟩|⟨a1,j,rfl,rfl⟩
 ·have:ws=[]:=List.length_eq_zero_iff.1 a1
  subst this
  exact QY hA l hl hs [] hw hn ⟨v0,E0,a0,s⟩ (fun h'=>Row.snap (enc:=sE) (fun _=>rfl) l) (fun h'=>.nil) k
 ·refine ACall.frzArg (s.get (.head _)) ?_
  simp only[fzL,fz]
  rw[if_pos ⟨trivial,by omega⟩,Oe,List.drop_zero,List.take_of_length_le (by omega)]
  exact QY hA l hl hs ws hw hn ⟨v0,E0,a0,s.kill .head⟩ (fun h'=>Row.snap (enc:=sE) (fun _=>rfl) l) (fun h'=>Row.snap (enc:=Gy i) (fun _=>rfl) ws) k
theorem EU (hI:gq) (s sub:Str) (hs:s.length<4294967281) (k:Q (B (decide (0≤Lib.index s sub))) h):C kF [T s,T sub] h Q:=by
 refine yK _ _ _ _ ?_
 unfold ul
 refine hI s sub _ _ hs ?_
 (repeat refine bL ?_)
 exact k
def lA (k:Str):Way:=if decide (0≤Lib.index [32,88,32,89,32,68,32,65,32,66,32] ([32]++k++[32]))=true then .reg else .value
theorem Vt:∀ r∈tbl,∀ k∈cT r.kinds,k.length<10:=by decide
theorem FM (hF:cy) (hI:gq) (hA:je) {rs:RS}(ho:rs.op<tbl.length) (hn:rs.args.length=0) (r:RSt h0 h i rs) (l:List Str) (hl:l.length<4000000000) (hs:∀ s∈l,s.length<4000000000)
  (k:∀ h',RSt h0 h' i (oL l ((cT (bp rs.op)).map lA) rs).1→Q (B (oL l ((cT (bp rs.op)).map lA) rs).2) h'):C eU [.ptr i 0,.snap l.length (l.flatMap sE)] h Q:=by
 refine qL _ _ _ _ ?_
 unfold lJ
 (repeat (first|refine au ?_|refine aj ?_))
 refine r.load (a:=I (rs.op:Nat)) (fun v=>rfl) ?_
 refine M6 ho fun h1 f1=>?_
 rw[jh ho]
 have hmem:tbl[rs.op]∈tbl:=by simp
 refine Cp hF hmem ?_
 have hk1:=CC _ hmem
 have hk2:=Vt _ hmem
 rw[← jh ho]at hk1 hk2 ⊢
 have r1:=r.call f1
 generalize cT (bp rs.op)=ks at k hk1 hk2 ⊢
 have RK:∀ h,Row sE 1 h (.snap ks.length (ks.flatMap fun x=>[T x])) ks:=fun h=>Row.snap (enc:=sE) (fun _=>rfl) ks
 obtain⟨v0,E0,a0,s0⟩:=r1
 (repeat refine dB ?_)
 refine aP (fun m vs h'=>∃ (j:Nat) (v:AV) (E:Own),vs=[v,I (j:Nat)]∧m+j=ks.length∧AccE 1 v j (((ks.take j).map lA).flatMap (Gy i)) E∧St h0 [] h' (E++(E0++[(i,true,rdO rs v0)]))) ks.length ⟨0,.full 0 [],[],rfl,by omega,.none 1,s0⟩ ?_
 rintro m vs h' ⟨j,v,E,rfl,hm,a,s⟩
 unfold jl
 (repeat refine aJ ?_)
 refine ah (fun hb=>?_) (fun hb=>?_)<;>simp only[za,zb,zc,zd,ze,zf,zg,zh,zi,u8i,zj,zk,zl]at hb
 ·have hj:j<ks.length:=hb
  refine (RK h').idx (fun _=>rfl) hj fun p t=>?_
  refine aI t ?_
  have hkl:=hk2 ks[j] (by simp)
  refine dU (by simp;omega) ?_
  refine dU (by simp;omega) ?_
  refine EU hI _ _ (by decide) ?_
  have hnext:((ks.take (j+1)).map lA).flatMap (Gy i)=((ks.take j).map lA).flatMap (Gy i)++Gy i (lA ks[j]):=by
   rw[List.take_succ_eq_append_getElem hj,List.map_append,List.flatMap_append];simp[List.flatMap_cons]
  refine ah (fun hc=>?_) (fun hc=>?_)
  ·refine aB rfl rfl ?_
   refine a.app s (xs:=Gy i .reg) (m:=1) (Rd.full rfl) rfl (by omega) fun v' E' h3 a3 s3=>?_
   unfold dq fe
   refine aH (by omega) ?_
   refine⟨m-1,by omega,j+1,v',E',rfl,by omega,?_,s3⟩
   rw[hnext,show lA ks[j]=.reg by unfold lA;rw[if_pos hc]];exact a3
  ·refine aB rfl rfl ?_
   refine a.app s (xs:=Gy i .value) (m:=1) (Rd.full rfl) rfl (by omega) fun v' E' h3 a3 s3=>?_
   unfold dq fe
   refine aH (by omega) ?_
   refine⟨m-1,by omega,j+1,v',E',rfl,by omega,?_,s3⟩
   rw[hnext,show lA ks[j]=.value by unfold lA;rw[if_neg (by rw[hc];simp)]];exact a3
 ·have hj:j=ks.length:=by omega
  subst hj
  rw[List.take_length]at a
  refine I9 hA l hl hs (ks.map lA) (by simp;omega) hn (v:=v) (E:=E) (by simpa using a) a0 s k
def okC (c:UInt8):Bool:=decide (32≤c.toNat)&&(decide (c.toNat≤126)&&decide (c≠34))
theorem aaU:FL (.fn (.func eM) [] []) okC:=fun c h Q k=>by
 show ACall Pg eM [U8 c] h Q
 refine vg _ _ _ ?_
 unfold pD
 have e1:decide ((32:Int)≤c.toNat)=decide (32≤c.toNat):=vN (a:=32)
 have e2:decide ((c.toNat:Int)≤126)=decide (c.toNat≤126):=vN (b:=126)
 have e3:decide ((c.toNat:Int)≠34)=decide (c≠34):=by rw[Bool.eq_iff_iff];simp[← UInt8.toNat_inj];omega
 unfold okC at k
 refine bL ?_
 rw[e1]
 cases h1:decide (32≤c.toNat) with
 | true=>
   refine ah (fun _=>?_) (fun h=>by cases h)
   rw[h1,Bool.true_and]at k
   refine eT ?_
   rw[e2]
   cases h2:decide (c.toNat≤126) with
   | true=>
     refine ah (fun _=>?_) (fun h=>by cases h)
     rw[h2,Bool.true_and]at k
     refine bT ?_
     rw[e3];exact k
   | false=>
     refine ah (fun h=>by cases h) (fun _=>?_)
     rw[h2,Bool.false_and]at k;exact k
 | false=>
   refine ah (fun h=>by cases h) (fun _=>?_)
   rw[h1,Bool.false_and]at k;exact k
def AK (s:Str) (rs:RS):RS×Bool:=
 if s.length<2∨62<s.length∨s[0]?≠some 34∨s[s.length-1]?≠some 34 then (rs,false)
 else ({ rs with text:=(s.drop 1).take (s.length-2) },((s.drop 1).take (s.length-2)).all okC)
theorem V4 (s:Str) {rs:RS}(r:RSt h0 h i rs) (k:∀ h',RSt h0 h' i (AK s rs).1→Q (B (AK s rs).2) h'):C jE [.ptr i 0,T s] h Q:=by
 refine xV _ _ _ _ ?_
 unfold rn
 unfold AK at k
 (repeat (first|refine be ?_|refine aJ ?_))
 refine ah (fun h1=>?_) (fun h1=>?_)<;>simp only[za,zb,zc,zd,ze,zf,zg,zh,zi,u8i,zj,zk,zl]at h1
 ·rw[if_pos (.inl (by omega))]at k;exact k h r
 (repeat (first|refine be ?_|refine bU ?_))
 refine ah (fun h2=>?_) (fun h2=>?_)<;>simp only[za,zb,zc,zd,ze,zf,zg,zh,zi,u8i,zj,zk,zl]at h2
 ·rw[if_pos (.inr (.inl (by omega)))]at k;exact k h r
 have hl1:2≤s.length:=by omega
 have hl2:s.length≤62:=by omega
 refine gB (by omega) (by simp;omega) ?_
 refine bT ?_
 have c34:∀ c:UInt8,decide ((c.toNat:Int)≠34)=decide (c≠34):=fun c=>by rw[Bool.eq_iff_iff];simp[← UInt8.toNat_inj];omega
 rw[c34]
 refine ah (fun h3=>?_) (fun h3=>?_)<;>simp only[za,zb,zc,zd,ze,zf,zg,zh,zi,u8i,zj,zk,zl]at h3
 ·rw[if_pos (.inr (.inr (.inl (by rw[List.getElem?_eq_getElem (by omega)];simpa using h3))))]at k;exact k h r
 have h3:s[0]?=some 34:=by rw[List.getElem?_eq_getElem (by omega)];simpa using h3
 (repeat (first|refine be ?_|refine cH (by omega) ?_))
 refine gB (by omega) (by omega) ?_
 refine bT ?_
 rw[c34]
 have e1:((s.length:Int)-1).toNat=s.length-1:=by omega
 refine ah (fun h4=>?_) (fun h4=>?_)<;>simp only[za,zb,zc,zd,ze,zf,zg,zh,zi,u8i,zj,zk,zl]at h4
 ·rw[if_pos (.inr (.inr (.inr (by rw[List.getElem?_eq_getElem (by omega)];simp only[e1]at h4;simpa using h4))))]at k;exact k h r
 have h4:s[s.length-1]?=some 34:=by rw[List.getElem?_eq_getElem (by omega)];simp only[e1]at h4;simpa using h4
 rw[if_neg (by rintro (h|h|h|h)<;>first|omega|exact h h3|exact h h4)]at k
 (repeat (first|refine be ?_|refine cH (by omega) ?_))
 refine Hx (by omega) (by omega) (by omega) ?_
 rw[e1,show s.length-1-Int.toNat 1=s.length-2 by simp;omega,show Int.toNat 1=1 from rfl]
 (repeat (first|refine au ?_|refine aj ?_))
 refine r.put (rs':={ rs with text:=(s.drop 1).take (s.length-2) }) rfl rfl rfl (by omega) rfl (fun v=>rfl) fun h5 r5=>?_
 (repeat (first|refine au ?_|refine aj ?_))
 refine r5.load (a:=T ((s.drop 1).take (s.length-2))) (fun v=>rfl) ?_
 (repeat (first|refine au ?_|refine aj ?_))
 refine r5.load (a:=T ((s.drop 1).take (s.length-2))) (fun v=>rfl) ?_
 (repeat refine be ?_)
 refine ud aaU _ (by simp;omega) ?_
 refine⟨r5.load (fun v=>rfl) rfl,?_⟩
 refine aA ?_
 have e2:decide (((c8 okC ((s.drop 1).take (s.length-2)):Nat):Int)=((((s.drop 1).take (s.length-2)).length:Nat):Int))=((s.drop 1).take (s.length-2)).all okC:=by
  rw[Bool.eq_iff_iff,decide_eq_true_eq,← J4];omega
 rw[e2]
 exact k h5 r5
end
end
end
section
noncomputable section
variable [Tabs]
section
variable {h0 h:ae}{Q:QT}{i:Nat}
def growsL:List Str:=[[98],[98,108],[98,99]]
def datasL:List Str:=[[46,98,121,116,101],[46,104,97,108,102],[46,108,111,110,103]]
def spacesL:List Str:=[[46,97,108,105,103,110],[46,115,112,97,99,101]]
def kT (s:Str) (l:List Str):Int:=fR (fun y=>decide (s=y)) l
theorem Yn (k:Q (.full growsL.length (growsL.flatMap sE)) h):C tf [] h Q:=by
 refine IX _ _ ?_
 unfold H7
 (repeat refine aB rfl rfl ?_)
 exact k
def xa (name rest:Str) (rs:RS):RS×Bool:=
 match nl name with
 | some op=>oL (bZ rest) ((cT (bp op)).map lA) { rs with kind:=1,op:=op }
 | none=>
   if 0≤kT name growsL then oL (bZ rest) (List.replicate (1+(kT name growsL).toNat / 2*2) .value) { rs with kind:=2,op:=(kT name growsL).toNat }
   else if 0≤kT name datasL then (if 1≤(bZ rest).length∧(bZ rest).length≤16 then oL (bZ rest) (List.replicate (bZ rest).length .value) { rs with kind:=3+(kT name datasL).toNat } else ({ rs with kind:=3+(kT name datasL).toNat },false))
   else if name=[46,97,115,99,105,105] then AK rest { rs with kind:=6 }
   else if 0≤kT name spacesL then oL (bZ rest) [.value] { rs with kind:=7+(kT name spacesL).toNat }
   else if name=[46,101,113,117] then oL (bZ rest) [.word,.value] { rs with kind:=9 }
   else (rs,false)
theorem FH (s:Str) (hs:s.length<3000000000):(bZ s).length<4000000000∧∀ x∈bZ s,x.length<4000000000:=by
 unfold bZ
 split
 ·simp
 ·have h1:=jy 44 s
  have h2:=List.count_le_length (a:=(44:UInt8)) (l:=s)
  refine⟨by simp;omega,fun x hx=>?_⟩
  rw[List.mem_map]at hx
  obtain⟨y,hy,rfl⟩:=hx
  have h3:=ji 44 s y hy
  have h4:=qI y
  omega
theorem CL {s:Str}{op:Nat}(h:nl s=some op):op<tbl.length:=by
 unfold nl at h
 rw[List.findIdx?_eq_some_iff_getElem]at h
 exact h.1
theorem uI (s:Str) (l:List Str):-1≤kT s l∧(kT s l).toNat≤l.length∧(0≤kT s l→(kT s l).toNat<l.length):=by
 unfold kT fR
 cases h:l.findIdx? fun y=>decide (s=y) with
 | none=>simp
 | some j=>
   rw[List.findIdx?_eq_some_iff_getElem]at h
   have:=h.1
   simp;omega
theorem IW (n:Nat):List.replicate n (AV.fn (.func bB) [.ptr i 0] [])=(List.replicate n Way.value).flatMap (Gy i):=by
 induction n with
 | zero=>rfl
 | succ n ih=>rw[List.replicate_succ,List.replicate_succ,List.flatMap_cons,ih];rfl
theorem CX (hA:je) (l:List Str) (hl:l.length<4000000000) (hs:∀ s∈l,s.length<4000000000) (n:Nat) (hn:n<100) {rs:RS}(ha:rs.args.length=0) (r:RSt h0 h i rs)
  (k:∀ h',RSt h0 h' i (oL l (List.replicate n .value) rs).1→Q (B (oL l (List.replicate n .value) rs).2) h'):
  C jG [(.fn (.func bB) [.ptr i 0] []),I (n:Nat)] h fun t h9=>C fK [.snap l.length (l.flatMap sE),t] h9 Q:=by
 refine Z2 _ rfl rfl rfl n (by omega) fun v E h' a s=>?_
 obtain⟨v0,E0,a0,s0⟩:=r
 have sj:=s0.join s a.own
 exact I9 hA l hl hs (List.replicate n .value) (by simp;omega) ha (v:=v) (E:=E) (by rw[← IW];simpa using a) a0 sj k
theorem KA (hF:cy) (hI:gq) (hA:je) (name rest:Str) (hr:rest.length<3000000000) {rs:RS}(ha:rs.args=[]) (r:RSt h0 h i rs) (k:∀ h',RSt h0 h' i (xa name rest rs).1→Q (B (xa name rest rs).2) h'):
  C gg [.ptr i 0,T name,T rest] h Q:=by
 refine sW _ _ _ _ _ ?_
 unfold nh
 refine K9 hI rest (by omega) fun h1 f1=>?_
 have r1:=r.call f1
 obtain⟨hol,hos⟩:=FH rest hr
 refine Tp name fun h2 f2=>?_
 have r2:=r1.call f2
 have ha0:rs.args.length=0:=by rw[ha];rfl
 unfold xa at k
 (repeat refine aF rfl ?_)
 cases hf:nl name with
 | some op=>
   rw[hf]at k
   refine ah (fun _=>?_) (fun h=>by cases h)
   (repeat (first|refine au ?_|refine aj ?_))
   refine r2.put (rs':={ rs with kind:=1 }) rfl rfl rfl (by omega) rfl (fun v=>rfl) fun h3 r3=>?_
   (repeat (first|refine au ?_|refine aj ?_))
   refine r3.put (rs':={ rs with kind:=1,op:=op }) rfl rfl rfl (by omega) rfl (fun v=>rfl) fun h4 r4=>?_
   exact FM hF hI hA (rs:={ rs with kind:=1,op:=op }) (CL hf) ha0 r4 _ hol hos k
 | none=>
 rw[hf]at k
 simp only at k
 refine ah (fun h=>by cases h) (fun _=>?_)
 refine Yn ?_
 refine k7 name growsL (by decide) (Row.full (enc:=sE) (fun _=>rfl) growsL) ?_
 obtain⟨g1,g2,g3⟩:=uI name growsL
 rw[show fR (fun y=>decide (name=y)) growsL=kT name growsL from rfl]
 generalize hgi:kT name growsL=gi at k g1 g2 g3 ⊢
 (repeat refine bL ?_)
 refine ah (fun hg=>?_) (fun hg=>?_)<;>simp only[za,zb,zc,zd,ze,zf,zg,zh,zi,u8i,zj,zk,zl]at hg
 ·rw[if_pos hg]at k
  have g3:=g3 hg
  have:growsL.length=3:=rfl
  (repeat (first|refine au ?_|refine aj ?_))
  refine r2.put (rs':={ rs with kind:=2 }) rfl rfl rfl (by omega) rfl (fun v=>rfl) fun h3 r3=>?_
  (repeat (first|refine au ?_|refine aj ?_))
  obtain⟨n,rfl⟩:∃ n:Nat,gi=n:=⟨gi.toNat,by omega⟩
  rw[Int.toNat_natCast]at k g3
  refine r3.put (rs':={ rs with kind:=2,op:=n }) rfl rfl rfl (by omega) rfl (fun v=>rfl) fun h4 r4=>?_
  have hq:(n:Int).tdiv 2=((n / 2:Nat):Int):=by rw[Int.tdiv_eq_ediv_of_nonneg (by omega)];omega
  refine vA (by decide) (by rw[hq];omega) ?_
  rw[hq]
  refine u9 (by omega) ?_
  refine aH (by omega) ?_
  have e1:(1:Int)+((n / 2:Nat):Int)*2=((1+n / 2*2:Nat):Int):=by omega
  rw[e1]
  exact CX hA _ hol hos _ (by omega) (rs:={ rs with kind:=2,op:=n }) ha0 r4 k
 rw[if_neg (by omega)]at k
 have hdat:∀ d:Nat,kT name datasL=d→cg (B true) (T name) (.snap (bZ rest).length ((bZ rest).flatMap sE)) (.ptr i 0) (T name) (T rest) h2 Q:=by
  intro d hd
  have hd3:d<3:=by
   have:=uI name datasL
   have h3:datasL.length=3:=rfl
   omega
  rw[hd,if_pos (by omega),Int.toNat_natCast]at k
  unfold cg
  refine ah (fun _=>?_) (fun h=>by cases h)
  refine aB rfl rfl ?_
  refine k7 name datasL (by decide) (Row.full (enc:=sE) (fun _=>rfl) datasL) ?_
  rw[show fR (fun y=>decide (name=y)) datasL=kT name datasL from rfl,hd]
  refine aH (by omega) ?_
  have e1:(3:Int)+(d:Int)=((3+d:Nat):Int):=by omega
  rw[e1]
  (repeat (first|refine au ?_|refine aj ?_))
  refine r2.put (rs':={ rs with kind:=3+d }) rfl rfl rfl (by omega) rfl (fun v=>rfl) fun h3 r3=>?_
  (repeat (first|refine dB ?_|refine bL ?_))
  refine ah (fun hn1=>?_) (fun hn1=>?_)<;>simp only[za,zb,zc,zd,ze,zf,zg,zh,zi,u8i,zj,zk,zl]at hn1
  ·(repeat (first|refine dB ?_|refine eT ?_))
   refine ah (fun hn2=>?_) (fun hn2=>?_)<;>simp only[za,zb,zc,zd,ze,zf,zg,zh,zi,u8i,zj,zk,zl]at hn2
   ·rw[if_pos ⟨by omega,by omega⟩]at k
    (repeat refine dB ?_)
    exact CX hA _ hol hos _ (by omega) (rs:={ rs with kind:=3+d }) ha0 r3 k
   ·rw[if_neg (by omega)]at k
    exact k h3 r3
  ·rw[if_neg (by omega)]at k
   exact k h3 r3
 refine aU ?_
 refine ah (fun hb1=>?_) (fun hb1=>?_)<;>simp only[za,zb,zc,zd,ze,zf,zg,zh,zi,u8i,zj,zk,zl]at hb1
 ·rw[decide_eq_true hb1];exact hdat 0 (by rw[hb1];decide)
 refine aU ?_
 refine ah (fun hb2=>?_) (fun hb2=>?_)<;>simp only[za,zb,zc,zd,ze,zf,zg,zh,zi,u8i,zj,zk,zl]at hb2
 ·rw[decide_eq_true hb2];exact hdat 1 (by rw[hb2];decide)
 refine aU ?_
 cases hb3:decide (name=[46,108,111,110,103]) with
 | true=>exact hdat 2 (by simp only[decide_eq_true_eq]at hb3;rw[hb3];decide)
 | false=>
 simp only[decide_eq_false_iff_not]at hb3
 have hnd:kT name datasL=-1:=by
  unfold kT
  refine ia fun j hj=>?_
  have h3:datasL.length=3:=rfl
  have:j=0∨j=1∨j=2:=by omega
  rcases this with rfl|rfl|rfl
  ·exact decide_eq_false hb1
  ·exact decide_eq_false hb2
  ·exact decide_eq_false hb3
 rw[hnd,if_neg (by omega)]at k
 unfold cg
 refine ah (fun h=>by cases h) (fun _=>?_)
 refine aU ?_
 refine ah (fun hasc=>?_) (fun hasc=>?_)<;>simp only[za,zb,zc,zd,ze,zf,zg,zh,zi,u8i,zj,zk,zl]at hasc
 ·rw[if_pos hasc]at k
  (repeat (first|refine au ?_|refine aj ?_))
  refine r2.put (rs':={ rs with kind:=6 }) rfl rfl rfl (by omega) rfl (fun v=>rfl) fun h3 r3=>?_
  exact V4 rest r3 k
 rw[if_neg hasc]at k
 have hspc:∀ d:Nat,kT name spacesL=d→cM (B true) (T name) (.snap (bZ rest).length ((bZ rest).flatMap sE)) (.ptr i 0) (T name) h2 Q:=by
  intro d hd
  have hd3:d<2:=by
   have:=uI name spacesL
   have h3:spacesL.length=2:=rfl
   omega
  rw[hd,if_pos (by omega),Int.toNat_natCast]at k
  unfold cM
  refine ah (fun _=>?_) (fun h=>by cases h)
  refine aB rfl rfl ?_
  refine k7 name spacesL (by decide) (Row.full (enc:=sE) (fun _=>rfl) spacesL) ?_
  rw[show fR (fun y=>decide (name=y)) spacesL=kT name spacesL from rfl,hd]
  refine aH (by omega) ?_
  have e1:(7:Int)+(d:Int)=((7+d:Nat):Int):=by omega
  rw[e1]
  (repeat (first|refine au ?_|refine aj ?_))
  refine r2.put (rs':={ rs with kind:=7+d }) rfl rfl rfl (by omega) rfl (fun v=>rfl) fun h3 r3=>?_
  exact CX hA _ hol hos 1 (by omega) (rs:={ rs with kind:=7+d }) ha0 r3 k
 refine aU ?_
 refine ah (fun ha1=>?_) (fun ha1=>?_)<;>simp only[za,zb,zc,zd,ze,zf,zg,zh,zi,u8i,zj,zk,zl]at ha1
 ·rw[show decide (name=[46,97,108,105,103,110])=true by rw[ha1];rfl]
  exact hspc 0 (by rw[ha1];decide)
 refine aU ?_
 cases ha2:decide (name=[46,115,112,97,99,101]) with
 | true=>exact hspc 1 (by simp only[decide_eq_true_eq]at ha2;rw[ha2];decide)
 | false=>
 simp only[decide_eq_false_iff_not]at ha2
 have hns:kT name spacesL=-1:=by
  unfold kT
  refine ia fun j hj=>?_
  have h3:spacesL.length=2:=rfl
  have:j=0∨j=1:=by omega
  rcases this with rfl|rfl
  ·exact decide_eq_false ha1
  ·exact decide_eq_false ha2
 rw[hns,if_neg (by omega)]at k
 unfold cM
 refine ah (fun h=>by cases h) (fun _=>?_)
 refine aU ?_
 refine ah (fun heq=>?_) (fun heq=>?_)<;>simp only[za,zb,zc,zd,ze,zf,zg,zh,zi,u8i,zj,zk,zl]at heq
 ·rw[if_pos heq]at k
  (repeat (first|refine au ?_|refine aj ?_))
  refine r2.put (rs':={ rs with kind:=9 }) rfl rfl rfl (by omega) rfl (fun v=>rfl) fun h3 r3=>?_
  refine aB rfl rfl ?_
  exact QY hA _ hol hos [.word,.value] (by decide) (rs:={ rs with kind:=9 }) ha0 r3 (fun h'=>Row.snap (enc:=sE) (fun _=>rfl) _) (fun h'=>Row.full (enc:=Gy i) (fun _=>rfl) [.word,.value]) k
 ·rw[if_neg heq]at k
  exact k h2 r2
def CM:Bool→Str→Str
 | _,[]=>[]
 | q,c::l=>if c=35∧q=false then [] else c::CM (if c=34 then !q else q) l
def y5 (s:Str):Str:=uq (CM false s)
theorem M7:∀ (q:Bool) (l:Str),(CM q l).length≤l.length
 | _,[]=>by simp[CM]
 | q,c::l=>by
   unfold CM
   split
   ·simp
   ·have:=M7 (if c=34 then !q else q) l;simp;omega
theorem Po {s:Str}(hs:s.length<4000000000) (q:Bool) (j:Nat) (hj:j≤s.length) {next:NT}
  (k0:CM q (s.drop j)=[]→∀ h',Fr [] h h'→Q (T (uq (s.take j))) h') (k1:∀ (hj:j<s.length),CM q (s.drop j)=s[j]::CM (if s[j]=34 then !q else q) (s.drop (j+1))→next [B (if s[j]=34 then !q else q),I ((j+1:Nat):Int)] h):
  qZ (T s) (B q) (I (j:Nat)) h Q next:=by
 unfold qZ
 have fin:CM q (s.drop j)=[]→sf (T s) (I (j:Nat)) h Q:=by
  intro hc
  unfold sf
  refine pI (by omega) (by omega) ?_
  rw[Int.toNat_natCast]
  exact Fv _ (by simp;omega) (k0 hc)
 (repeat (first|refine be ?_|refine aA ?_))
 refine ah (fun hb=>?_) (fun hb=>?_)<;>simp only[za,zb,zc,zd,ze,zf,zg,zh,zi,u8i,zj,zk,zl]at hb
 ·have:j=s.length:=by omega
  subst this
  exact fin (by rw[List.drop_length];rfl)
 have hj2:j<s.length:=by omega
 have hcut:=List.drop_eq_getElem_cons hj2
 have go:¬(s[j]=35∧q=false)→sa (T s) (B q) (I (j:Nat)) h next:=by
  intro hn
  have k1:=k1 hj2 (by rw[hcut,CM,if_neg hn])
  unfold sa
  refine bO hj2 ?_
  refine aA ?_
  have e:decide ((s[j].toNat:Int)=34)=decide (s[j]=34):=by rw[Bool.eq_iff_iff];simp[← UInt8.toNat_inj];omega
  rw[e]
  refine ah (fun h34=>?_) (fun h34=>?_)<;>simp only[za,zb,zc,zd,ze,zf,zg,zh,zi,u8i,zj,zk,zl]at h34
  ·refine bP ?_
   unfold rq
   refine aH (by omega) ?_
   rw[if_pos h34]at k1;exact k1
  ·unfold rq
   refine aH (by omega) ?_
   rw[if_neg h34]at k1;exact k1
 refine bO hj2 ?_
 refine aA ?_
 have e:decide ((s[j].toNat:Int)=35)=decide (s[j]=35):=by rw[Bool.eq_iff_iff];simp[← UInt8.toNat_inj];omega
 rw[e]
 cases h35:decide (s[j]=35) with
 | true=>
   simp only[decide_eq_true_eq]at h35
   refine sL (ah (fun _=>?_) (fun h=>by cases h)) ⟨_,rfl⟩
   refine bP ?_
   cases q with
   | true=>exact ah (fun h=>by cases h) (fun _=>go (by simp))
   | false=>exact ah (fun _=>fin (by rw[hcut,CM,if_pos ⟨h35,rfl⟩])) (fun h=>by cases h)
 | false=>
   simp only[decide_eq_false_iff_not]at h35
   exact sL (ah (fun h=>by cases h) (fun _=>go (by simp[h35]))) ⟨_,rfl⟩
theorem ZS (s:Str) (hs:s.length<4000000000) (k:∀ h',Fr [] h h'→Q (T (y5 s)) h'):C u5 [T s] h Q:=by
 refine K7 _ _ _ ?_
 unfold CN
 refine Po hs false 0 (by omega) (fun hc=>by
  have:y5 s=uq (s.take 0):=by unfold y5;rw[List.drop_zero]at hc;rw[hc];rfl
  rw[this]at k;exact k) (fun hj hc=>?_)
 refine aP (fun n vs h'=>h'=h∧∃ (q:Bool) (j:Nat),vs=[B q,I (j:Nat)]∧j≤s.length∧n+j=s.length∧CM false s=s.take j++CM q (s.drop j)) (s.length-1) ⟨rfl,_,1,rfl,by omega,by omega,by
  rw[List.drop_zero]at hc;rw[hc]
  cases s with
  | nil=>simp at hj
  | cons c t=>rfl⟩ ?_
 rintro n vs h' ⟨rfl,q,j,rfl,hj2,hn,hcut⟩
 refine Po hs q j hj2 (fun hc=>by
  have:y5 s=uq (s.take j):=by unfold y5;rw[hcut,hc,List.append_nil]
  rw[this]at k;exact k) (fun hj3 hc=>?_)
 refine⟨n-1,by omega,rfl,_,j+1,rfl,by omega,by omega,?_⟩
 rw[hcut,hc,List.take_succ_eq_append_getElem hj3,List.append_assoc];rfl
end
end
end
end Go.Proofs.YtgkmmcdhhkllnaaGreatDoor.AL
