import Derived.Test.YtbhphjpgjgigpaaGreatDoorFLtoAR4
import Derived.Test.YtbhphjpgjgigpaaGreatDoorAI4toAE4
import Derived.KernelRfl
import Derived.Test.YtbhphjpgjgigpaaGreatDoorAE5toAN4
import Derived.Test.YtbhphjpgjgigpaaGreatDoorF9
set_option linter.all false
set_option autoImplicit true
set_option relaxedAutoImplicit true
set_option maxRecDepth 100000
namespace Go.Proofs.YtbhphjpgjgigpaaGreatDoor.AL
noncomputable section
section
section
variable [Tabs]
variable {h:ae}{Q:QT}{i D p:Nat}{s:Str}{b:Bool}
def Rl (a r:Option (Ex×Str)):Prop:=a=r∨(a=none∧∃ x l,r=some (x,l)∧fP l≠[])
theorem Cz {l:Str}(h:fP l≠[]):∃ c t,l=c::t∧df c.toNat=true:=by
 cases l with
 | nil=>exact absurd rfl h
 | cons c t=>
   refine⟨c,t,rfl,?_⟩
   unfold fP at h
   rw[List.takeWhile_cons]at h
   cases hp:df c.toNat with
   | true=>rfl
   | false=>rw[hp]at h;simp at h
theorem EU:∀ n:Nat,n<256→df n=true→n≠32∧n≠41∧n≠43∧n≠45∧n≠42∧n≠38∧n≠124∧n≠60∧n≠62:=by decide
theorem B5 {l:Str}(h:fP l≠[]):blk l=l:=by
 obtain⟨c,t,rfl,hc⟩:=Cz h
 have:=(EU c.toNat c.toNat_lt hc).1
 show ia 32 (c::t)=c::t
 unfold ia
 rw[if_neg (fun e=>by subst e;exact this rfl)]
theorem PW {l:Str}(h:fP l≠[]) {k:Nat}(hk:5≤k∧k<12):(sg k).isPrefixOf l=false:=by
 obtain⟨c,t,rfl,hc⟩:=Cz h
 obtain⟨h1,h2,h3,h4,h5,h6,h7,h8,h9⟩:=EU c.toNat c.toNat_lt hc
 have hh:∀ d:UInt8,c.toNat≠d.toNat→∀ m:Str,(d::m).isPrefixOf (c::t)=false:=fun d hd m=>by
  simp only[List.isPrefixOf,Bool.and_eq_false_iff,beq_eq_false_iff_ne]
  exact .inl fun e=>hd (by rw[e])
 rcases (show k=5∨k=6∨k=7∨k=8∨k=9∨k=10∨k=11 by omega) with e|e|e|e|e|e|e<;>subst e
 ·exact hh 43 h3 []
 ·exact hh 45 h4 []
 ·exact hh 42 h5 []
 ·exact hh 38 h6 []
 ·exact hh 124 h7 []
 ·exact hh 60 h8 [60]
 ·exact hh 62 h9 [62]
theorem zu {l:Str}(h:fP l≠[]):∀ {ks:List Nat},(∀ k∈ks,5≤k∧k<12)→dt ks l=(0,l)
 | [],_=>rfl
 | k::ks,hk=>by
   unfold dt
   rw[B5 h,if_neg (by rw[PW h (hk k (.head _))];simp)]
   exact zu h fun x hx=>hk x (.tail _ hx)
theorem Tq:∀ r,r<5→∀ k∈(levelsL[4-r]?).getD [],5≤k∧k<12:=by decide
theorem Jr {sub sub':PF}{ks:List Nat}(hk:∀ k∈ks,5≤k∧k<12) (hs:∀ l,Rl (sub l) (sub' l)):∀ (n:Nat) (x:Ex) (l:Str),Rl (eK sub ks n x l) (eK sub' ks n x l)
 | 0,x,l=>.inl rfl
 | n+1,x,l=>by
   unfold eK
   split
   ·exact .inl rfl
   ·rcases hs (dt ks l).2 with e|⟨e1,y,l2,e2,e3⟩
    ·rw[e]
     cases sub' (dt ks l).2 with
     | none=>exact .inl rfl
     | some z=>exact Jr hk hs n _ _
    ·rw[e1,e2]
     refine .inr ⟨rfl,?_⟩
     have hki:=zu e3 hk
     cases n with
     | zero=>refine⟨.bin (dt ks l).1 x y,l2,?_,e3⟩;simp only[eK,hki];rfl
     | succ n=>refine⟨.bin (dt ks l).1 x y,l2,?_,e3⟩;simp only[eK,hki];rfl
theorem P4 {one one':PF}(ho:∀ l,Rl (one l) (one' l)):∀ r,r≤5→∀ l,Rl (gv one r l) (gv one' r l)
 | 0,_,l=>ho l
 | r+1,hr,l=>by
   have ih:=P4 ho r (by omega)
   have hk:=Tq r (by omega)
   unfold gv
   rcases ih l with e|⟨e1,x,l1,e2,e3⟩
   ·rw[e]
    cases gv one' r l with
    | none=>exact .inl rfl
    | some z=>exact Jr hk ih _ _ _
   ·rw[e1,e2]
    refine .inr ⟨rfl,x,l1,?_,e3⟩
    have hki:=zu e3 hk
    simp only
    cases l1.length with
    | zero=>simp only[eK,hki];rfl
    | succ n=>simp only[eK,hki];rfl
theorem YA (l:Str):Rl (Al l) (Jg l):=by
 have dg:uP 10 l=Ga l:=rfl
 have num:∀ (base:Nat) (l ds:Str),uP base l=ds→ds≠[]→Rl (eW base l ds) (yW base l):=fun base l ds hd hne=>by
  unfold eW yW
  rw[hd,if_neg hne]
  cases pN base ds 0 with
  | none=>exact .inl rfl
  | some n=>
    simp only
    by_cases hi:fP (l.drop ds.length)=[]
    ·rw[if_pos hi];exact .inl rfl
    ·rw[if_neg hi];exact .inr ⟨rfl,_,_,rfl,hi⟩
 unfold Al Jg
 by_cases hx:([48,120]:Str).isPrefixOf l=true
 ·rw[if_pos hx,if_pos hx]
  by_cases hh:MF (l.drop 2)≠[]
  ·rw[if_pos hh]
   exact num 16 _ _ rfl hh
  ·rw[if_neg hh]
   have hh:MF (l.drop 2)=[]:=by simpa using hh
   have e1:yW 16 (l.drop 2)=none:=by unfold yW;rw[if_pos (show uP 16 (l.drop 2)=[] from hh)]
   rw[e1]
   refine .inl ?_
   obtain⟨t,rfl⟩:=List.isPrefixOf_iff_prefix.1 hx
   have ed:Ga ([48,120]++t)=[48]:=rfl
   unfold EM eW
   rw[ed]
   rfl
 ·rw[if_neg hx,if_neg hx]
  unfold EM
  rw[dg]
  by_cases hd:Ga l≠[]
  ·rw[if_pos hd,if_pos hd]
   exact num 10 _ _ rfl hd
  ·rw[if_neg hd,if_neg hd];exact .inl rfl
theorem RH {g g' m m':PF}(hg:∀ l,Rl (g l) (g' l)) (hm:∀ l,Rl (m l) (m' l)) (l:Str):Rl (rk g m l) (C3 g' m' l):=by
 unfold rk C3
 split
 ·exact hg _
 split
 ·exact hm _
 split
 ·exact .inl rfl
 ·exact YA _
theorem U2 {t t':PF}(ht:∀ l,Rl (t l) (t' l)) (l:Str):Rl (gy t l) (gy t' l):=by
 unfold gy
 rcases ht l with e|⟨e1,x,l1,e2,e3⟩
 ·rw[e];exact .inl rfl
 ·rw[e1,e2]
  refine .inl ?_
  simp only
  rw[B5 e3,if_neg]
  obtain⟨c,t,rfl,hc⟩:=Cz e3
  have:=(EU c.toNat c.toNat_lt hc).2.1
  simp only[List.isPrefixOf,Bool.and_true,beq_iff_eq]
  intro e;subst e;exact this rfl
theorem X1 {o o':PF}(ho:∀ l,Rl (o l) (o' l)) (l:Str):Rl (eC o l) (eC o' l):=by
 unfold eC
 rcases ho l with e|⟨e1,x,l1,e2,e3⟩
 ·rw[e];exact .inl rfl
 ·rw[e1,e2];exact .inr ⟨rfl,_,_,rfl,e3⟩
theorem QD:∀ (d:Nat) (l:Str),Rl (Ao d l) (MR d l)
 | 0,l=>RH (fun _=>.inl rfl) (fun _=>.inl rfl) l
 | d+1,l=>RH (U2 (P4 (QD d) 5 (Nat.le_refl _))) (X1 (QD d)) l
theorem Ua (l:Str):BF l=gD l:=by
 unfold BF gD
 rcases P4 (QD 12) 5 (Nat.le_refl _) l with e|⟨e1,x,l1,e2,e3⟩
 ·rw[e];cases gv (MR 12) 5 l<;>rfl
 ·rw[e1,e2]
  simp only
  rw[B5 e3,if_neg]
  intro e;subst e;exact e3 rfl
theorem GC (base:Nat):iH (yW base):=fun l x l' e=>by
 unfold yW at e
 split at e
 ·cases e
 ·split at e
  ·cases e
  ·cases e;simp
theorem LS:iH Jg:=fun l x l' e=>by
 unfold Jg at e
 split at e
 ·have:=GC 16 _ _ _ e;simp at this;omega
 split at e
 ·exact GC 10 _ _ _ e
 ·unfold EE at e
  split at e
  ·cases e;simp
  ·cases e
theorem C5 {group minus:PF}(hg:iH group) (hm:iH minus):iH (C3 group minus):=fun l x l' e=>by
 have hb:(blk l).length≤l.length:=mU 32 l
 unfold C3 at e
 split at e
 ·have:=hg _ _ _ e;simp at this;omega
 split at e
 ·have:=hm _ _ _ e;simp at this;omega
 split at e
 ·cases e;simp;omega
 ·have:=LS _ _ _ e;omega
theorem Kl {one:PF}(h1:iH one):iH (eC one):=fun l x l' e=>by
 unfold eC at e
 split at e
 ·cases e
 ·rename_i y l1 h
  cases e;exact h1 _ _ _ h
theorem uE:∀ d,iH (MR d)
 | 0=>C5 (fun l x l' e=>by cases e) fun l x l' e=>by cases e
 | d+1=>C5 (AA (pV (uE d) 5 (Nat.le_refl _))) (Kl (uE d))
theorem Mh:∀ (d D:Nat),D+d=12→vm c9 [] D (MR d)
 | 0,D,h=>by
   have:D=12:=by omega
   subst this
   exact Js (GJ true) (GJ false)
 | d+1,D,h=>by
   have i1:=Mh d (D+1) (by omega)
   have i2:vm cG [I 0] (D+1) (gv (MR d) 5):=Gu i1 (uE d) 5 (Nat.le_refl _)
   exact Js (Up i2 (by omega)) (UQ i1 (by omega))
theorem Lx (l:Str) (hs:l.length<1000000000) (k1:∀ x,gD l=some x→∀ h',Fr [] h h'→Q (.tup [.agg (bq x),B true]) h') (k0:gD l=none→∀ h',Fr [] h h'→Q (.tup [.agg zE,B false]) h'):C sa [T l] h Q:=by
 rw[← Ua]at k1 k0
 refine HA _ _ _ ?_
 unfold ES
 refine aQ (St.start h) fun q h1 s1=>?_
 refine aD rfl ?_
 refine bW s1 rfl fun i h2 s2=>?_
 have s2:St h [] h2 [(i,true,rO l 0 0 false),(q,true,.cells zE)]:=s2
 refine Gu (Mh 12 0 rfl) (uE 12) 5 (Nat.le_refl _) l 0 h2 _ i hs (Nat.zero_le _) (s2.get (.head _)) ⟨fun x p' h3 hp' hm f3 e3=>?_,fun cs p' h3 hp' hm f3 e3 hc ho=>?_⟩
 ·have s3:=s2.call1 f3 e3 .head
  rw[List.drop_zero]at hm
  refine aQ s3 fun q5 h4 s4=>?_
  refine aM s4 bd (au _) (aX _) .head fun h5 s5=>?_
  refine LC hs (s5.get (.tail _ (.head _))) hp' fun p2 h6 hp2 hd f6 e6=>?_
  have s6:=s5.call1 f6 e6 (.tail .head)
  have hp:BF l=if blk (l.drop p')=[] then some x else none:=by unfold BF;rw[hm]
  rw[← hd]at hp
  refine aw (aj (af s6 (.tail _ (.head _)) rfl (ah (fun h=>by cases h) (fun _=>?_))))
  refine aw (aj (af s6 (.tail _ (.head _)) rfl (bf (aJ ?_))))
  refine ah (fun b1=>?_) (fun b1=>?_)<;>simp only[za,zb,zc,zd,ze,zf,zg,zh,zi,u8i,zj,zk,zl]at b1
  ·have hne:¬ l.drop p2=[]:=fun h=>by have:=congrArg List.length h;simp at this;omega
   rw[if_neg hne]at hp
   refine aD rfl ?_
   refine aM s6 bd rfl rfl (.tail (.tail .head)) fun h7 s7=>?_
   refine aK s7 rfl (.tail _ (.tail _ (.head _))) ?_
   exact k0 hp _ s7.fr
  ·have he:l.drop p2=[]:=List.drop_of_length_le (by omega)
   rw[if_pos he]at hp
   refine aK s6 (au _) (.head _) ?_
   refine aM s6 bd (au _) (aX _) (.tail (.tail .head)) fun h7 s7=>?_
   refine aK s7 (au _) (.tail _ (.tail _ (.head _))) ?_
   exact k1 x hp _ s7.fr
 ·have s3:=s2.call1 f3 e3 .head
  rw[List.drop_zero]at hm
  have hp:BF l=none:=by unfold BF;rw[hm]
  refine aQ s3 fun q5 h4 s4=>?_
  refine aM s4 bd hc ho .head fun h5 s5=>?_
  refine LC hs (s5.get (.tail _ (.head _))) hp' fun p2 h6 hp2 hd f6 e6=>?_
  have s6:=s5.call1 f6 e6 (.tail .head)
  refine aw (aj (af s6 (.tail _ (.head _)) rfl (ah (fun _=>?_) (fun h=>by cases h))))
  refine aD rfl ?_
  refine aM s6 bd rfl rfl (.tail (.tail .head)) fun h7 s7=>?_
  refine aK s7 rfl (.tail _ (.tail _ (.head _))) ?_
  exact k0 hp _ s7.fr
end
end
section
theorem uc (a:Int) {n:Int}(hn:0<n):(a.tmod n<0→a.tmod n+n=a%n)∧(¬ a.tmod n<0→a.tmod n=a%n):=by
 have h1:=Int.tmod_lt_of_pos a hn
 have h0:=Int.emod_nonneg a (show n≠0 by omega)
 have h4:=Int.emod_lt_of_pos a hn
 have h3:(a.tmod n=a%n∧0≤a.tmod n)∨(a.tmod n=a%n-n∧a.tmod n<0):=by
  rw[Int.tmod_eq_emod]
  have hab:(n.natAbs:Int)=n:=by omega
  split
  ·exact .inl ⟨by omega,by omega⟩
  ·right;rw[hab];exact⟨rfl,by omega⟩
 omega
theorem Lr {a n:Int}(ha:inI a) (hn:0<n):-n≤a.tmod n∧a.tmod n<n:=by
 have h1:=Int.tmod_lt_of_pos a hn
 have h0:=Int.emod_nonneg a (show n≠0 by omega)
 have h2:=uc a hn
 by_cases h:a.tmod n<0
 ·have:=h2.1 h;omega
 ·omega
theorem cX {a n:Int}(hn:0<n):0≤a%n∧a%n<n:=⟨Int.emod_nonneg a (by omega),Int.emod_lt_of_pos a hn⟩
inductive RE where
 | mk (k n:Int) (l:List RE)
mutual
def xrE:RE→List AV
 | .mk k n l=>[I k,I n,.snap l.length (xrL l)]
def xrL:List RE→List AV
 | []=>[]
 | r::l=>xrE r++xrL l
end
mutual
def okR:RE→Prop
 | .mk k n l=>inI k∧inI n∧l.length≤9223372036854775807∧DS l
def DS:List RE→Prop
 | []=>True
 | r::l=>okR r∧DS l
end
mutual
def DI:RE→Nat
 | .mk _ _ l=>1+rI l
def rI:List RE→Nat
 | []=>0
 | r::l=>DI r+rI l
end
theorem JM:∀ l,xrL l=l.flatMap xrE
 | []=>by simp[xrL]
 | r::l=>by simp[xrL,JM l]
theorem ul (r:RE):(xrE r).length=3:=by cases r;simp[xrE]
theorem Ab:∀ {l:List RE},DS l→∀ r∈l,okR r
 | r::l,h,x,hx=>by
   simp only[DS]at h
   rcases List.mem_cons.1 hx with rfl|hx
   ·exact h.1
   ·exact Ab h.2 x hx
theorem Ja:∀ (l:List RE) (j:Nat) (hj:j<l.length),rI (l.take (j+1))=rI (l.take j)+DI l[j]
 | r::l,0,_=>by simp[rI]
 | r::l,j+1,hj=>by
   simp only[List.take_succ_cons,rI,List.getElem_cons_succ]
   rw[Ja l j (by simpa using hj)];omega
theorem GG:∀ {l:List RE}{r:RE},r∈l→DI r≤rI l
 | x::l,r,h=>by
   simp only[rI]
   rcases List.mem_cons.1 h with rfl|h
   ·omega
   ·have:=GG h;omega
def RE.kids:RE→List RE|.mk _ _ l=>l
theorem BG (r:RE):DI r=1+rI r.kids:=by cases r;simp[DI,RE.kids]
structure RW where
 K:Int
 A:Int
 B:Int
 ns:List Int
 E:List RE
 L:Bool
def rwE (r:RW):List AV:=[I r.K,I r.A,I r.B,.snap r.ns.length (r.ns.flatMap fun n=>[I n]),.snap r.E.length (xrL r.E),.lit (.bool r.L)]
def okW (r:RW):Prop:=inI r.K∧inI r.A∧inI r.B∧(∀ n∈r.ns,inI n)∧r.ns.length≤9223372036854775807∧r.E.length≤9223372036854775807∧DS r.E
def Hh (r:RW):Prop:=rI r.E≤16∧r.ns.length≤60
section
variable [Tabs]
variable {h h0:ae}{Q:QT}
theorem eX {a n:Int}(hn:0<n) (hn2:n≤1000000000000000000) (ha:inI a) (k:Q (I (a%n)) h):C dm [I a,I n] h Q:=by
 refine EQ _ _ _ _ ?_
 unfold CY
 refine n9 (by omega) ?_
 refine aJ (ah (fun hb=>?_) (fun hb=>?_))
 ·have hb:=of_decide_eq_true hb
  refine aI (by have:=Lr ha hn;omega) ?_
  rw[(uc a hn).1 hb];exact k
 ·have hb:=of_decide_eq_false hb
  rw[(uc a hn).2 hb];exact k
theorem gC {a n:Int}(hn:0<n) (hn2:n≤1000000000000000000) (ha:inI a) (k:Q (I (a%n)) h):C dX [I a,I n] h Q:=by
 refine EV _ _ _ _ ?_
 unfold Dc
 refine n9 (by omega) ?_
 refine aJ (ah (fun hb=>?_) (fun hb=>?_))
 ·have hb:=of_decide_eq_true hb
  refine aI (by have:=Lr ha hn;omega) ?_
  rw[(uc a hn).1 hb];exact k
 ·have hb:=of_decide_eq_false hb
  rw[(uc a hn).2 hb];exact k
theorem bp {a n:Int}(hn:0<n) (hn2:n≤1000000000000000000) (ha:inI a) (k:Q (I (a%n)) h):C aY [I a,I n] h Q:=by
 refine Er _ _ _ _ ?_
 unfold C0
 refine n9 (by omega) ?_
 refine aJ (ah (fun hb=>?_) (fun hb=>?_))
 ·have hb:=of_decide_eq_true hb
  refine aI (by have:=Lr ha hn;omega) ?_
  rw[(uc a hn).1 hb];exact k
 ·have hb:=of_decide_eq_false hb
  rw[(uc a hn).2 hb];exact k
theorem Tk (l:List RE):Row xrE 3 h (.snap l.length (xrL l)) l:=by rw[JM];exact Row.snap ul l
theorem Mc:∀ (f d:Nat),d+f=8→∀ (l:List RE) (v:AV),l.length≤9223372036854775807→DS l→∀ (h:ae) (Q:QT),Row xrE 3 h v l→(∀ n:Nat,n≤1000+17*f→(n≤16→rI l≤n)→Q (I (n:Nat)) h)→C pn [v,I (d:Nat)] h Q
 | 0,d,hd,l,v,hl,ho,h,Q,r,k=>by
   refine Bp _ _ _ _ ?_
   unfold CA
   refine bx (ah (fun _=>?_) (fun hb=>?_))
   ·exact k 1000 (by omega) (by omega)
   ·have:=of_decide_eq_false hb;omega
 | f+1,d,hd,l,v,hl,ho,h,Q,r,k=>by
   refine Bp _ _ _ _ ?_
   unfold CA
   refine bx (ah (fun hb=>?_) (fun hb=>?_))
   ·have:=of_decide_eq_true hb;omega
   refine aP (fun m vs h'=>∃ j n:Nat,vs=[I (n:Nat),I (j:Nat)]∧m+j=l.length∧n≤1000+17*(f+1)∧(n≤16→rI (l.take j)≤n)∧h'=h) l.length ⟨0,0,rfl,by omega,by omega,by simp[rI],rfl⟩ ?_
   rintro m vs h' ⟨j,n,rfl,hm,hn,hs,rfl⟩
   unfold Ay
   refine r.len (aJ (ah (fun hb=>?_) (fun hb=>?_)))
   ·have hj:j<l.length:=by have:=of_decide_eq_true hb;omega
    refine fl (ah (fun hc=>?_) (fun hc=>?_))
    ·have hc:n≤16:=by have:=of_decide_eq_true hc;omega
     refine aI (by omega) ?_
     refine r.idx ul hj fun p t=>?_
     have hr:=Ab ho _ (List.getElem_mem hj)
     have hnt:=Ja l j hj
     have hk:=BG l[j]
     cases hx:l[j] with
     | mk a b ls=>
       rw[hx]at t hr hnt hk
       simp only[okR]at hr
       unfold xrE at t
       refine uS t (by simp) fun q t=>?_
       refine aH t ?_
       refine aI (by omega) ?_
       refine Mc f (d+1) (by omega) ls _ hr.2.2.1 hr.2.2.2 _ _ (Tk ls) fun m2 h1 h2=>?_
       refine aI (by omega) ?_
       refine aI (by omega) ?_
       refine⟨m-1,by omega,j+1,n+1+m2,rfl,by omega,by omega,fun h3=>?_,rfl⟩
       rw[hnt,hk]
       simp only[RE.kids]
       have:=h2 (by omega)
       have:=hs hc
       omega
    ·have hc:¬ n≤16:=by have:=of_decide_eq_false hc;omega
     exact k n hn fun h=>absurd h hc
   ·have hj:l.length≤j:=by have:=of_decide_eq_false hb;omega
    refine k n hn fun h3=>?_
    have:=hs h3
    rwa [List.take_of_length_le hj]at this
theorem YG {l:List RE}{v:AV}(hl:l.length≤9223372036854775807) (ho:DS l) (r:Row xrE 3 h v l) (k:∀ b,(b=true→rI l≤16)→Q (B b) h):C vE [v] h Q:=by
 refine NO _ _ _ ?_
 unfold MB
 refine Mc 8 0 rfl l v hl ho h _ r fun n h1 h2=>?_
 refine fl (k _ fun hb=>?_)
 have:=of_decide_eq_true hb
 have:=h2 (by omega)
 omega
theorem tH (r:RW):(rwE r).length=6:=rfl
theorem Ly {l:List RW}{v:AV}(hl:l.length≤9223372036854775807) (ho:∀ r∈l,okW r) (r:Row rwE 6 h v l) (k1:(∀ r∈l,Hh r)→Q (B true) h) (k0:Q (B false) h):C nT [v] h Q:=by
 refine L3 _ _ _ ?_
 unfold Ox
 refine aP (fun m vs h'=>∃ (j:Nat) (x:AV),vs=[x,I (j:Nat)]∧m+j=l.length∧(∀ r∈l.take j,Hh r)∧h'=h) l.length ⟨0,_,rfl,by omega,by simp,rfl⟩ ?_
 rintro m vs h' ⟨j,x,rfl,hm,hs,rfl⟩
 unfold Dh
 refine r.len (aJ (ah (fun hb=>?_) (fun hb=>?_)))
 ·have hj:j<l.length:=by have:=of_decide_eq_true hb;omega
  have hw:=ho _ (List.getElem_mem hj)
  refine r.idx tH hj fun p t=>?_
  unfold rwE at t
  refine uS t (by simp) fun q t=>?_
  refine aH t ?_
  refine YG hw.2.2.2.2.2.1 hw.2.2.2.2.2.2 (Tk _) fun b hb=>?_
  refine bQ (ah (fun _=>k0) (fun hb2=>?_))
  have hb:=hb (by simpa using hb2)
  refine r.idx tH hj fun p t=>?_
  unfold rwE at t
  refine uS t (by simp) fun q t=>?_
  refine aH t (cE ?_)
  refine bx (ah (fun _=>k0) (fun hc=>?_))
  have hc:=of_decide_eq_false hc
  refine aI (by omega) ?_
  refine⟨m-1,by omega,j+1,_,rfl,by omega,fun r hr=>?_,rfl⟩
  rw[List.take_succ_eq_append_getElem hj,List.mem_append]at hr
  rcases hr with hr|hr
  ·exact hs r hr
  ·simp at hr;subst hr;exact⟨hb,by omega⟩
 ·have hj:l.length≤j:=by have:=of_decide_eq_false hb;omega
  rw[List.take_of_length_le hj]at hs
  exact k1 hs
end
end
section
def okX:Ex→Prop
 | .none=>False
 | .num n=>n<4294967296
 | .name s=>s.length≤12
 | .here=>True
 | .neg e=>okX e
 | .bin k a b=>(5≤k∧k≤11)∧okX a∧okX b
section
variable [Tabs]
variable {h h0:ae}{Q:QT}{K:AV→Prop}
theorem xC (l:List Int) {P:Int→Prop}(hP:∀ x∈l,P x) {n:Nat}(hn:l.length=n) {j:Int}(hj:0≤j∧j<n) (k:∀ x,P x→K (I x)):ak 1 (.full n (l.map I)) (I j) fun p=>ag p h K:=by
 obtain⟨i,rfl⟩:=Int.eq_ofNat_of_zero_le hj.1
 have hi:i<l.length:=by omega
 have r:Row (fun x:Int=>[I x]) 1 h (.full n (l.map I)) l:=by
  have e:l.map I=l.flatMap fun x:Int=>[I x]:=by
   clear hn hP hi
   induction l<;>simp_all
  rw[e,← hn];exact Row.full (enc:=fun x:Int=>[I x]) (sz:=1) (fun _=>rfl) l
 refine r.idx (fun _=>rfl) hi fun p t=>?_
 exact aH t (k _ (hP _ (List.getElem_mem hi)))
theorem xD (l:List Str) {P:Str→Prop}(hP:∀ x∈l,P x) {n:Nat}(hn:l.length=n) {j:Int}(hj:0≤j∧j<n) (k:∀ x,P x→K (T x)):ak 1 (.full n (l.map T)) (I j) fun p=>ag p h K:=by
 obtain⟨i,rfl⟩:=Int.eq_ofNat_of_zero_le hj.1
 have hi:i<l.length:=by omega
 have r:Row sE 1 h (.full n (l.map T)) l:=by
  have e:l.map T=l.flatMap sE:=by
   clear hn hP hi
   induction l with
   | nil=>rfl
   | cons x l ih=>rw[List.map_cons,List.flatMap_cons,ih];rfl
  rw[e,← hn];exact Row.full (enc:=sE) (sz:=1) (fun _=>rfl) l
 refine r.idx (fun _=>rfl) hi fun p t=>?_
 exact aH t (k _ (hP _ (List.getElem_mem hi)))
omit [Tabs] in
theorem OC (n:Int):inI (IntKind.i64.wrap n):=by unfold inI;rw[IntKind.wrap_i64];omega
theorem IH (x:List AV):[AV.agg x].flatMap (·.cells)=x:=by simp[AV.cells]
theorem ZK (x y:List AV):[AV.agg x,AV.agg y].flatMap (·.cells)=x++y:=by simp[AV.cells]
def Pf (r:RE):Prop:=∀ (h:ae) (Q:QT),(∀ e h',okX e→bn e≤3*DI r→Fr [] h h'→Q (.agg (bq e)) h')→C jy [.agg (xrE r)] h Q
def Dj (l:List RE) (i:Nat):Nat:=if hi:i<l.length then 3*DI l[i] else 1
theorem Hd {k n:Int}{l:List RE}{i:Nat}(hi:i<5) (ho:okR (.mk k n l)) (hM:∀ r∈l,Pf r) (q:∀ e h',okX e→bn e≤Dj l i→Fr [] h h'→Q (.agg (bq e)) h'):C gq [.agg (xrE (.mk k n l)),I (i:Nat)] h Q:=by
 refine BK _ _ _ _ ?_
 unfold yL
 simp only[okR]at ho
 refine bW (St.start h) rfl fun j1 h1 s1=>?_
 have s1:St h [] h1 [(j1,true,.cells [I k,I n,.snap l.length (xrL l)])]:=by simpa [AV.cells,xrE] using s1
 refine aQ s1 fun j2 h2 s2=>?_
 refine aj (af s2 (.tail _ (.head _)) (a:=.snap l.length (xrL l)) rfl (cE ?_))
 refine aJ (ah (fun hb=>?_) (fun hb=>?_))
 ·have hj:i<l.length:=by have:=of_decide_eq_true hb;omega
  refine aj (af s2 (.tail _ (.head _)) (a:=.snap l.length (xrL l)) rfl ?_)
  have RL:Row xrE 3 h2 (.snap l.length (xrL l)) l:=Tk l
  refine RL.idx ul hj fun p t=>?_
  refine aR t (ul _).symm ?_
  refine hM _ (List.getElem_mem hj) _ _ fun e h3 he hs f3=>?_
  have s3:=s2.call f3
  refine aM s3 rfl (au e) (aX e) .head fun h4 s4=>?_
  refine aK s4 (au e) (.head _) ?_
  exact q e _ he (by unfold Dj;rw[dif_pos hj];exact hs) s4.fr
 ·refine aj (af s2 (.tail _ (.head _)) (a:=I n) rfl (D3 ?_))
  refine gC (by decide) (by decide) (OC _) ?_
  have hm:=cX (a:=IntKind.i64.wrap (n+(i:Nat))) (n:=5) (by decide)
  obtain⟨m,hmm⟩:=Int.eq_ofNat_of_zero_le hm.1
  rw[hmm]
  refine aD rfl ?_
  refine aM s2 rfl (au (.num m)) (aX (.num m)) .head fun h4 s4=>?_
  refine aK s4 (au (.num m)) (.head _) ?_
  refine q (.num m) _ (by show m<_;omega) ?_ s4.fr
  unfold Dj
  split
  ·have:=BG l[i];simp[bn];omega
  ·simp[bn]
def aaO:List Int:=[0,1,2,255,65536,4294967295,40,7]
def aaw:List Str:=[[98,97,115,101],[120],[101,110,100,95,49],[114]]
theorem OS:∀ (N:Nat) (r:RE),DI r≤N→okR r→Pf r
 | 0,r,hN,_,h,Q,q=>by have:=BG r;omega
 | N+1,.mk k n l,hN,ho,h,Q,q=>by
   have hM:∀ r∈l,Pf r:=fun r hr=>OS N r (by have:=GG hr;simp only[DI]at hN;omega) (Ab (by simp only[okR]at ho;exact ho.2.2.2) r hr)
   have ho':=ho
   simp only[okR]at ho
   have hnE:DI (.mk k n l)=1+rI l:=by simp[DI]
   have hp0:Dj l 0≤1+3*rI l∧Dj l 1≤1+3*rI l∧Dj l 0+Dj l 1≤2+3*rI l:=by
    unfold Dj
    match l with
    | []=>simp
    | [a]=>simp[rI];omega
    | a::b::l=>simp[rI];omega
   refine Cm _ _ _ ?_
   unfold yn
   refine bW (St.start h) rfl fun j1 h1 s1=>?_
   have s1:St h [] h1 [(j1,true,.cells [I k,I n,.snap l.length (xrL l)])]:=by simpa [AV.cells,xrE] using s1
   refine aQ s1 fun j2 h2 s2=>?_
   have fin:∀ (e:Ex) (h3:ae),okX e→bn e≤3*DI (.mk k n l)→St h [] h3 [(j2,true,.cells [I 0,I 0,S ⟨#[]⟩,.full 0 []]),(j1,true,.cells [I k,I n,.snap l.length (xrL l)])]→
     an 4 (.ptr j2 0) (.agg (bq e)) h3 fun h4=>aq 4 (.ptr j2 0) h4 fun r=>Q r h4:=fun e h3 he hs s3=>by
    refine aM s3 rfl (au e) (aX e) .head fun h4 s4=>?_
    refine aK s4 (au e) (.head _) ?_
    exact q e _ he hs s4.fr
   refine aj (af s2 (.tail _ (.head _)) (a:=I k) rfl ?_)
   refine gC (by decide) (by decide) ho.1 ?_
   have hk:=cX (a:=k) (n:=18) (by decide)
   obtain⟨c,hc⟩:=Int.eq_ofNat_of_zero_le hk.1
   rw[hc]at hk ⊢
   refine aJ (ah (fun hb=>?_) (fun hb=>?_))
   ·refine aB rfl rfl ?_
    refine aj (af s2 (.tail _ (.head _)) (a:=I n) rfl ?_)
    refine gC (by decide) (by decide) ho.2.1 ?_
    refine xC aaO (P:=fun x=>0≤x∧x≤4294967295) (by decide) rfl (cX (by decide)) fun x hx=>?_
    obtain⟨m,rfl⟩:=Int.eq_ofNat_of_zero_le hx.1
    refine aD rfl ?_
    exact fin (.num m) _ (by show m<_;omega) (by simp[bn];omega) s2
   refine aJ (ah (fun hb=>?_) (fun hb=>?_))
   ·refine aj (af s2 (.tail _ (.head _)) (a:=I n) rfl ?_)
    refine yy _ _ ?_
    unfold yZ
    refine aB rfl rfl ?_
    refine⟨af s2 (.tail _ (.head _)) (a:=I n) rfl rfl,?_⟩
    refine gC (by decide) (by decide) ho.2.1 ?_
    refine xD aaw (P:=fun x=>x.length≤12) (by decide) rfl (cX (by decide)) fun x hx=>?_
    refine aD rfl ?_
    exact fin (.name x) _ hx (by simp[bn];omega) s2
   refine aA (ah (fun hb=>?_) (fun hb=>?_))
   ·refine aD rfl ?_
    exact fin .here _ trivial (by simp[bn];omega) s2
   refine aJ (ah (fun hb2=>?_) (fun hb2=>?_))
   ·refine aL s2 (.tail _ (.head _)) (nle rfl) ?_
    refine Hd (k:=k) (n:=n) (l:=l) (i:=0) (by decide) ho' hM fun e h3 he hs f3=>?_
    refine aB rfl (by simp[AV.isTup,AV.cells,au]) ?_
    rw[IH]
    refine aD (cs:=bq (.neg e)) rfl ?_
    refine fin (.neg e) _ he (by simp[bn];omega) (s2.call f3)
   ·have c11:11≤c:=by
     have h1:=of_decide_eq_false hb2
     omega
    refine aI (by omega) (cw (by omega) ?_)
    rw[show (5:Int)+(c:Nat)-11=((c-6:Nat):Int) by omega]
    refine aL s2 (.tail _ (.head _)) (nle rfl) ?_
    refine aL s2 (.tail _ (.head _)) (nle rfl) ?_
    refine Hd (k:=k) (n:=n) (l:=l) (i:=0) (by decide) ho' hM fun e h3 he hs f3=>?_
    have s3:=s2.call f3
    refine⟨aL s3 (.tail _ (.head _)) (nle rfl) rfl,?_⟩
    refine Hd (k:=k) (n:=n) (l:=l) (i:=1) (by decide) ho' hM fun e2 h4 he2 hs2 f4=>?_
    refine aB rfl (by simp[AV.isTup,AV.cells,au]) ?_
    rw[ZK]
    refine aD (cs:=bq (.bin (c-6) e e2)) rfl ?_
    refine fin (.bin (c-6) e e2) _ ⟨⟨by omega,by omega⟩,he,he2⟩ (by simp[bn];omega) (s3.call f4)
theorem Kc {l:List RE}{v:AV}(ho:DS l) (r:Row xrE 3 h v l) (q:∀ e h',okX e→bn e≤1+3*rI l→Fr [] h h'→Q (.agg (bq e)) h'):C nK [v] h Q:=by
 refine NE _ _ _ ?_
 unfold OE
 refine aQ (St.start h) fun j2 h2 s2=>?_
 refine (r.fr s2.fr).len (aA (ah (fun hb=>?_) (fun hb=>?_)))
 ·refine aD rfl ?_
  refine aM s2 rfl (au (.num 1)) (aX (.num 1)) .head fun h4 s4=>?_
  refine aK s4 (au (.num 1)) (.head _) ?_
  exact q (.num 1) _ (by show 1<_;decide) (by simp[bn]) s4.fr
 ·have hj:0<l.length:=by have:=of_decide_eq_false hb;omega
  refine (r.fr s2.fr).idx ul (j:=0) hj fun p t=>?_
  refine aR t (ul _).symm ?_
  refine OS _ l[0] (Nat.le_refl _) (Ab ho _ (List.getElem_mem hj)) _ _ fun e h3 he hs f3=>?_
  have s3:=s2.call f3
  refine aM s3 rfl (au e) (aX e) .head fun h4 s4=>?_
  refine aK s4 (au e) (.head _) ?_
  exact q e _ he (by have:=GG (List.getElem_mem hj);omega) s4.fr
end
end
section
theorem zO:∀ f n,∀ c∈l0 f n,48≤c.toNat∧c.toNat≤57
 | 0,n,c,hc=>by simp[l0]at hc
 | f+1,n,c,hc=>by
   unfold l0 at hc
   split at hc
   ·rename_i h
    simp at hc
    subst hc
    have:n=0∨n=1∨n=2∨n=3∨n=4∨n=5∨n=6∨n=7∨n=8∨n=9:=by omega
    rcases this with h|h|h|h|h|h|h|h|h|h<;>subst h<;>decide
   ·rcases List.mem_append.1 hc with hc|hc
    ·exact zO f _ c hc
    ·exact zO f _ c hc
theorem C7 (b:Nat):∀ (l m:Str) (n:Nat),pN b (l++m) n=(pN b l n).bind (pN b m)
 | [],m,n=>rfl
 | c::l,m,n=>by
   simp only[List.cons_append,pN]
   split
   ·rfl
   ·exact C7 b l m _
theorem Od:∀ f n,n<10^(f+1)→n<4294967296→pN 10 (l0 (f+1) n) 0=some n
 | f,n,hf,hn=>by
   unfold l0
   split
   ·have:n=0∨n=1∨n=2∨n=3∨n=4∨n=5∨n=6∨n=7∨n=8∨n=9:=by omega
    rcases this with h|h|h|h|h|h|h|h|h|h<;>subst h<;>decide
   ·rename_i h
    obtain⟨f,rfl⟩:∃ g,f=g+1:=by
     cases f with
     | zero=>simp at hf;omega
     | succ g=>exact⟨g,rfl⟩
    have hpw:(10:Nat)^(f+1+1)=10^(f+1)*10:=Nat.pow_succ ..
    rw[C7,Od f (n / 10) (by omega) (by omega)]
    have hd:n%10<10:=Nat.mod_lt _ (by decide)
    have hm:n / 10*10+n%10=n:=by omega
    show pN 10 (l0 (f+1) (n%10)) (n / 10)=some n
    unfold l0
    rw[if_pos hd]
    have hv:oc (UInt8.ofNat (48+n%10))=n%10:=by
     generalize n%10=q at hd
     have:q=0∨q=1∨q=2∨q=3∨q=4∨q=5∨q=6∨q=7∨q=8∨q=9:=by omega
     rcases this with h|h|h|h|h|h|h|h|h|h<;>subst h<;>decide
    simp only[pN,hv,hm]
    rw[if_neg (by omega)]
theorem Q1:∀ f n,n<10^(f+1)→l0 (f+1) n≠[]
 | 0,n,h=>by
   unfold l0
   rw[if_pos (by simpa using h)];simp
 | f+1,n,h=>by
   have hpw:(10:Nat)^(f+1+1)=10^(f+1)*10:=Nat.pow_succ ..
   unfold l0
   split
   ·simp
   ·simp[Q1 f (n / 10) (by omega)]
theorem I1 {p:UInt8→Bool}:∀ {l:Str},(∀ x∈l,p x=true)→l.takeWhile p=l
 | [],_=>rfl
 | c::l,h=>by rw[List.takeWhile_cons,if_pos (h c (.head _)),I1 fun x hx=>h x (.tail _ hx)]
theorem Wq (sub:PF) (j:Nat) (x:Ex):∀ n,eK sub ((levelsL[4-j]?).getD []) n x []=some (x,[]):=by
 have hk:dt ((levelsL[4-j]?).getD []) []=(0,[]):=by
  have:4-j=0∨4-j=1∨4-j=2∨4-j=3∨4-j=4:=by omega
  rcases this with h|h|h|h|h<;>rw[h]<;>decide
 intro n
 cases n<;>simp[eK,hk]
theorem Lb {one:PF}{s:Str}{x:Ex}(h:one s=some (x,[])):∀ r,gv one r s=some (x,[])
 | 0=>h
 | r+1=>by
   unfold gv
   rw[Lb h r]
   exact Wq _ _ _ _
theorem MV {f n:Nat}(hf:n<10^(f+1)) (hn:n<4294967296) (g m:PF):rk g m (l0 (f+1) n)=some (.num n,[]):=by
 have hp:=zO (f+1) n
 have hne:=Q1 f n hf
 have hnum:=Od f n hf hn
 generalize l0 (f+1) n=s at hp hne hnum
 match s,hne with
 | c::s,_=>
   have hc:=hp c (.head _)
   have hall:∀ x∈c::s,bu x.toNat=true:=fun x hx=>by
    have:=hp x hx;simp[bu];omega
   have hb:blk (c::s)=c::s:=by
    have:c≠32:=fun e=>by subst e;revert hc;decide
    simp[blk,ia,this]
   have hn:∀ (q:UInt8) (l:Str),q.toNat<48→(q::l).isPrefixOf (c::s)=false:=fun q l hq=>by
    have:q≠c:=fun e=>by subst e;omega
    simp[List.isPrefixOf,this]
   have h2:([48,120]:Str).isPrefixOf (c::s)=false:=by
    cases s with
    | nil=>simp[List.isPrefixOf]
    | cons d s=>
      have hd:=hp d (.tail _ (.head _))
      have:(120:UInt8)≠d:=fun e=>by subst e;revert hd;decide
      simp[List.isPrefixOf,this]
   have hw:Ga (c::s)=c::s:=by
    unfold Ga
    exact I1 hall
   unfold rk
   rw[hb,hn 40 [] (by decide),hn 45 [] (by decide),hn 46 [] (by decide)]
   unfold Al EM
   rw[h2,hw]
   unfold eW
   rw[hnum]
   simp[fP]
theorem Tm {f n:Nat}(hf:n<10^(f+1)) (hn:n<4294967296):gD (l0 (f+1) n)=some (.num n):=by
 unfold gD
 rw[Lb (one:=Ao 12) (MV hf hn _ _)]
 simp[blk,ia]
theorem Uh {f n:Nat}(hf:n<10^(f+1)) (hn:n<4294967296):gD (45::l0 (f+1) n)=some (.neg (.num n)):=by
 unfold gD
 have h1:Ao 12 (45::l0 (f+1) n)=some (.neg (.num n),[]):=by
  show rk (gy (gv (Ao 11) 5)) (eC (Ao 11)) _=_
  unfold rk
  have hb:blk (45::l0 (f+1) n)=45::l0 (f+1) n:=by simp[blk,ia]
  rw[hb]
  have h40:([40]:Str).isPrefixOf (45::l0 (f+1) n)=false:=by simp[List.isPrefixOf]
  have h45:([45]:Str).isPrefixOf (45::l0 (f+1) n)=true:=by simp[List.isPrefixOf]
  rw[h40,h45]
  simp only[Bool.false_eq_true,if_false,if_true]
  show eC (Ao 11) (l0 (f+1) n)=_
  unfold eC
  rw[show Ao 11 (l0 (f+1) n)=_ from MV hf hn _ _]
 rw[Lb h1]
 simp[blk,ia]
section
variable [Tabs]
variable {h h0:ae}{Q:QT}{K:AV→Prop}
theorem Ka {x:Int}(hx:-4294967295≤x∧x≤4294967295) (q:∀ s h',s.length≤2000→(∃ e,gD s=some e∧okX e∧bn e≤2)→Fr [] h h'→Q (T s) h'):C dk [I x] h Q:=by
 by_cases h0:0≤x
 ·obtain⟨n,rfl⟩:=Int.eq_ofNat_of_zero_le h0
  refine xM 9 n (by omega) (by decide) h Q fun h1 f1=>?_
  refine q _ _ (by have:=tu 10 n;show (l0 10 n).length≤2000;omega) ⟨_,Tm (f:=9) (by omega) (by omega),by show n<_;omega,by simp[bn]⟩ f1
 ·obtain⟨n,hn⟩:=Int.eq_ofNat_of_zero_le (show 0≤-x by omega)
  refine wr _ _ _ ?_
  unfold xe
  refine aJ (ah (fun _=>?_) (fun hb=>?_))
  ·refine cw (by omega) ?_
   rw[show 0-x=((n:Nat):Int) by omega]
   refine xM 9 n (by omega) (by decide) h _ fun h1 f1=>?_
   have:=tu 10 n
   refine d3 (by simp;omega) ?_
   exact q _ _ (by simp;omega) ⟨_,Uh (f:=9) (n:=n) (by omega) (by omega),by show n<_;omega,by simp[bn]⟩ f1
  ·have:=of_decide_eq_false hb;omega
def WA (N:Nat):Prop:=∀ (e:Ex),bn e≤N→okX e→∀ (h:ae) (Q:QT),(∀ s h',s.length≤2000*bn e→Fr [] h h'→Q (T s) h')→C lG [.agg (bq e)] h Q
theorem GS {N:Nat}(hT:WA N) {e:Ex}(hs:bn e≤N) (hN:N≤1000000) (he:okX e) (q:∀ s h',s.length≤2000*bn e+2→Fr [] h h'→Q (T s) h'):C dq [.agg (bq e)] h Q:=by
 refine AY _ _ _ ?_
 unfold vA
 refine bW (St.start h) rfl fun i h1 s1=>?_
 have s1:St h [] h1 [(i,true,.cells (bq e))]:=s1
 obtain⟨n,cs,hl⟩:∃ n cs,(bq e)[3]?=some (.full n cs):=by cases e<;>exact⟨_,_,rfl⟩
 refine aj (af s1 (.head _) hl (d6 ?_))
 refine aA (ah (fun _=>?_) (fun _=>?_))
 ·refine aK s1 (au e) (.head _) ?_
  refine hT e hs he _ _ fun s h2 hl f2=>?_
  refine d3 (by simp;omega) (d3 (by simp;omega) ?_)
  exact q _ _ (by simp;omega) (s1.call f2).fr
 ·refine aK s1 (au e) (.head _) ?_
  refine hT e hs he _ _ fun s h2 hl f2=>?_
  exact q _ _ (by omega) (s1.call f2).fr
theorem M8:∀ N,N≤1000000→WA N
 | 0,_,e,hs,_,_,_,_=>by cases e<;>simp[bn]at hs
 | N+1,hN,e,hs,he,h,Q,q=>by
   have hT:=M8 N (by omega)
   refine Lg _ _ _ ?_
   unfold JA
   refine bW (St.start h) rfl fun i h1 s1=>?_
   have s1:St h [] h1 [(i,true,.cells (bq e))]:=s1
   cases e with
   | none=>exact he.elim
   | num n=>
     have hn:n<4294967296:=he
     refine aj (af s1 (.head _) (a:=I 1) rfl (aA (ah (fun _=>?_) (fun h=>by cases h))))
     refine aj (af s1 (.head _) (a:=I (n:Nat)) rfl ?_)
     refine Ka (by omega) fun s h2 hl _ f2=>?_
     exact q _ _ (by simp[bn];omega) (s1.call f2).fr
   | name s=>
     have hn:s.length≤12:=he
     refine aj (af s1 (.head _) (a:=I 2) rfl (aA (ah (fun h=>by cases h) (fun _=>?_))))
     refine aA (ah (fun _=>?_) (fun h=>by cases h))
     refine aj (af s1 (.head _) (a:=T s) rfl ?_)
     exact q _ _ (by simp[bn];omega) s1.fr
   | here=>
     refine aj (af s1 (.head _) (a:=I 3) rfl (aA (ah (fun h=>by cases h) (fun _=>?_))))
     refine aA (ah (fun h=>by cases h) (fun _=>?_))
     refine aA (ah (fun _=>?_) (fun h=>by cases h))
     exact q _ _ (by simp[bn]) s1.fr
   | neg e=>
     simp only[bn]at hs q
     have he:okX e:=he
     refine aj (af s1 (.head _) (a:=I 4) rfl (aA (ah (fun h=>by cases h) (fun _=>?_))))
     refine aA (ah (fun h=>by cases h) (fun _=>?_))
     refine aA (ah (fun h=>by cases h) (fun _=>?_))
     refine aA (ah (fun _=>?_) (fun h=>by cases h))
     refine aj (af s1 (.head _) (a:=.full 1 (bq e)) rfl ?_)
     have r:Row bq 4 h1 (.full 1 (bq e)) [e]:=by simpa using Row.full (h:=h1) (enc:=bq) (sz:=4) au [e]
     refine r.idx au (j:=0) (by simp) fun p t=>?_
     refine aR t (au _).symm ?_
     refine GS (e:=e) hT (show bn e≤N by omega) (by omega) he fun s h2 hl f2=>?_
     refine d3 (by simp;omega) ?_
     exact q _ _ (by simp;omega) (s1.call f2).fr
   | bin k a b=>
     simp only[bn]at hs q
     obtain⟨hk,ha,hb⟩:=he
     refine aj (af s1 (.head _) (a:=I (k:Nat)) rfl (aA (ah (fun h=>by simp at h;omega) (fun _=>?_))))
     refine aA (ah (fun h=>by simp at h;omega) (fun _=>?_))
     refine aA (ah (fun h=>by simp at h;omega) (fun _=>?_))
     refine aA (ah (fun h=>by simp at h;omega) (fun _=>?_))
     refine aj (af s1 (.head _) (a:=I (k:Nat)) rfl ?_)
     refine AO _ _ _ ?_
     unfold BX
     have r:∀ h,Row bq 4 h (.full 2 (bq a++bq b)) [a,b]:=fun h=>by simpa using Row.full (h:=h) (enc:=bq) (sz:=4) au [a,b]
     have go:∀ (sgn:Str) (u:AV),sgn.length≤2→ao 0 (.tup [T sgn,u]) fun t30=>ao 1 (.tup [T sgn,u]) fun t31=>ab 3 (.ptr i 0) fun t32=>ag t32 h1 fun t33=>ak 4 t33 (I 0) fun t34=>aq 4 t34 h1 fun t35=>
       ab 3 (.ptr i 0) fun t41=>ag t41 h1 fun t42=>ak 4 t42 (I 1) fun t43=>aq 4 t43 h1 fun t44=>C dq [t35] h1 fun t36 h4=>(aq 4 t43 h4 fun _t=>_t=t44)∧(ag t41 h4 fun _t=>_t=t42)∧
       ai .add t36 (S ⟨#[32]⟩) fun t37=>ai .add t37 t30 fun t39=>ai .add t39 (S ⟨#[32]⟩) fun t40=>C dq [t44] h4 fun t45 h5=>ai .add t40 t45 fun t46=>Q t46 h5:=fun sgn u hsg=>by
      refine aE rfl (aE rfl ?_)
      refine aj (af s1 (.head _) (a:=.full 2 (bq a++bq b)) rfl ?_)
      refine (r h1).idx au (j:=0) (by simp) fun p t=>?_
      refine aR t (au _).symm ?_
      refine aj (af s1 (.head _) (a:=.full 2 (bq a++bq b)) rfl ?_)
      refine (r h1).idx au (j:=1) (by simp) fun p2 t2=>?_
      refine aR t2 (au _).symm ?_
      refine GS (e:=a) hT (show bn a≤N by omega) (by omega) ha fun s h2 hl f2=>?_
      have s2:=s1.call f2
      refine⟨aR (t2.fr f2) (au _).symm rfl,af s2 (.head _) rfl rfl,?_⟩
      refine d3 (by simp;omega) (d3 (by simp;omega) (d3 (by simp;omega) ?_))
      refine GS (e:=b) hT (show bn b≤N by omega) (by omega) hb fun s' h3 hl' f3=>?_
      refine d3 (by simp;omega) ?_
      exact q _ _ (by simp;omega) (s2.call f3).fr
     refine aA (ah (fun _=>go [43] _ (by simp)) (fun _=>?_))
     refine aA (ah (fun _=>go [45] _ (by simp)) (fun _=>?_))
     refine aA (ah (fun _=>go [42] _ (by simp)) (fun _=>?_))
     refine aA (ah (fun _=>go [38] _ (by simp)) (fun _=>?_))
     refine aA (ah (fun _=>go [124] _ (by simp)) (fun _=>?_))
     refine aA (ah (fun _=>go [60,60] _ (by simp)) (fun _=>?_))
     exact go [62,62] _ (by simp)
end
end
section
section
variable [Tabs]
variable {h h0:ae}{Q:QT}{i D p:Nat}{s:Str}{b:Bool}
def tS:Str:=ref2_find_k1.data.toList
structure R3 where
 name:Str
 bits:Str
 kinds:Str
def R3.enc (r:R3):Str:=r.name++(58::(r.bits++(58::(r.kinds++[124]))))
def abx (n:Nat):UInt8:=if n<10 then UInt8.ofNat (48+n) else UInt8.ofNat (87+n)
def aa4:Nat→Nat→Str
 | 0,_=>[]
 | k+1,n=>aa4 k (n / 16)++[abx (n%16)]
def Z8 (op:Nat) (r:Rw):R3:=⟨r.name,aa4 (2*l7 op) r.bits,r.kinds⟩
def NW:Nat→List Rw→List R3
 | _,[]=>[]
 | n,r::l=>Z8 n r::NW (n+1) l
def rowsR:List R3:=NW 0 tbl
theorem aba:tS=rowsR.flatMap R3.enc:=by kernel_rfl
theorem Pk:tS.length=1212:=by kernel_rfl
def ot (w:Str):Bool:=w.all fun c=>!(c==58)&&!(c==124)
theorem Pr:(rowsR.all fun r=>ot r.name&&(ot r.bits&&ot r.kinds))=true:=by kernel_rfl
theorem hT:(S ref2_find_k1)=T tS:=rfl
theorem Ai {p j:Nat}{K:AV→Prop}(hj:j<3) (k:K (.ptr p (0+j*1))):ce 3 1 (.ptr p 0) (I (j:Nat)) K:=⟨by
 simp only[cQ,asI,Int.toNat_natCast]
 exact⟨⟨by omega,by omega⟩,k⟩⟩
abbrev FB (q9 q4:Nat) (op:Int) (name:Str) (Q:QT):List AV→ae→(NT)→Prop:=fun vs h nx=>kx (.ptr q9 0) (.ptr q4 0) (I op) (T name) Q vs h nx
abbrev fvs (n a k i:Nat):List AV:=[I 0,B false,I (n:Nat),I (a:Nat),I (k:Nat),I (i:Nat)]
variable {q9 q4:Nat}{op:Int}{name:Str}
theorem xO {n a k m:Nat}:∀ (w rest:Str) (i:Nat),ot w=true→tS.drop i=w++rest→LX (FB q9 q4 op name Q) m (fvs n a k (i+w.length)) h→LX (FB q9 q4 op name Q) (m+w.length) (fvs n a k i) h
 | [],rest,i,_,_,K=>K
 | c::w,rest,i,hw,hd,K=>by
   have hi:i<tS.length:=by
    rcases Nat.lt_or_ge i tS.length with h|h
    ·exact h
    ·rw[List.drop_of_length_le h]at hd;cases hd
   have hc:tS[i]=c∧tS.drop (i+1)=w++rest:=by
    rw[AF hi]at hd
    injection hd with h1 h2
    exact⟨h1,h2⟩
   have hp:c≠58∧c≠124:=by
    have:=List.all_eq_true.1 hw c (.head _)
    simpa using this
   have hw2:ot w=true:=by
    unfold ot at hw ⊢
    rw[List.all_cons,Bool.and_eq_true]at hw
    exact hw.2
   have hl:=Pk
   refine qJ ?_
   unfold FB kx
   rw[hT]
   refine aJ (ah (fun _=>?_) (fun h=>by simp at h;omega))
   refine bP hi ?_
   rw[hc.1]
   refine cg (ah (fun _=>?_) (fun h=>by
    simp only[decide_eq_false_iff_not,Classical.not_not]at h
    exact absurd ((R7 (n:=58) (by decide)).1 h) hp.1))
   refine bP hi ?_
   rw[hc.1]
   refine cg (ah (fun _=>?_) (fun h=>by
    simp only[decide_eq_false_iff_not,Classical.not_not]at h
    exact absurd ((R7 (n:=124) (by decide)).1 h) hp.2))
   unfold ju oT
   refine aI (by omega) ?_
   refine⟨m+w.length,by simp,?_⟩
   have:=xO (m:=m) w rest (i+1) hw2 hc.2 (by rw[show i+1+w.length=i+(c::w).length by simp;omega];exact K)
   exact this
theorem Fs {n a k m i:Nat}{c:UInt8}{xs:List AV}(hn:n<100000) (hx:xs.length=3) (ho:xs.all AV.one=true) (hk:k<3) (hc:c=58∨c=124) (hi:i<tS.length) (hci:tS[i]=c) (hai:a≤i) (s:St h0 [] h [(q9,true,.cells xs),(q4,true,.cells [T [],T [],T []])])
  (K:∀ h',St h0 [] h' [(q9,true,.cells (xs.set k (T ((tS.drop a).take (i-a))))),(q4,true,.cells [T [],T [],T []])]→(c=58→LX (FB q9 q4 op name Q) m (fvs n (i+1) (k+1) (i+1)) h')∧
   (c=124→(∀ A B' C',xs.set k (T ((tS.drop a).take (i-a)))=[T A,T B',T C']→((n:Int)=op∨A=name→∀ h2,Fr [] h0 h2→Q (.tup [.agg [T A,T B',T C'],I (n:Nat),B true]) h2)∧(¬ ((n:Int)=op∨A=name)→LX (FB q9 q4 op name Q) m (fvs (n+1) (i+1) 0 (i+1)) h'))∧∃ A B' C',xs.set k (T ((tS.drop a).take (i-a)))=[T A,T B',T C'])):
  LX (FB q9 q4 op name Q) (m+1) (fvs n a k i) h:=by
 have hl:=Pk
 refine qJ ?_
 unfold FB kx
 rw[hT]
 refine aJ (ah (fun _=>?_) (fun h=>by simp at h;omega))
 refine bP hi ?_
 rw[hci]
 have c1:pj (fvs n a k i) (.ptr q9 0) h (I op) (.ptr q4 0) Q (T name) (fun vs' h'=>∃ m_1,∃ _:m_1<m+1,LX (FB q9 q4 op name Q) m_1 vs' h'):=by
  unfold pj
  rw[hT]
  refine F2 (by omega) (by omega) (by omega) ?_
  simp only[Int.toNat_natCast]
  refine Ai hk ?_
  refine ay (cs:=xs) (o:=0+k*1) (L':=[(q9,true,.cells (xs.set k (T ((tS.drop a).take (i-a))))),(q4,true,.cells [T [],T [],T []])]) s ?_ rfl rfl rfl (by omega) fun h2 s2=>?_
  ·have e:splice xs (0+k*1) (T ((tS.drop a).take (i-a))).cells=xs.set k (T ((tS.drop a).take (i-a))):=by
    rcases xs with _|⟨x0,_|⟨x1,_|⟨x2,_|⟨x3,xs⟩⟩⟩⟩<;>simp at hx
    rcases (show k=0∨k=1∨k=2 by omega) with e|e|e<;>subst e<;>rfl
   rw[e];exact .head
  obtain⟨k1,k2⟩:=K h2 s2
  refine aI (by omega) (aI (by omega) ?_)
  refine bP hi ?_
  rw[hci]
  refine aA ?_
  rcases hc with rfl|rfl
  ·refine ah (fun h=>by simp at h) (fun _=>?_)
   unfold ju oT
   refine aI (by omega) ?_
   exact⟨m,by omega,k1 rfl⟩
  ·refine ah (fun _=>?_) (fun h=>by simp at h)
   obtain⟨k2,A,B',C',hA⟩:=k2 rfl
   obtain⟨k2,k3⟩:=k2 A B' C' hA
   rw[hA]at s2
   have c2:(n:Int)=op∨A=name→oW (.ptr q9 0) h2 (.ptr q4 0) Q (fvs n a k i):=fun hh=>by
    unfold oW
    refine Ai (j:=0) (by decide) (af s2 (.head _) (a:=T A) rfl ?_)
    refine Ai (j:=1) (by decide) (af s2 (.head _) (a:=T B') rfl ?_)
    refine Ai (j:=2) (by decide) (af s2 (.head _) (a:=T C') rfl ?_)
    refine aD rfl ?_
    refine ay (o:=0) s2 (.tail .head) rfl rfl rfl (nle rfl) fun h3 s3=>?_
    refine aL s3 (.tail _ (.head _)) (nle rfl) ?_
    exact k2 hh h3 s3.fr
   refine aA ?_
   refine ah (fun h=>c2 (.inl (of_decide_eq_true h))) (fun hno=>?_)
   refine Ai (j:=0) (by decide) (af s2 (.head _) (a:=T A) rfl ?_)
   refine aV ?_
   refine ah (fun h=>c2 (.inr (by simpa using h))) (fun hno2=>?_)
   refine aI (by omega) ?_
   unfold ju oT
   refine aI (by omega) ?_
   exact⟨m,by omega,k3 (by rintro (h|h);exact of_decide_eq_false hno h;simp[h]at hno2)⟩
 refine cg (ah (fun _=>?_) (fun _=>c1))
 refine bP hi ?_
 rw[hci]
 refine cg (ah (fun hh=>?_) (fun _=>c1))
 rename_i hh0
 rcases hc with rfl|rfl
 ·simp at hh0
 ·simp at hh
theorem abn {xs:List AV}(hx:xs.length=3) (x y z:AV):((xs.set 0 x).set 1 y).set 2 z=[x,y,z]:=by
 rcases xs with _|⟨x0,_|⟨x1,_|⟨x2,_|⟨x3,xs⟩⟩⟩⟩<;>simp at hx
 rfl
theorem Gm {a:Nat}{w rest:Str}(h:tS.drop a=w++rest):(tS.drop a).take (a+w.length-a)=w:=by
 rw[h,show a+w.length-a=w.length by omega,List.take_left'];rfl
theorem Ko {i:Nat}{c:UInt8}{rest:Str}(h:tS.drop i=c::rest):∃ hi:i<tS.length,tS[i]=c∧tS.drop (i+1)=rest:=by
 have hi:i<tS.length:=by
  rcases Nat.lt_or_ge i tS.length with h'|h'
  ·exact h'
  ·rw[List.drop_of_length_le h']at h;cases h
 rw[AF hi]at h
 injection h with h1 h2
 exact⟨hi,h1,h2⟩
theorem XZ {r:R3}{n p m:Nat}{rest:Str}{xs:List AV}(hn:n<100000) (h1:ot r.name=true) (h2:ot r.bits=true) (h3:ot r.kinds=true) (hd:tS.drop p=r.enc++rest) (hx:xs.length=3) (ho:xs.all AV.one=true)
  (s:St h0 [] h [(q9,true,.cells xs),(q4,true,.cells [T [],T [],T []])])
  (kf:(n:Int)=op∨r.name=name→∀ h2,Fr [] h0 h2→Q (.tup [.agg [T r.name,T r.bits,T r.kinds],I (n:Nat),B true]) h2)
  (kn:¬ ((n:Int)=op∨r.name=name)→∀ h' xs',xs'.length=3→xs'.all AV.one=true→St h0 [] h' [(q9,true,.cells xs'),(q4,true,.cells [T [],T [],T []])]→LX (FB q9 q4 op name Q) m (fvs (n+1) (p+r.enc.length) 0 (p+r.enc.length)) h'):
  LX (FB q9 q4 op name Q) (m+r.enc.length) (fvs n p 0 p) h:=by
 have hl:r.enc.length=r.name.length+(1+(r.bits.length+(1+(r.kinds.length+1)))):=by unfold R3.enc;simp;omega
 have e1:tS.drop p=r.name++(58::(r.bits++(58::(r.kinds++(124::rest))))):=by rw[hd];unfold R3.enc;simp
 have e2:tS.drop (p+r.name.length)=58::(r.bits++(58::(r.kinds++(124::rest)))):=by rw[← List.drop_drop,e1,List.drop_left'];rfl
 obtain⟨i1,c1,e3⟩:=Ko e2
 have e4:tS.drop (p+r.name.length+1+r.bits.length)=58::(r.kinds++(124::rest)):=by rw[← List.drop_drop,e3,List.drop_left'];rfl
 obtain⟨i2,c2,e5⟩:=Ko e4
 have e6:tS.drop (p+r.name.length+1+r.bits.length+1+r.kinds.length)=124::rest:=by rw[← List.drop_drop,e5,List.drop_left'];rfl
 obtain⟨i3,c3,e7⟩:=Ko e6
 rw[show m+r.enc.length=(((((m+1)+r.kinds.length)+1)+r.bits.length)+1)+r.name.length by omega]
 refine xO r.name _ p h1 e1 ?_
 refine Fs hn hx ho (by decide) (.inl rfl) i1 c1 (by omega) s fun h5 s5=>⟨fun _=>?_,fun h=>by cases h⟩
 rw[Gm e1]at s5
 refine xO r.bits _ _ h2 e3 ?_
 refine Fs (xs:=xs.set 0 (T r.name)) hn (by simpa using hx) (by
  rcases xs with _|⟨x0,_|⟨x1,_|⟨x2,_|⟨x3,xs⟩⟩⟩⟩<;>simp at hx ho ⊢
  exact⟨rfl,ho.2.1,ho.2.2⟩) (by decide) (.inl rfl) i2 c2 (by omega) s5 fun h6 s6=>⟨fun _=>?_,fun h=>by cases h⟩
 rw[Gm e3]at s6
 refine xO r.kinds _ _ h3 e5 ?_
 refine Fs (xs:=(xs.set 0 (T r.name)).set 1 (T r.bits)) hn (by simpa using hx) (by
  rcases xs with _|⟨x0,_|⟨x1,_|⟨x2,_|⟨x3,xs⟩⟩⟩⟩<;>simp at hx ho ⊢
  exact⟨rfl,rfl,ho.2.2⟩) (by decide) (.inr rfl) i3 c3 (by omega) s6 fun h7 s7=>⟨fun h=>(by cases h),fun _=>?_⟩
 rw[Gm e5,abn hx]at s7 ⊢
 refine⟨fun A B' C' hA=>?_,r.name,r.bits,r.kinds,rfl⟩
 have hA:r.name=A∧r.bits=B'∧r.kinds=C':=by simpa using hA
 obtain⟨rfl,rfl,rfl⟩:=hA
 refine⟨kf,fun hno=>?_⟩
 have:=kn hno h7 _ rfl rfl s7
 rw[hl,show p+(r.name.length+(1+(r.bits.length+(1+(r.kinds.length+1)))))=p+r.name.length+1+r.bits.length+1+r.kinds.length+1 by omega]at this
 exact this
def Bh (op:Int) (name:Str):Nat→List R3→Option (Nat×R3)
 | _,[]=>none
 | n,r::l=>if (n:Int)=op∨r.name=name then some (n,r) else Bh op name (n+1) l
def ZI:Option (Nat×R3)→AV
 | some (n,r)=>.tup [.agg [T r.name,T r.bits,T r.kinds],I (n:Nat),B true]
 | none=>.tup [.agg [T [],T [],T []],I 0,B false]
theorem M0:∀ (l:List R3) (n p:Nat) (xs:List AV) (h:ae),n+l.length<100000→(l.all fun r=>ot r.name&&(ot r.bits&&ot r.kinds))=true→tS.drop p=l.flatMap R3.enc→xs.length=3→xs.all AV.one=true→
  St h0 [] h [(q9,true,.cells xs),(q4,true,.cells [T [],T [],T []])]→(∀ h2,Fr [] h0 h2→Q (ZI (Bh op name n l)) h2)→LX (FB q9 q4 op name Q) (1+(l.flatMap R3.enc).length) (fvs n p 0 p) h
 | [],n,p,xs,h,hn,_,hd,hx,ho,s,k=>by
   have hl:=Pk
   have hp:1212≤p:=by
    have:=congrArg List.length hd
    simp at this;omega
   refine qJ ?_
   unfold FB kx
   refine aJ (ah (fun h=>by simp at h;omega) (fun _=>?_))
   refine aD rfl ?_
   refine ay (o:=0) s (.tail .head) rfl rfl rfl (nle rfl) fun h2 s2=>?_
   refine aL s2 (.tail _ (.head _)) (nle rfl) ?_
   exact k h2 s2.fr
 | r::l,n,p,xs,h,hn,hp,hd,hx,ho,s,k=>by
   rw[List.all_cons,Bool.and_eq_true,Bool.and_eq_true,Bool.and_eq_true]at hp
   obtain⟨⟨h1,h2,h3⟩,hp⟩:=hp
   rw[List.flatMap_cons]at hd
   rw[List.flatMap_cons,List.length_append,show 1+(r.enc.length+(l.flatMap R3.enc).length)=(1+(l.flatMap R3.enc).length)+r.enc.length by omega]
   have hd2:tS.drop (p+r.enc.length)=l.flatMap R3.enc:=by rw[← List.drop_drop,hd,List.drop_left'];rfl
   refine XZ (by simp at hn;omega) h1 h2 h3 hd hx ho s (fun hh h2 f2=>?_) (fun hh h' xs' hx' ho' s'=>?_)
   ·have:=k h2 f2
    unfold Bh at this
    rw[if_pos hh]at this
    exact this
   ·refine M0 l (n+1) (p+r.enc.length) xs' h' (by simp at hn;omega) hp hd2 hx' ho' s' fun h2 f2=>?_
    have:=k h2 f2
    unfold Bh at this
    rw[if_neg hh]at this
    exact this
theorem Tl:rowsR.length<1000:=of_decide_eq_true (by kernel_rfl)
theorem Iz (op:Int) (name:Str) (k:∀ h',Fr [] h h'→Q (ZI (Bh op name 0 rowsR)) h'):C oY [I op,T name] h Q:=by
 refine LN _ _ _ _ ?_
 unfold H2
 refine aQ (St.start h) fun q4 h1 s1=>?_
 refine aQ s1 fun q9 h2 s2=>?_
 refine Af _ (M0 rowsR 0 0 _ h2 (by have:=Tl;omega) Pr (by rw[List.drop_zero];exact aba) rfl rfl s2 k)
end
end
section
variable [Tabs]
def Ia:Way→Bool
 | .reg=>true
 | _=>false
def Z5 (kinds:List Str):Prop:=∀ k∈kinds,∀ (h:ae) (Q:QT),Q (B (Ia (ln k))) h→C jB [T k] h Q
end
section
section
variable [Tabs]
variable {h h0:ae}{Q:QT}{i D p:Nat}{s:Str}{b:Bool}
theorem E8:∀ (l:List Rw) (n j:Nat) (hj:j<l.length),(∀ r∈l,r.name≠[32])→Bh ((n+j:Nat):Int) [32] n (NW n l)=some (n+j,Z8 (n+j) l[j])
 | r::l,n,0,hj,hn=>by
   unfold NW Bh
   rw[if_pos (.inl (by simp))];rfl
 | r::l,n,j+1,hj,hn=>by
   unfold NW Bh
   rw[if_neg (by
    rintro (h|h)
    ·omega
    ·exact hn r (.head _) h)]
   have:=E8 l (n+1) j (by simpa using hj) fun x hx=>hn x (.tail _ hx)
   rw[show n+1+j=n+(j+1) by omega]at this
   simpa using this
theorem Uy:∀ r∈tbl,r.name≠[32]:=by decide
theorem Sh {op:Nat}(ho:op<tbl.length):Bh (op:Int) [32] 0 rowsR=some (op,Z8 op tbl[op]):=by
 have:=E8 tbl 0 op ho Uy
 simp only[Nat.zero_add]at this
 exact this
theorem LA {op:Nat}(ho:op<tbl.length) (k:∀ h',Fr [] h h'→Q (T (tbl[op]).kinds) h'):C ng [I (op:Nat)] h Q:=by
 refine H0 _ _ _ ?_
 unfold Fw
 refine Iz (op:Int) [32] fun h1 f1=>?_
 rw[Sh ho]
 refine aE rfl (aE rfl (aE rfl ?_))
 refine aQ ((St.start h).call f1) fun q h2 s2=>?_
 refine ay (o:=0) s2 .head rfl rfl rfl (nle rfl) fun h3 s3=>?_
 refine aj (af s3 (.head _) (a:=T (tbl[op]).kinds) rfl ?_)
 exact k _ s3.fr
def sK:Prop:=∀ r∈tbl,∀ (h:ae) (Q:QT),Q (.snap (cK r.kinds).length ((cK r.kinds).flatMap sE)) h→C nj [T r.kinds] h Q
def xE:Prop:=∀ r∈tbl,Z5 (cK r.kinds)
end
end
section
def okA (a:Ar):Prop:=(0≤a.reg∧a.reg≤31)∨(a.reg=-1∧okX a.e∧bn a.e≤60)
def BB (rs:RS):Prop:=rs.lab.length≤5∧rs.text.length≤20∧rs.kind≤9∧(rs.kind=1→rs.op<66)∧(rs.kind=2→rs.op<3)∧rs.args.length≤100∧∀ a∈rs.args,okA a
section
variable [Tabs]
variable {h h0:ae}{Q:QT}{K:AV→Prop}{i:Nat}
def AccF (sz:Nat) (v:AV) (n:Nat) (cs:List AV) (E:Own):Prop:=cs.length=n*sz∧((v=.full n cs∧E=[])∨∃ j,v=.sl j 0 n sz∧E=[(j,true,.cells cs)])
theorem AccF.none (sz:Nat):AccF sz (.full 0 []) 0 [] []:=⟨by simp,.inl ⟨rfl,rfl⟩⟩
theorem AccF.rest {sz n:Nat}{v:AV}{cs:List AV}{E R:Own}(a:AccF sz v n cs E) (s:St h0 [] h (E++R)):St h0 [] h R:=s.sub (List.sublist_append_right _ _)
theorem AccF.one {sz n:Nat}{v:AV}{cs:List AV}{E:Own}(a:AccF sz v n cs E):v.one=true∧v.isTup=false∧v.cells=[v]:=by
 obtain⟨_,⟨rfl,_⟩|⟨j,rfl,_⟩⟩:=a<;>exact⟨rfl,rfl,rfl⟩
theorem AccF.app {sz n bytes m:Nat}{v x:AV}{cs xs:List AV}{E R:Own}{KH:QT}(a:AccF sz v n cs E) (s:St h0 [] h (E++R)) (r:Rd h sz x m xs) (h1:xs.all AV.one=true) (hb:(n+m)*bytes≤1099511627776)
  (k:∀ v' E' h',AccF sz v' (n+m) (cs++xs) E'→St h0 [] h' (E'++R)→KH v' h'):bl sz bytes v x h KH:=by
 have hx:=r.len
 obtain⟨hl,⟨rfl,rfl⟩|⟨j,rfl,rfl⟩⟩:=a
 ·refine⟨?_⟩
  simp only[kF,r.2]
  refine⟨⟨hl,hb⟩,?_⟩
  split
  ·rename_i hm
   subst hm
   have:xs=[]:=by simpa using hx
   subst this
   exact k _ [] _ ⟨by simpa using hl,.inl ⟨by simp,rfl⟩⟩ s
  ·exact k _ [(h.length,true,.cells (cs++xs))] _ ⟨by simp[hl,hx,Nat.add_mul],.inr ⟨_,rfl,rfl⟩⟩ (s.push _)
 ·refine Rm s r .head h1 (by omega) hb fun i h' s'=>?_
  exact k _ [(i,true,.cells (cs++xs))] h' ⟨by simp[hl,hx,Nat.add_mul],.inr ⟨i,rfl,rfl⟩⟩ s'
def WSt (h0 h:ae) (i:Nat) (rs:RS) (R:Own):Prop:=∃ v E,AccF 5 v rs.args.length (rs.args.flatMap arE) E∧St h0 [] h (E++((i,true,rdO rs v)::R))
theorem WSt.call {h':ae}{rs:RS}{R:Own}(r:WSt h0 h i rs R) (f:Fr [] h h'):WSt h0 h' i rs R:=by
 obtain⟨v,E,a,s⟩:=r
 exact⟨v,E,a,s.call f⟩
theorem WSt.rest {rs:RS}{R:Own}(r:WSt h0 h i rs R):St h0 [] h R:=by
 obtain⟨v,E,a,s⟩:=r
 exact (a.rest s).drop1
theorem WSt.put {rs rs':RS}{R:Own}(r:WSt h0 h i rs R) {o:Nat}{u:AV}{K:ae→Prop}(hu:u.isTup=false) (hc:u.cells.length=1) (h1:u.cells.all AV.one=true) (ho:o+1≤6) (ha:rs'.args=rs.args)
  (he:∀ v,splice [I 1,T rs.lab,I (rs.kind:Nat),I (rs.op:Nat),T rs.text,v] o u.cells=[I 1,T rs'.lab,I (rs'.kind:Nat),I (rs'.op:Nat),T rs'.text,v]) (k:∀ h',WSt h0 h' i rs' R→K h'):an 1 (.ptr i o) u h K:=by
 obtain⟨v,E,a,s⟩:=r
 refine ay s (L':=E++((i,true,rdO rs' v)::R)) (cs:=[I 1,T rs.lab,I (rs.kind:Nat),I (rs.op:Nat),T rs.text,v]) (by rw[he];exact Sub.pre .head E) hu hc h1 ho fun h' s'=>?_
 exact k h' ⟨v,E,by rw[ha];exact a,s'⟩
theorem WSt.load {rs:RS}{R:Own}(r:WSt h0 h i rs R) {o:Nat}{a:AV}{K:AV→Prop}(ho:∀ v,[I 1,T rs.lab,I (rs.kind:Nat),I (rs.op:Nat),T rs.text,v][o]?=some a) (k:K a):ag (.ptr i o) h K:=by
 obtain⟨v,E,a,s⟩:=r
 exact af s (List.mem_append_right _ (.head _)) (ho v) k
theorem AccF.more {rs:RS}{R E:Own}{v x:AV}{m:Nat}{az:List Ar}(a:AccF 5 v rs.args.length (rs.args.flatMap arE) E) (s:St h0 [] h (E++((i,true,rdO rs v)::R))) (hx:Rd h 5 x m (az.flatMap arE)) (hm:az.length=m) (hn:rs.args.length+m≤1000)
  {K:ae→Prop} (k:∀ h',WSt h0 h' i { rs with args:=rs.args++az } R→K h'):bl 5 64 v x h fun t h'=>ab 5 (.ptr i 0) fun p=>an 1 p t h' K:=by
 refine a.app s hx (R9 _) (by omega) fun v2 E2 h2 a2 s2=>?_
 refine aj (ay (cs:=[I 1,T rs.lab,I (rs.kind:Nat),I (rs.op:Nat),T rs.text,v]) (L':=E2++((i,true,rdO { rs with args:=rs.args++az } v2)::R)) s2 ?_ ?_ ?_ ?_ (nle rfl) fun h3 s3=>?_)
 ·rw[a2.one.2.2];exact Sub.pre .head E2
 ·exact a2.one.2.1
 ·rw[a2.one.2.2];rfl
 ·rw[a2.one.2.2];simp[a2.one.1]
 ·refine k h3 ⟨v2,E2,?_,s3⟩
  have:rs.args.length+m=(rs.args++az).length:=by simp[hm]
  rw[this,← List.flatMap_append]at a2
  exact a2
def WSg (h0 h:ae) (i:Nat) (rs:RS) (R:Own):Prop:=∃ v E,(AccF 5 v rs.args.length (rs.args.flatMap arE) E∨(v=.snap rs.args.length (rs.args.flatMap arE)∧E=[]))∧St h0 [] h (E++((i,true,rdO rs v)::R))
theorem WSt.g {rs:RS}{R:Own}(r:WSt h0 h i rs R):WSg h0 h i rs R:=by
 obtain⟨v,E,a,s⟩:=r
 exact⟨v,E,.inl a,s⟩
theorem WSg.rest {rs:RS}{R:Own}(r:WSg h0 h i rs R):St h0 [] h R:=by
 obtain⟨v,E,a,s⟩:=r
 exact (s.sub (List.sublist_append_right _ _)).drop1
theorem WSg.put {rs rs':RS}{R:Own}(r:WSg h0 h i rs R) {o:Nat}{u:AV}{K:ae→Prop}(hu:u.isTup=false) (hc:u.cells.length=1) (h1:u.cells.all AV.one=true) (ho:o+1≤6) (ha:rs'.args=rs.args)
  (he:∀ v,splice [I 1,T rs.lab,I (rs.kind:Nat),I (rs.op:Nat),T rs.text,v] o u.cells=[I 1,T rs'.lab,I (rs'.kind:Nat),I (rs'.op:Nat),T rs'.text,v]) (k:∀ h',WSg h0 h' i rs' R→K h'):an 1 (.ptr i o) u h K:=by
 obtain⟨v,E,a,s⟩:=r
 refine ay s (L':=E++((i,true,rdO rs' v)::R)) (cs:=[I 1,T rs.lab,I (rs.kind:Nat),I (rs.op:Nat),T rs.text,v]) (by rw[he];exact Sub.pre .head E) hu hc h1 ho fun h' s'=>?_
 exact k h' ⟨v,E,by rw[ha];exact a,s'⟩
theorem WSg.load {rs:RS}{R:Own}(r:WSg h0 h i rs R) {o:Nat}{a:AV}{K:AV→Prop}(ho:∀ v,[I 1,T rs.lab,I (rs.kind:Nat),I (rs.op:Nat),T rs.text,v][o]?=some a) (k:K a):ag (.ptr i o) h K:=by
 obtain⟨v,E,a,s⟩:=r
 exact af s (List.mem_append_right _ (.head _)) (ho v) k
theorem WSg.told {rs:RS}{j2:Nat}{zs:List AV}{R:Own}(r:WSg h0 h i rs ((j2,true,.cells zs)::R)) (hz:zs.length=6) (k:∀ h',Fr [] h0 h'→Q (.agg (smE 1 rs)) h'):
  aq 6 (.ptr i 0) h fun t=>an 6 (.ptr j2 0) t h fun h2=>aq 6 (.ptr j2 0) h2 fun r=>∃ r2 h3,Conv r h2 r2 h3∧Q r2 h3:=by
 obtain⟨v,E,a,s⟩:=r
 refine aL s (List.mem_append_right _ (.head _)) (nle rfl) ?_
 simp only[List.drop_zero]
 rw[List.take_of_length_le (by simp)]
 refine ay (cs:=zs) (o:=0) (L':=E++((i,true,rdO rs v)::(j2,true,rdO rs v)::R)) s (Sub.pre (.tail ?_) E) rfl rfl (by rcases a with ⟨_,⟨rfl,_⟩|⟨j,rfl,_⟩⟩|⟨rfl,_⟩<;>rfl) (by rw[hz];decide) fun h2 s2=>?_
 ·have:splice zs 0 (AV.agg [I 1,T rs.lab,I (rs.kind:Nat),I (rs.op:Nat),T rs.text,v]).cells=[I 1,T rs.lab,I (rs.kind:Nat),I (rs.op:Nat),T rs.text,v]:=by
   show splice zs 0 [_,_,_,_,_,_]=_
   simp[splice,hz]
  rw[this];exact .head
 refine aL s2 (List.mem_append_right _ (.tail _ (.head _))) (nle rfl) ?_
 simp only[List.drop_zero]
 rw[List.take_of_length_le (by simp)]
 rcases a with ⟨a1,⟨rfl,rfl⟩|⟨j,rfl,rfl⟩⟩|⟨rfl,rfl⟩
 ·refine⟨_,_,.wk (Wk.agg (.cons (.refl _) (.cons (.refl _) (.cons (.refl _) (.cons (.refl _) (.cons (.refl _) (.cons (.full _ _) .nil))))))) (.refl _ _),?_⟩
  exact k _ s2.fr
 ·refine⟨_,_,.frz j (rs.args.flatMap arE) (s2.get (.head _)) (.refl _ _),?_⟩
  have:=k _ (s2.kill .head).fr
  have e:fz j (rs.args.flatMap arE) (.agg [I 1,T rs.lab,I (rs.kind:Nat),I (rs.op:Nat),T rs.text,.sl j 0 rs.args.length 5])=.agg (smE 1 rs):=by
   simp[fz,fzL,smE,a1,List.take_of_length_le]
  rw[e];exact this
 ·exact⟨_,_,.refl _ _,k _ s2.fr⟩
theorem WSt.putA {rs:RS}{R:Own}(r:WSt h0 h i rs R) {az:List Ar}{n:Nat}{cs:List AV}(hn:az.length=n) (hc:cs=az.flatMap arE) {K:ae→Prop}(k:∀ h',WSt h0 h' i { rs with args:=az } R→K h'):an 1 (.ptr i 5) (.full n cs) h K:=by
 subst hn;subst hc
 obtain⟨v,E,a,s⟩:=r
 refine ay (cs:=[I 1,T rs.lab,I (rs.kind:Nat),I (rs.op:Nat),T rs.text,v]) (L':=E++((i,true,rdO { rs with args:=az } (.full az.length (az.flatMap arE)))::R)) s (Sub.pre .head E) rfl rfl rfl (nle rfl) fun h3 s3=>?_
 exact k h3 ⟨_,[],⟨gz arE 5 bR az,.inl ⟨rfl,rfl⟩⟩,s3.sub (List.sublist_append_right _ _)⟩
end
end
section
abbrev Oe (k:Str):Prop:=k=[88]∨k=[89]∨k=[68]∨k=[65]∨k=[66]
section
variable [Tabs]
variable {h h0:ae}{Q:QT}{K:AV→Prop}{i:Nat}
abbrev MS (x:Int):Prop:=-4294967295≤x∧x≤4294967295
theorem AU (l:List Int) (hP:∀ x∈l,MS x) {n:Nat}(hn:l.length=n) {j:Int}(hj:0≤j∧j<n) (k:∀ x,MS x→K (I x)):ak 1 (.full n (l.map I)) (I j) fun p=>ag p h K:=xC l hP hn hj k
theorem ZC {kind:Str}{b:Bool}{m n:Int}(hn:¬ Oe kind) (hm:0≤m∧m<(9:Nat)) (hi:inI n) (q:∀ x,MS x→Q (I x) h):kE (B b) (T kind) (I m) (I n) h Q:=by
 unfold kE
 refine ah (fun _=>?_) (fun _=>?_)
 ·refine eX (by decide) (by decide) hi ?_
  have:=cX (a:=n) (n:=4) (by decide)
  exact q _ (by omega)
 refine aV (ah (fun _=>?_) (fun _=>?_))
 ·refine eX (by decide) (by decide) hi ?_
  have:=cX (a:=n) (n:=256) (by decide)
  refine cw (by omega) (uH (by omega) ?_)
  exact q _ (by omega)
 refine aV (ah (fun _=>?_) (fun _=>?_))
 ·refine aB rfl rfl ?_
  exact AU [0,32767,-32768,-1,1,255,-256,4660,-4660] (by decide) rfl hm q
 refine aV (ah (fun _=>?_) (fun _=>?_))
 ·refine eX (by decide) (by decide) hi ?_
  have:=cX (a:=n) (n:=1048576) (by decide)
  refine cw (by omega) ?_
  exact q _ (by omega)
 refine aV (ah (fun _=>?_) (fun _=>?_))
 ·refine eX (by decide) (by decide) hi ?_
  have:=cX (a:=n) (n:=32768) (by decide)
  refine cw (by omega) (uH (by omega) ?_)
  exact q _ (by omega)
 refine aV (ah (fun _=>?_) (fun _=>?_))
 ·refine eX (by decide) (by decide) hi ?_
  have:=cX (a:=n) (n:=16777216) (by decide)
  refine cw (by omega) (uH (by omega) ?_)
  exact q _ (by omega)
 refine aB rfl rfl ?_
 exact AU [0,255,256,65280,-1,-2,16711680,-256,2130706432] (by decide) rfl hm q
theorem ZE {kind:Str}{b:Bool}{m n:Int}(hn:¬ Oe kind) (hm:0≤m∧m<(9:Nat)) (hi:inI n) (q:∀ x,MS x→Q (I x) h):kI (B b) (T kind) (I m) (I n) h Q:=by
 unfold kI
 refine ah (fun _=>?_) (fun _=>?_)
 ·refine aB rfl rfl ?_
  exact AU [0,15,1,7,8,4,12,3,14] (by decide) rfl hm q
 refine aV (ah (fun _=>?_) (fun _=>?_))
 ·refine aB rfl rfl ?_
  exact xC [0,15,1,7,8,4,12,3,14] (P:=fun x=>0≤x∧x≤15) (by decide) rfl hm fun x hx=>uH (by omega) (q _ (by omega))
 refine aV (ah (fun _=>?_) (fun _=>?_))
 ·refine aB rfl rfl ?_
  exact xC [0,15,1,7,8,4,12,3,14] (P:=fun x=>0≤x∧x≤15) (by decide) rfl hm fun x hx=>uH (by omega) (q _ (by omega))
 refine aV (ah (fun _=>?_) (fun _=>?_))
 ·refine eX (by decide) (by decide) hi ?_
  have:=cX (a:=n) (n:=2) (by decide)
  exact q _ (by omega)
 refine aV (ah (fun _=>?_) (fun _=>?_))
 ·exact ZC hn hm hi q
 ·exact aV (ZC hn hm hi q)
theorem RF {kind:Str}{b:Bool}{m n:Int}(hn:b=false→¬ Oe kind) (hm:0≤m∧m<(9:Nat)) (hi:inI n) (q:∀ x,MS x→(Oe kind→0≤x∧x≤31)→Q (I x) h):fq (B b) (T kind) (I m) (I n) h Q:=by
 unfold fq
 refine ah (fun _=>?_) (fun hb=>?_)
 ·refine aB rfl rfl ?_
  exact xC [0,31,1,15,16,7,30,12,3] (P:=fun x=>0≤x∧x≤31) (by decide) rfl hm fun x hx=>q _ (by omega) fun _=>hx
 have hn:=hn hb
 have q:∀ x,MS x→Q (I x) h:=fun x hx=>q x hx fun h=>absurd h hn
 refine aV (ah (fun _=>?_) (fun _=>?_))
 ·refine aB rfl rfl ?_
  exact AU [0,127,64,1,63,100,7,15,16] (by decide) rfl hm q
 refine aV (ah (fun _=>?_) (fun _=>?_))
 ·refine aB rfl rfl ?_
  exact AU [1,32,2,16,31,17,8,5,30] (by decide) rfl hm q
 refine aV (ah (fun _=>?_) (fun _=>?_))
 ·exact ZE hn hm hi q
 ·exact aV (ZE hn hm hi q)
theorem Qv {kind:Str}{b:Bool}{m n:Int}(hn:b=false→kind≠[88]∧kind≠[89]) (hm:0≤m∧m<(9:Nat)) (hi:inI n) (q:∀ x,MS x→(Oe kind→0≤x∧x≤31)→Q (I x) h):jt (B b) (T kind) (I m) (I n) h Q:=by
 unfold jt
 refine ah (fun _=>?_) (fun hb=>?_)
 ·refine aB rfl rfl ?_
  exact xC [0,1,7,24,31,5,28,3,30] (P:=fun x=>0≤x∧x≤31) (by decide) rfl hm fun x hx=>q _ (by omega) fun _=>hx
 obtain⟨h1,h2⟩:=hn hb
 refine aV (ah (fun hb=>?_) (fun h3=>?_))
 ·rw[hb];exact RF (fun h=>by cases h) hm hi q
 refine aV (ah (fun hb=>?_) (fun h4=>?_))
 ·rw[hb];exact RF (fun h=>by cases h) hm hi q
 refine aV (ah (fun hb=>?_) (fun h5=>?_))
 ·rw[hb];exact RF (fun h=>by cases h) hm hi q
 refine aV (RF (fun _=>?_) hm hi q)
 rintro (h|h|h|h|h)
 ·exact h1 h
 ·exact h2 h
 ·exact of_decide_eq_false h3 h
 ·exact of_decide_eq_false h4 h
 ·exact of_decide_eq_false h5 h
theorem Gi {kind:Str}{n:Int}(hi:inI n) (q:∀ x,MS x→(Oe kind→0≤x∧x≤31)→Q (I x) h):C kJ [T kind,I n] h Q:=by
 refine DB _ _ _ _ ?_
 unfold Bv
 refine eX (by decide) (by decide) hi ?_
 have hm:=cX (a:=n) (n:=9) (by decide)
 refine aV (ah (fun hb=>?_) (fun hb=>?_))
 ·rw[hb];exact Qv (fun h=>by cases h) hm hi q
 ·refine aV ?_
  cases h2:decide (kind=[89]) with
  | true=>exact Qv (fun h=>by cases h) hm hi q
  | false=>exact Qv (fun _=>⟨of_decide_eq_false hb,of_decide_eq_false h2⟩) hm hi q
abbrev rwO (r:RW):AObj:=.cells [I r.K,I r.A,I r.B,.snap r.ns.length (r.ns.flatMap fun n=>[I n]),.snap r.E.length (xrL r.E),.lit (.bool r.L)]
theorem Rp {r:RW}{j:Nat}(ho:okW r) (hj:j<1000) (q:∀ x h',inI x→Fr [] h h'→Q (I x) h'):C gZ [.agg (rwE r),I (j:Nat)] h Q:=by
 refine zz _ _ _ _ ?_
 unfold va
 refine bW (St.start h) rfl fun j1 h1 s1=>?_
 have s1:St h [] h1 [(j1,true,rwO r)]:=s1
 refine aj (af s1 (.head _) (a:=.snap r.ns.length (r.ns.flatMap fun n=>[I n])) rfl (cE ?_))
 refine aJ (ah (fun hb=>?_) (fun hb=>?_))
 ·have hj:j<r.ns.length:=by have:=of_decide_eq_true hb;omega
  refine aj (af s1 (.head _) (a:=.snap r.ns.length (r.ns.flatMap fun n=>[I n])) rfl ?_)
  have R:Row (fun n:Int=>[I n]) 1 h1 (.snap r.ns.length (r.ns.flatMap fun n=>[I n])) r.ns:=Row.snap (enc:=fun n:Int=>[I n]) (sz:=1) (fun _=>rfl) _
  refine R.idx (fun _=>rfl) hj fun p t=>?_
  refine aH t ?_
  exact q _ _ (ho.2.2.2.1 _ (List.getElem_mem hj)) s1.fr
 ·refine aj (af s1 (.head _) (a:=I r.A) rfl (D3 ?_))
  exact q _ _ (OC _) s1.fr
def labels4:List Str:=[[97],[98,49],[108,111,111,112],[120]]
abbrev a0:List AV:=[I 0,I 0,I 0,S ⟨#[]⟩,.full 0 []]
theorem SI:∀ r∈tbl,∀ k∈cK r.kinds,k≠[]:=by decide
theorem Tn:∀ r∈tbl,∀ k∈cK r.kinds,Ia (ln k)=true→Oe k:=by decide
theorem xu (q:Q (.full 4 (labels4.map T)) h):C gw [] h Q:=by
 refine F8 _ _ ?_
 unfold C1
 exact aB rfl rfl q
theorem Wl {r:RW}{kind:Str}{n:Int}(ho:okW r) (hf:Hh r) (hi:inI n) (hne:kind≠[]) (hrk:Ia (ln kind)=true→Oe kind) (hR:∀ (h:ae) (Q:QT),Q (B (Ia (ln kind))) h→C jB [T kind] h Q)
  (q:∀ a h',okA a→Fr [] h h'→Q (.agg (arE a)) h'):C mf [.agg (rwE r),T kind,I n] h Q:=by
 refine A4 _ _ _ _ _ ?_
 unfold wL
 refine bW (St.start h) rfl fun j1 h1 s1=>?_
 have s1:St h [] h1 [(j1,true,rwO r)]:=s1
 refine aQ s1 fun j6 h2 s2=>?_
 refine CF _ _ _ ?_
 unfold yf
 refine hR _ _ (ah (fun hb=>?_) (fun hb=>?_))
 ·refine Gi hi fun x hx hr=>?_
  have hx:=hr (hrk hb)
  refine aD rfl ?_
  refine ay (o:=0) s2 (L':=[(j6,true,.cells (arE ⟨x,.none⟩)),(j1,true,rwO r)]) .head rfl rfl rfl (nle rfl) fun h3 s3=>?_
  refine aL s3 (.head _) (nle rfl) ?_
  exact q ⟨x,.none⟩ _ (.inl hx) s3.fr
 ·refine aD rfl ?_
  refine aQ s2 fun j7 h3 s3=>?_
  refine ay (o:=0) s3 (L':=[(j7,true,.cells (arE ⟨-1,.none⟩)),(j6,true,.cells a0),(j1,true,rwO r)]) .head rfl rfl rfl (nle rfl) fun h4 s4=>?_
  have fin:∀ (e:Ex) (h5:ae),okX e→bn e≤60→St h [] h5 [(j7,true,.cells (arE ⟨-1,.none⟩)),(j6,true,.cells a0),(j1,true,rwO r)]→
    ab 1 (.ptr j7 0) fun p=>an 4 p (.agg (bq e)) h5 fun h6=>eS (.ptr j7 0) (.ptr j6 0) h6 Q:=fun e h5 he hs s5=>by
   refine aj (ay (o:=1) (cs:=arE ⟨-1,.none⟩) (L':=[(j7,true,.cells (arE ⟨-1,e⟩)),(j6,true,.cells a0),(j1,true,rwO r)]) s5 ?_ rfl (au e) (aX e) (nle rfl) fun h6 s6=>?_)
   ·have:splice (arE ⟨-1,.none⟩) 1 (AV.agg (bq e)).cells=arE ⟨-1,e⟩:=by
     obtain⟨a,b,c,d,hx⟩:=YV (au e)
     show splice (arE ⟨-1,.none⟩) 1 (bq e)=I (-1)::bq e
     rw[hx];rfl
    rw[this];exact .head
   unfold eS pQ
   refine aL s6 (.head _) (by rw[bR];exact Nat.le_refl 5) ?_
   rw[List.drop_zero,List.take_of_length_le (by rw[bR];exact Nat.le_refl 5)]
   refine ay (o:=0) (cs:=a0) (L':=[(j7,true,.cells (arE ⟨-1,e⟩)),(j6,true,.cells (arE ⟨-1,e⟩)),(j1,true,rwO r)]) s6 (.tail ?_) rfl (bR _) (Aj _) (nle rfl) fun h7 s7=>?_
   ·have:splice a0 0 (AV.agg (arE ⟨-1,e⟩)).cells=arE ⟨-1,e⟩:=by
     have:=bR ⟨-1,e⟩
     show splice _ 0 (arE _)=_
     simp[splice,this]
    rw[this];exact .head
   refine aL s7 (.tail _ (.head _)) (by rw[bR];exact Nat.le_refl 5) ?_
   rw[List.drop_zero,List.take_of_length_le (by rw[bR];exact Nat.le_refl 5)]
   exact q _ _ (.inr ⟨rfl,he,hs⟩) s7.fr
  refine bp (by decide) (by decide) hi ?_
  have c1:∀ h5,St h [] h5 [(j7,true,.cells (arE ⟨-1,.none⟩)),(j6,true,.cells a0),(j1,true,rwO r)]→io (T kind) h5 (I n) (.ptr j7 0) (.ptr j6 0) Q:=fun h5 s5=>by
   unfold io
   have hl:0<kind.length:=List.length_pos_iff.2 hne
   refine bP (i:=0) hl (aA (ah (fun _=>?_) (fun _=>?_)))
   ·refine xu ?_
    refine bp (by decide) (by decide) hi ?_
    refine xD labels4 (P:=fun x=>x.length≤5) (by decide) rfl (cX (by decide)) fun x hx=>?_
    refine aD rfl ?_
    exact fin (.name x) _ (by show x.length≤12;omega) (by simp[bn]) s5
   ·refine Gi hi fun x hx hr=>?_
    refine Ka hx fun s h6 hl6 ⟨e,he,hok,hsz⟩ f6=>?_
    have s6:=s5.call f6
    refine Lx s (by omega) (fun e' he' h7 f7=>?_) (fun h0=>by rw[he]at h0;cases h0)
    rw[he]at he'
    cases he'
    refine aE rfl (aE rfl ?_)
    exact fin e _ hok (by omega) (s6.call f7)
  refine aA (ah (fun _=>?_) (fun _=>c1 _ s4))
  refine aj (af s4 (.tail _ (.tail _ (.head _))) (a:=.snap r.E.length (xrL r.E)) rfl (cE ?_))
  refine bx (ah (fun _=>?_) (fun _=>c1 _ s4))
  refine aj (af s4 (.tail _ (.tail _ (.head _))) (a:=.snap r.E.length (xrL r.E)) rfl ?_)
  refine Kc ho.2.2.2.2.2.2 (Tk _) fun e h5 he hs f5=>?_
  exact fin e _ he (by have:=hf.1;omega) (s4.call f5)
end
end
end
end Go.Proofs.YtbhphjpgjgigpaaGreatDoor.AL
