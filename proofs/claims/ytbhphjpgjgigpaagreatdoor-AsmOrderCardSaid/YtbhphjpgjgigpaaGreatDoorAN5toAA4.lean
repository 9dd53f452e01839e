import Derived.Test.YtbhphjpgjgigpaaGreatDoorAE5toAN4
import Derived.MapKept
set_option linter.all false
set_option autoImplicit true
set_option relaxedAutoImplicit true
set_option maxRecDepth 100000
namespace Go.Proofs.YtbhphjpgjgigpaaGreatDoor.AL
noncomputable section
section
variable [Tabs]
section
variable {h:ae}{Q:QT}
def zR (c:UInt8):Bool:=decide (c≠32)&&decide (c≠9)
theorem Tb:GA (.fn (.func nu) [] []) zR:=fun c h Q k=>by
 show ACall Pg nu [U8 c] h Q
 refine Hs _ _ _ ?_
 unfold Fe
 have e1:decide ((c.toNat:Int)≠32)=decide (c≠32):=by rw[Bool.eq_iff_iff];simp[← UInt8.toNat_inj];omega
 have e2:decide ((c.toNat:Int)≠9)=decide (c≠9):=by rw[Bool.eq_iff_iff];simp[← UInt8.toNat_inj];omega
 unfold zR at k
 refine cg ?_
 rw[e1]
 cases h1:decide (c≠32) with
 | true=>
   refine ah (fun _=>?_) (fun h=>by cases h)
   rw[h1,Bool.true_and]at k
   refine cg ?_
   rw[e2];exact k
 | false=>
   refine ah (fun h=>by cases h) (fun _=>?_)
   rw[h1,Bool.false_and]at k;exact k
def T1 (b:Str):Option (Str×Str):=
 if b[c6 fj b]?=some 58 then (if kN (b.take (c6 fj b))=true then some (b.take (c6 fj b),sT (b.drop (c6 fj b+1))) else none) else some ([],b)
def rs0 (lab:Str):RS:=⟨lab,0,0,[],[]⟩
def OJ (s:Str):Str:=s.take (c6 zR s)
def F0 (s:Str):Str:=sT (s.drop (c6 zR s))
def NJ (s:Str):Option (Option RS):=
 if 10∈s then none else
 match T1 (yd s) with
 | none=>none
 | some (lab,s')=>
   if s'=[] then (if lab=[] then some none else some (some (rs0 lab)))
   else if (vU (OJ s') (F0 s') (rs0 lab)).2=true then some (some (vU (OJ s') (F0 s') (rs0 lab)).1) else none
def smE (line:Nat) (rs:RS):List AV:=[I (line:Nat),T rs.lab,I (rs.kind:Nat),I (rs.op:Nat),T rs.text,.snap rs.args.length (rs.args.flatMap arE)]
abbrev zS:List AV:=[I 0,T [],I 0,I 0,T [],.full 0 []]
theorem MC (s:Str):(yd s).length≤s.length:=Nat.le_trans (p9 _) (OH _ _)
theorem TH (l:List Str) (ws:List Way) (rs:RS):(nM l ws rs).1.args.length≤rs.args.length+ws.length:=by
 have hg:∀ (ws:List Way) (l:List Str) (rs:RS),(goW ws l rs).1.args.length≤rs.args.length+ws.length:=by
  intro ws
  induction ws with
  | nil=>intro l rs;simp[goW]
  | cons w ws ih=>
    intro l rs
    cases l with
    | nil=>simp[goW]
    | cons s l=>
      have h1:=It w s rs
      unfold goW
      split
      ·have:=ih l (jH w s rs).1;simp;omega
      ·simp;omega
 unfold nM
 split
 ·exact hg ws l rs
 ·simp
theorem Nu (s:Str) (rs:RS):(y6 s rs).1.args=rs.args:=by unfold y6;split<;>rfl
theorem Qk (name rest:Str) (rs:RS) (h0:rs.args=[]):(vU name rest rs).1.args.length≤100:=by
 have ha:∀ (l:List Str) (ws:List Way) (rs':RS),rs'.args=[]→ws.length≤100→(nM l ws rs').1.args.length≤100:=fun l ws rs' h1 h2=>by
  have:=TH l ws rs';rw[h1]at this;simp at this;omega
 unfold vU
 split
 ·rename_i op hop
  refine ha _ _ _ h0 ?_
  have ho:=Cg hop
  have:=Cu tbl[op] (by simp)
  rw[← iR ho]at this
  simp;omega
 ·split
  ·refine ha _ _ _ h0 ?_
   have:=uy name growsL
   have h3:growsL.length=3:=rfl
   simp;omega
  ·split
   ·split
    ·exact ha _ _ _ h0 (by simp;omega)
    ·show rs.args.length≤100;rw[h0];simp
   ·split
    ·rw[Nu];show rs.args.length≤100;rw[h0];simp
    ·split
     ·exact ha _ _ _ h0 (by simp)
     ·split
      ·exact ha _ _ _ h0 (by simp)
      ·rw[h0];simp
theorem QV (hF:cD) (hI:g6) (hA:jT) (s:Str) (hs:s.length<2000000000)
  (k0:NJ s=none→∀ h',Fr [] h h'→Q (.tup [.agg zS,B false]) h') (k1:NJ s=some none→∀ h',Fr [] h h'→Q (.tup [.agg zS,B true]) h') (k2:∀ rs,NJ s=some (some rs)→∀ h',Fr [] h h'→Q (.tup [.agg (smE 1 rs),B true]) h'):C w4 [T s] h Q:=by
 refine ACall.conv ?_
 refine MI _ _ _ ?_
 unfold OP
 refine aQ (St.start h) fun q h1 s1=>?_
 refine Ki s 10 ?_
 have emem:decide (0≤Lib.indexByte s 10)=decide (10∈s):=by rw[Bool.eq_iff_iff,decide_eq_true_eq,decide_eq_true_eq];exact HZ s 10
 refine bL ?_
 rw[emem]
 unfold NJ at k0 k1 k2
 refine ah (fun h10=>?_) (fun h10=>?_)<;>simp only[za,zb,zc,zd,ze,zf,zg,zh,zi,u8i,zj,zk,zl]at h10
 ·rw[if_pos h10]at k0
  (repeat (first|refine aL ‹_› (.head _) (nle rfl) ?_|refine aD rfl ?_|refine ay ‹_› .head rfl rfl rfl (nle rfl) fun _ _=>?_))
  exact BE (k0 rfl _ (by assumption:St h [] _ _).fr)
 rw[if_neg h10]at k0 k1 k2
 refine X7 s (by omega) fun h2 f2=>?_
 have s2:=s1.call f2
 have hbl:=MC s
 generalize yd s=b at k0 k1 k2 hbl ⊢
 (repeat refine aD rfl ?_)
 refine YO s2 rfl fun i h3 s3 r3=>?_
 have r3:St h2 [] h3 [(i,true,rdO (rs0 []) (.full 0 []))]:=r3
 have s3:St h [] h3 [(i,true,rdO (rs0 []) (.full 0 [])),(q,true,.cells zS)]:=s3
 have r0:RSt h2 h3 i (rs0 []):=⟨.full 0 [],[],.none 5,r3⟩
 refine tC WL b (by omega) ?_
 have tail:∀ (lab s':Str) (h5:ae),s'.length<3000000000→RSt h2 h5 i (rs0 lab)→T1 b=some (lab,s')→jh (T s') (.ptr i 0) (.ptr q 0) h5 (fun r h'=>∃ r2 h2,Conv r h' r2 h2∧Q r2 h2):=by
  intro lab s' h5 hs' r5 hlab
  rw[hlab]at k0 k1 k2
  simp only at k0 k1 k2
  obtain⟨v5,E5,a5,t5⟩:=r5
  have s5:St h [] h5 [(q,true,.cells zS)]:=s2.call t5.fr
  have r5:RSt h2 h5 i (rs0 lab):=⟨v5,E5,a5,t5⟩
  unfold jh
  (repeat refine aV ?_)
  refine ah (fun hb=>?_) (fun hb=>?_)<;>simp only[za,zb,zc,zd,ze,zf,zg,zh,zi,u8i,zj,zk,zl]at hb
  ·rw[if_pos hb]at k0 k1 k2
   (repeat (first|refine aw ?_|refine aj ?_))
   refine r5.load (a:=T lab) (fun v=>rfl) ?_
   (repeat refine aV ?_)
   refine ah (fun hlb=>?_) (fun hlb=>?_)<;>simp only[za,zb,zc,zd,ze,zf,zg,zh,zi,u8i,zj,zk,zl]at hlb
   ·rw[if_pos hlb]at k1
    (repeat refine aD rfl ?_)
    refine ay s5 .head rfl rfl rfl (nle rfl) fun h6 s6=>?_
    (repeat refine aL ‹_› (.head _) (nle rfl) ?_)
    exact BE (k1 rfl h6 s6.fr)
   ·rw[if_neg hlb]at k2
    (repeat (first|refine aw ?_|refine aj ?_))
    rcases a5 with ⟨_,_,rfl,rfl⟩|⟨hl,j,rfl,rfl⟩
    ·refine aL t5 (cs:=[I 1,T lab,I 0,I 0,T [],.full 0 []]) (b:=true) (.head _) (nle rfl) ?_
     skip
     refine ay s5 .head rfl rfl rfl (nle rfl) fun h6 s6=>?_
     (repeat refine aL ‹_› (.head _) (nle rfl) ?_)
     refine⟨_,_,.wk (Wk.tup (.cons (Wk.agg (.cons (.refl _) (.cons (.refl _) (.cons (.refl _) (.cons (.refl _) (.cons (.refl _) (.cons (.full _ _) .nil))))))) (.cons (.refl _) .nil))) (.refl _ _),?_⟩
     exact k2 (rs0 lab) rfl h6 s6.fr
    ·have s5:=s2.join t5 (by simp)
     refine aL t5 (cs:=[I 1,T lab,I 0,I 0,T [],.sl j 0 0 5]) (b:=true) (.tail _ (.head _)) (nle rfl) ?_
     skip
     refine ay (cs:=zS) s5 (.tail (.tail .head)) rfl rfl rfl (nle rfl) fun h6 s6=>?_
     have s6:St h [] h6 [(j,true,.cells []),(i,true,rdO (rs0 lab) (.sl j 0 0 5)),(q,true,.cells [I 1,T lab,I 0,I 0,T [],.sl j 0 0 5])]:=s6
     (repeat refine aL ‹_› (by first|exact .head _|exact .tail _ (.tail _ (.head _))) (nle rfl) ?_)
     refine⟨_,_,.frz j [] (s6.get (.head _)) (.refl _ _),?_⟩
     have:=k2 (rs0 lab) rfl _ (s6.kill .head).fr
     simpa [fz,fzL,smE,rs0] using this
  ·rw[if_neg hb]at k0 k1 k2
   refine tC Tb s' (by omega) ?_
   have hfl:=Il zR s'
   refine pk (by omega) (by omega) ?_
   refine gY (by omega) (by omega) ?_
   rw[Int.toNat_natCast]
   refine Ej _ (by simp;omega) fun h6 f6=>?_
   have r6:=r5.call f6
   have htl:=p9 (s'.drop (c6 zR s'))
   refine J4 hF hI hA (OJ s') (F0 s') (by unfold F0;simp at htl;omega) rfl r6 fun h7 r7=>?_
   have hargs:=Qk (OJ s') (F0 s') (rs0 lab) rfl
   generalize vU (OJ s') (F0 s') (rs0 lab)=res at k0 k1 k2 r7 hargs ⊢
   obtain⟨v7,E7,a7,t7⟩:=r7
   have s7:St h [] h7 [(q,true,.cells zS)]:=s2.call t7.fr
   refine bQ ?_
   refine ah (fun hr=>?_) (fun hr=>?_)
   ·simp only[Bool.not_eq_true']at hr
    rw[if_neg (by rw[hr];simp)]at k0
    (repeat refine aD rfl ?_)
    refine ay s7 .head rfl rfl rfl (nle rfl) fun h8 s8=>?_
    (repeat refine aL ‹_› (.head _) (nle rfl) ?_)
    exact BE (k0 rfl h8 s8.fr)
   ·simp only[Bool.not_eq_false']at hr
    rw[if_pos hr]at k2
    (repeat (first|refine aw ?_|refine aj ?_))
    refine af t7 (cs:=[I 1,T res.1.lab,I (res.1.kind:Nat),I (res.1.op:Nat),T res.1.text,v7]) (b:=true) (List.mem_append_right _ (.head _)) rfl ?_
    refine B4 (by omega) (a7.rd t7) fun h8 f8=>?_
    have t8:=(a7.rest t7).call f8
    (repeat (first|refine aw ?_|refine aj ?_))
    refine ay t8 (cs:=[I 1,T res.1.lab,I (res.1.kind:Nat),I (res.1.op:Nat),T res.1.text,v7]) .head rfl rfl rfl (nle rfl) fun h9 t9=>?_
    have t9:St h2 [] h9 [(i,true,.cells (smE 1 res.1))]:=t9
    have s9:St h [] h9 [(q,true,.cells zS)]:=s2.call t9.fr
    (repeat (first|refine aw ?_|refine aj ?_))
    refine aL t9 (.head _) (nle rfl) ?_
    skip
    refine ay s9 .head rfl rfl rfl (nle rfl) fun h10 s10=>?_
    (repeat refine aL ‹_› (.head _) (nle rfl) ?_)
    exact BE (k2 res.1 rfl h10 s10.fr)
 have hn:=Il fj b
 (repeat (first|refine bf ?_|refine aJ ?_))
 have nolab:b[c6 fj b]?≠some 58→jh (T b) (.ptr i 0) (.ptr q 0) h3 (fun r h'=>∃ r2 h2,Conv r h' r2 h2∧Q r2 h2):=fun hne=>tail [] b h3 (by omega) r0 (by unfold T1;rw[if_neg hne])
 refine ah (fun hlt=>?_) (fun hlt=>?_)<;>simp only[za,zb,zc,zd,ze,zf,zg,zh,zi,u8i,zj,zk,zl]at hlt
 ·have hlt:c6 fj b<b.length:=hlt
  refine bP hlt ?_
  refine aA ?_
  have e58:decide ((b[c6 fj b].toNat:Int)=58)=decide (b[c6 fj b]=58):=by rw[Bool.eq_iff_iff];simp[← UInt8.toNat_inj];omega
  rw[e58]
  refine ah (fun h58=>?_) (fun h58=>?_)<;>simp only[za,zb,zc,zd,ze,zf,zg,zh,zi,u8i,zj,zk,zl]at h58
  ·have hl58:b[c6 fj b]?=some 58:=by rw[List.getElem?_eq_getElem hlt,h58]
   have hlm:T1 b=if kN (b.take (c6 fj b))=true then some (b.take (c6 fj b),sT (b.drop (c6 fj b+1))) else none:=by unfold T1;rw[if_pos hl58]
   refine pk (by omega) (by omega) ?_
   rw[Int.toNat_natCast]
   refine Sw _ (by simp;omega) ?_
   refine bQ ?_
   refine ah (fun hw=>?_) (fun hw=>?_)
   ·simp only[Bool.not_eq_true']at hw
    rw[if_neg (by rw[hw];simp)]at hlm
    rw[hlm]at k0
    (repeat refine aD rfl ?_)
    refine ay s3 (.tail .head) rfl rfl rfl (nle rfl) fun h4 s4=>?_
    (repeat refine aL ‹_› (by first|exact .head _|exact .tail _ (.head _)) (nle rfl) ?_)
    exact BE (k0 rfl h4 s4.fr)
   ·simp only[Bool.not_eq_false']at hw
    rw[if_pos hw]at hlm
    refine pk (by omega) (by omega) ?_
    rw[Int.toNat_natCast]
    refine aI (by omega) ?_
    refine gY (by omega) (by omega) ?_
    rw[show ((c6 fj b:Int)+1).toNat=c6 fj b+1 by omega]
    refine Ej _ (by simp;omega) fun h4 f4=>?_
    have r4:=r0.call f4
    (repeat (first|refine aw ?_|refine aj ?_))
    refine r4.put (rs':=rs0 (b.take (c6 fj b))) rfl rfl rfl (by omega) rfl (fun v=>rfl) fun h5 r5=>?_
    have htl:=p9 (b.drop (c6 fj b+1))
    exact tail _ _ h5 (by simp at htl;omega) r5 hlm
  ·exact nolab (by rw[List.getElem?_eq_getElem hlt];simpa using h58)
 ·exact nolab (by rw[List.getElem?_eq_none (by omega)];simp)
end
end
section
variable [Tabs]
section
variable {h:ae}{Q:QT}
abbrev Sm:=Nat×RS
def smF (x:Sm):List AV:=smE x.1 x.2
def stm (x:Str) (i:Nat):List Sm:=match NJ x with
 | some (some rs)=>[(i+1,rs)]
 | _=>[]
def D0 (x:Str) (i:Nat):List Nat:=match NJ x with
 | none=>[i+1]
 | _=>[]
def yS {α:Type}(f:Str→Nat→List α) (ls:List Str) (n:Nat):List α:=(List.range n).flatMap fun i=>f ((ls[i]?).getD []) i
theorem Jw {α:Type}(f:Str→Nat→List α) (ls:List Str) {n:Nat}(h:n<ls.length):yS f ls (n+1)=yS f ls n++f ls[n] n:=by
 unfold yS
 rw[List.range_succ,List.flatMap_append]
 simp[h]
def og (s:Str):List Sm:=yS stm (bJ 10 s) (bJ 10 s).length
def sB (s:Str):List Nat:=yS D0 (bJ 10 s) (bJ 10 s).length
theorem xp {α:Type}(f:Str→Nat→List α) (hf:∀ x i,(f x i).length≤1) (ls:List Str):∀ n,(yS f ls n).length≤n
 | 0=>by simp[yS]
 | n+1=>by
   have ih:=xp f hf ls n
   unfold yS at ih ⊢
   rw[List.range_succ,List.flatMap_append,List.length_append]
   have:=hf ((ls[n]?).getD []) n
   simp only[List.flatMap_cons,List.flatMap_nil,List.append_nil];omega
theorem Sa (x:Str) (i:Nat):(stm x i).length≤1:=by unfold stm;split<;>simp
theorem Mf (x:Str) (i:Nat):(D0 x i).length≤1:=by unfold D0;split<;>simp
abbrev nE (n:Nat):List AV:=[I (n:Nat)]
theorem KY (hF:cD) (hI:g6) (hA:jT) (s:Str) (hs:s.length<1000000000) (k:∀ h',Fr [] h h'→Q (.tup [.snap (og s).length ((og s).flatMap smF),.snap (sB s).length ((sB s).flatMap nE)]) h'):C rR [T s] h Q:=by
 refine HM _ _ _ ?_
 unfold FY
 refine Vu hI 10 s (by omega) fun h1 f1=>?_
 have hsum:=je 10 s
 have hlen:=i5 10 s
 have hcnt:=List.count_le_length (a:=10) (l:=s)
 unfold og sB at k
 generalize bJ 10 s=ls at k hsum hlen ⊢
 have RL:∀ h,Row sE 1 h (.snap ls.length (ls.flatMap fun x=>[T x])) ls:=fun h=>Row.snap (enc:=sE) (fun _=>rfl) ls
 (repeat refine cE ?_)
 refine aP (fun n vs h'=>∃ (j:Nat) (v1 v2:AV) (E1 E2:Own),vs=[v1,v2,I (j:Nat)]∧n+j=ls.length∧AccE 6 v1 (yS stm ls j).length ((yS stm ls j).flatMap smF) E1∧AccE 1 v2 (yS D0 ls j).length ((yS D0 ls j).flatMap nE) E2∧St h [] h' (E1++(E2++[]))) ls.length ⟨0,.full 0 [],.full 0 [],[],[],rfl,by omega,.none 6,.none 1,(St.start h).call f1⟩ ?_
 rintro n vs h2 ⟨j,v1,v2,E1,E2,rfl,hn,a1,a2,s2⟩
 have hl1:=xp stm Sa ls j
 have hl2:=xp D0 Mf ls j
 unfold xk
 (repeat refine aJ ?_)
 refine ah (fun hb=>?_) (fun hb=>?_)<;>simp only[za,zb,zc,zd,ze,zf,zg,zh,zi,u8i,zj,zk,zl]at hb
 ·have hj:j<ls.length:=hb
  refine (RL h2).idx (fun _=>rfl) hj fun p t=>?_
  refine aH t ?_
  have e1:=Jw stm ls hj
  have e2:=Jw D0 ls hj
  have hx:=hsum _ (List.getElem_mem hj)
  refine QV hF hI hA ls[j] (by omega) (fun ho h3 f3=>?_) (fun ho h3 f3=>?_) (fun rs ho h3 f3=>?_)
  ·have s3:=s2.call f3
   rw[stm,ho,List.append_nil]at e1
   rw[D0,ho]at e2
   (repeat refine aE rfl ?_)
   refine aQ s3 fun q h4 s4=>?_
   refine ay s4 .head rfl rfl rfl (nle rfl) fun h5 s5=>?_
   have s5:=s5.drop1
   (repeat (first|refine bQ ?_|refine aI (by omega) ?_|refine aB rfl rfl ?_))
   refine a2.app s5.swap (xs:=nE (j+1)) (m:=1) (Rd.full rfl) rfl (by omega) fun v' E' h6 a6 s6=>?_
   unfold kz sb rH
   refine aI (by omega) ?_
   exact⟨n-1,by omega,j+1,v1,v',E1,E',rfl,by omega,by rw[e1];exact a1,by rw[e2];simpa using a6,s6.swap⟩
  ·have s3:=s2.call f3
   rw[stm,ho,List.append_nil]at e1
   rw[D0,ho,List.append_nil]at e2
   (repeat refine aE rfl ?_)
   refine aQ s3 fun q h4 s4=>?_
   refine ay s4 .head rfl rfl rfl (nle rfl) fun h5 s5=>?_
   (repeat (first|refine aj ?_|refine bQ ?_|refine bx ?_|refine aI (by omega) ?_|refine af ‹_› (.head _) rfl ?_))
   have s6:=s5.drop1
   exact⟨n-1,by omega,j+1,v1,v2,E1,E2,rfl,by omega,by rw[e1];exact a1,by rw[e2];exact a2,s6⟩
  ·have s3:=s2.call f3
   rw[stm,ho]at e1
   rw[D0,ho,List.append_nil]at e2
   (repeat refine aE rfl ?_)
   refine aQ s3 fun q h4 s4=>?_
   refine ay s4 .head rfl rfl rfl (nle rfl) fun h5 s5=>?_
   (repeat (first|refine aj ?_|refine bQ ?_|refine bx ?_|refine aI (by omega) ?_|refine af ‹_› (.head _) rfl ?_))
   refine ay s5 .head rfl rfl rfl (nle rfl) fun h6 s6=>?_
   (repeat (first|refine aL ‹_› (.head _) (nle rfl) ?_|refine aB rfl rfl ?_))
   have s7:=s6.drop1
   refine a1.app s7 (xs:=smF (j+1,rs)) (m:=1) (Rd.full rfl) rfl (by omega) fun v' E' h8 a8 s8=>?_
   unfold kz sb rH
   refine aI (by omega) ?_
   exact⟨n-1,by omega,j+1,v',v2,E',E2,rfl,by omega,by rw[e1];simpa using a8,by rw[e2];exact a2,s8⟩
 ·have hj:j=ls.length:=by omega
  subst hj
  refine Bn (by omega) (a1.rd s2) fun h3 f3=>?_
  have s3:=s2.call f3
  refine Ad (by omega) (a2.rd s3.swap) fun h4 f4=>?_
  exact k h4 (s3.call f4).fr
end
end
section
abbrev KV:=List (List UInt8×Int)
def bw (k:List UInt8):KV→Option Int
 | []=>none
 | (a,v)::r=>if k=a then some v else bw k r
def putA (k:List UInt8) (v:Int):KV→KV
 | []=>[(k,v)]
 | (a,w)::r=>if k=a then (k,v)::r else (a,w)::putA k v r
def bN (kv:KV):List (List UInt8):=kv.map (·.1)
theorem zI {k:List UInt8}:∀ {kv:KV},bw k kv=none↔k∉bN kv
 | []=>by simp[bw,bN]
 | (a,v)::r=>by
   unfold bw
   by_cases h:k=a
   ·subst h;simp[bN]
   ·rw[if_neg h,zI (kv:=r)];simp[bN,h]
theorem I8 {k:List UInt8}{v:Int}:∀ {kv:KV},(bN kv).Nodup→(bw k kv=some v↔(k,v)∈kv)
 | [],_=>by simp[bw]
 | (a,w)::r,nd=>by
   simp only[bN,List.map_cons,List.nodup_cons]at nd
   unfold bw
   by_cases h:k=a
   ·subst h
    rw[if_pos rfl]
    simp only[Option.some.injEq,List.mem_cons,Prod.mk.injEq,true_and]
    constructor
    ·intro h;exact .inl h.symm
    ·rintro (h|h)
     ·exact h.symm
     ·exact (nd.1 (List.mem_map.2 ⟨_,h,rfl⟩)).elim
   ·rw[if_neg h,I8 (kv:=r) nd.2];simp[h]
theorem zm (k:List UInt8) (v:Int):∀ kv:KV,(bw k kv=none∧putA k v kv=kv++[(k,v)])∨∃ A w B,kv=A++(k,w)::B∧bw k kv=some w∧k∉bN A∧putA k v kv=A++(k,v)::B
 | []=>.inl ⟨rfl,rfl⟩
 | (a,w)::r=>by
   by_cases h:k=a
   ·subst h
    exact .inr ⟨[],w,r,rfl,by simp[bw],by simp[bN],by simp[putA]⟩
   ·rcases zm k v r with ⟨h1,h2⟩|⟨A,w',B,rfl,h1,h2,h3⟩
    ·exact .inl ⟨by rw[bw,if_neg h,h1],by rw[putA,if_neg h,h2];rfl⟩
    ·exact .inr ⟨(a,w)::A,w',B,rfl,by rw[bw,if_neg h,h1],by simp[bN,h]at h2 ⊢;exact h2,by rw[putA,if_neg h,h3];rfl⟩
theorem PI (k:List UInt8) (v:Int) (kv:KV):bN (putA k v kv)=if k∈bN kv then bN kv else bN kv++[k]:=by
 rcases zm k v kv with ⟨h1,h2⟩|⟨A,w,B,rfl,h1,h2,h3⟩
 ·rw[zI]at h1;rw[if_neg h1,h2];simp[bN]
 ·rw[h3,if_pos (by simp[bN])];simp[bN]
theorem qm {k:List UInt8}{v:Int}{kv:KV}(nd:(bN kv).Nodup):(bN (putA k v kv)).Nodup:=by
 rw[PI]
 split
 ·exact nd
 ·rename_i h
  rw[List.nodup_append]
  exact⟨nd,by simp,fun a ha b hb e=>by simp at hb;subst hb;subst e;exact h ha⟩
theorem nc (k k':List UInt8) (v:Int):∀ kv:KV,bw k' (putA k v kv)=if k'=k then some v else bw k' kv
 | []=>by simp only[putA,bw]
 | (a,w)::r=>by
   unfold putA
   by_cases h:k=a
   ·subst h
    rw[if_pos rfl]
    by_cases h2:k'=k
    ·simp[bw,h2]
    ·simp[bw,h2]
   ·rw[if_neg h]
    by_cases h2:k'=a
    ·subst h2;simp[bw,Ne.symm h]
    ·simp[bw,h2,nc k k' v r]
def dG:Nat→KV→fF
 | _,[]=>[]
 | n,(k,v)::r=>(.string ⟨⟨k⟩⟩,n,I v)::dG (n+1) r
abbrev bC (kv:KV):AObj:=.amap (dG 0 kv) kv.length
theorem xB:∀ (n:Nat) (kv:KV),(dG n kv).length=kv.length
 | _,[]=>rfl
 | n,(k,v)::r=>by simp[dG,xB]
theorem Cf:∀ (n:Nat) (kv:KV) (j:Nat) (hj:j<kv.length),(dG n kv)[j]?=some (.string ⟨⟨kv[j].1⟩⟩,n+j,I kv[j].2)
 | n,[],j,hj=>by simp at hj
 | n,(k,v)::r,0,_=>by simp[dG]
 | n,(k,v)::r,j+1,hj=>by
   simp only[dG,List.getElem?_cons_succ]
   rw[Cf (n+1) r j (by simpa using hj)]
   simp;omega
theorem sJ:∀ (n:Nat) (kv:KV),(dG n kv).all (fun e=>kOk .string e.1)=true
 | _,[]=>rfl
 | n,(k,v)::r=>by rw[dG,List.all_cons,sJ (n+1) r];rfl
theorem I4:∀ (n:Nat) (kv:KV),(dG n kv).all (fun e=>e.1.oneCell')=true
 | _,[]=>rfl
 | n,(k,v)::r=>by rw[dG,List.all_cons,I4 (n+1) r];rfl
theorem tQ:∀ (n:Nat) (a b:KV),dG n (a++b)=dG n a++dG (n+a.length) b
 | n,[],b=>by simp[dG]
 | n,(k,v)::r,b=>by
   simp only[List.cons_append,dG,tQ (n+1) r b,List.length_cons]
   rw[show n+1+r.length=n+(r.length+1) by omega]
section
variable [Tabs]
theorem YY (a b:List UInt8):keq (.string ⟨⟨a⟩⟩) (.string ⟨⟨b⟩⟩)=decide (a=b):=by
 rw[Bool.eq_iff_iff,decide_eq_true_eq]
 constructor
 ·intro h
  have:=VG (d:=.string) (a:=.string ⟨⟨a⟩⟩) (b:=.string ⟨⟨b⟩⟩) rfl rfl h
  injection this with h;injection h with h;injection h
 ·rintro rfl
  obtain⟨r,h1,h2⟩:=Go.MapKept.sameNow_of_keys (a:=.string ⟨⟨a⟩⟩) (b:=.string ⟨⟨a⟩⟩) (d:=.string) (gp rfl) (gp rfl)
  rw[Gk rfl rfl]at h1
  cases h1
  exact h2.2 rfl
theorem n6 (k:List UInt8):∀ (n i:Nat) (kv:KV),(lq (.string ⟨⟨k⟩⟩) (dG n kv) i=none∧bw k kv=none)∨∃ j,∃ hj:j<kv.length,lq (.string ⟨⟨k⟩⟩) (dG n kv) i=some (i+j,n+j,I kv[j].2)∧kv[j].1=k∧bw k kv=some kv[j].2∧∀ q (hq:q<j),(kv[q]'(by omega)).1≠k
 | n,i,[]=>.inl ⟨rfl,rfl⟩
 | n,i,(a,v)::r=>by
   unfold dG lq
   rw[YY]
   by_cases h:k=a
   ·subst h
    exact .inr ⟨0,by simp,by simp,rfl,by simp[bw],fun q hq=>by omega⟩
   ·rw[if_neg (by simpa using h)]
    rcases n6 k (n+1) (i+1) r with ⟨h1,h2⟩|⟨j,hj,h1,h2,h3,h4⟩
    ·exact .inl ⟨h1,by rw[bw,if_neg h,h2]⟩
    ·refine .inr ⟨j+1,by simpa using hj,?_,by simpa using h2,by rw[bw,if_neg h,h3];simp,fun q hq=>?_⟩
     ·rw[h1];simp;omega
     ·cases q with
      | zero=>simpa using Ne.symm h
      | succ q=>simpa using h4 q (by omega)
theorem Jf:∀ (n:Nat) (kv:KV) (j:Nat) (k:List UInt8) (v:Int),j<kv.length→(dG n kv).set j (.string ⟨⟨k⟩⟩,n+j,I v)=dG n (kv.set j (k,v))
 | n,[],j,k,v,h=>by simp at h
 | n,(a,w)::r,0,k,v,h=>by simp[dG]
 | n,(a,w)::r,j+1,k,v,h=>by
   simp only[dG,List.set_cons_succ]
   rw[← Jf (n+1) r j k v (by simpa using h)]
   rw[show n+1+j=n+(j+1) by omega]
theorem Nl (k:List UInt8) (v:Int):∀ (kv:KV) (j:Nat) (hj:j<kv.length),kv[j].1=k→(∀ q (hq:q<j),(kv[q]'(by omega)).1≠k)→putA k v kv=kv.set j (k,v)
 | [],j,hj,_,_=>by simp at hj
 | (a,w)::r,0,hj,h1,_=>by
   simp at h1;subst h1;simp[putA]
 | (a,w)::r,j+1,hj,h1,h2=>by
   have ha:k≠a:=fun e=>h2 0 (by omega) (by simpa using e.symm)
   rw[putA,if_neg ha,List.set_cons_succ,Nl k v r j (by simpa using hj) (by simpa using h1) fun q hq=>by simpa using h2 (q+1) (by omega)]
theorem JB {k:List UInt8}{v:Int}{kv:KV}(h:bw k kv=none):putA k v kv=kv++[(k,v)]:=by
 rcases zm k v kv with ⟨_,h2⟩|⟨A,w,B,_,h1,_,_⟩
 ·exact h2
 ·rw[h]at h1;cases h1
theorem US (k:List UInt8) (v:Int) (kv:KV):MT (.string ⟨⟨k⟩⟩) (I v) kv.length (dG 0 kv)=bC (putA k v kv):=by
 unfold MT
 rcases n6 k 0 0 kv with ⟨h1,h2⟩|⟨j,hj,h1,h2,h3,h4⟩
 ·rw[h1,JB h2]
  simp[tQ,dG]
 ·rw[h1,Nl k v kv j hj h2 h4]
  simp only[Nat.zero_add]
  have:=Jf 0 kv j k v hj
  rw[Nat.zero_add]at this
  rw[this];simp
end
section
variable [Tabs]
variable {h0 h:ae}{M:List Nat}{L L':Own}{K:AV→Prop}{KH:QT}{KS:ae→Prop}
theorem Uz {j:Nat}{kv:KV}{k:Str}(e:h[j]?=some (bC kv)) (q:K (.tup [I ((bw k kv).getD 0),B (bw k kv).isSome])):jo .string true (I 0) (.map j) (T k) h K:=⟨by
 simp only[jC,e]
 rw[if_pos (by rw[sJ];rfl)]
 rcases n6 k 0 0 kv with ⟨h1,h2⟩|⟨j,hj,h1,h2,h3,h4⟩
 ·rw[h1];rw[h2]at q;exact q
 ·rw[h1];rw[h3]at q;exact q⟩
theorem Qj {j:Nat}{kv:KV}{k:Str}(e:h[j]?=some (bC kv)) (q:K (I ((bw k kv).getD 0))):jo .string false (I 0) (.map j) (T k) h K:=⟨by
 simp only[jC,e]
 rw[if_pos (by rw[sJ];rfl)]
 rcases n6 k 0 0 kv with ⟨h1,h2⟩|⟨j,hj,h1,h2,h3,h4⟩
 ·rw[h1];rw[h2]at q;exact q
 ·rw[h1];rw[h3]at q;exact q⟩
theorem tq {j:Nat}{kv:KV}{k:Str}{v:Int}(s:St h0 M h L) (u:Sub L (j,true,bC kv) L' (j,true,bC (putA k v kv))) (q:∀ h',St h0 M h' L'→KS h'):ep .string (.map j) (T k) (I v) h KS:=⟨by
 simp only[g7,s.get u.mem]
 rw[if_pos (by rw[sJ];rfl),US]
 exact q _ (s.turn u)⟩
theorem UH {j:Nat}{kv:KV}{k:Str}{v:Int}(s:St h0 M h L) (hn:bw k kv=none) (u:Sub L (j,true,bC kv) L' (j,true,bC (putA k v kv))) (q:∀ h',St h0 M h' L'→KS h'):
  pG .string (I 0) (.map j) (T k) h fun t131 h18=>ao 1 t131 fun t132=>lf (.map j) t132 (I v) h18 fun h19=>KS h19:=⟨by
 simp only[jw,s.get u.mem]
 rw[if_pos (by rw[sJ];rfl)]
 rcases n6 k 0 0 kv with ⟨h1,_⟩|⟨j,hj,_,_,h3,_⟩
 ·rw[h1]
  refine aE rfl ⟨?_⟩
  have hj:=jc (s.get u.mem)
  simp only[fJ,List.getElem?_set_self hj]
  have hb:∀ (n i:Nat) (kv:KV) (m:Nat),m=n+kv.length→ue (m:Int) (dG n kv++[(.string ⟨⟨k⟩⟩,m,I 0)]) i=some (i+kv.length,.string ⟨⟨k⟩⟩,m):=by
   intro n i kv
   induction kv generalizing n i with
   | nil=>intro m hm;simp[dG,ue]
   | cons x r ih=>
     intro m hm
     simp only[dG,List.cons_append,ue]
     rw[if_neg (by simp at hm ⊢;omega),ih (n+1) (i+1) m (by simp at hm;omega)]
     simp;omega
  rw[hb 0 0 kv kv.length (by omega)]
  simp only[Nat.zero_add,List.set_set]
  have e1:(dG 0 kv++[(Value.string ⟨⟨k⟩⟩,kv.length,I 0)]).set kv.length (.string ⟨⟨k⟩⟩,kv.length,I v)=dG 0 (kv++[(k,v)]):=by
   rw[List.set_append_right _ _ (by rw[xB];omega),tQ,xB];simp[dG]
  rw[e1]
  have e2:AObj.amap (dG 0 (kv++[(k,v)])) (kv.length+1)=bC (putA k v kv):=by rw[JB hn];simp
  rw[e2]
  exact q _ (s.turn u)
 ·rw[hn]at h3;cases h3⟩
abbrev Ib (j:Nat) (kv:KV) (seen:List Nat):AObj:=.miter (some j) kv.length seen kv.length
theorem Ic {j:Nat}{kv:KV}(s:St h0 M h L) (e:h[j]?=some (bC kv)) (k:∀ i h',St h0 M h' ((i,true,Ib j kv [])::L)→KH (.ptr i 0) h'):um (.map j) h KH:=⟨by
 simp only[pm,e]
 exact k _ _ (s.push _)⟩
theorem Nz {j i:Nat}{kv:KV}{seen:List Nat}(s:St h0 M h ((i,true,Ib j kv seen)::L)) (e:h[j]?=some (bC kv)) (k0:(∀ q,q<kv.length→q∈seen)→KH (.tup [B false]) h)
  (k1:∀ q (hq:q<kv.length),q∉seen→∀ h',St h0 M h' ((i,true,Ib j kv (seen++[q]))::L)→KH (.tup [B true,T kv[q].1,I kv[q].2]) h'):zW (.ptr i 0) h KH:=⟨by
 have hm:∀ x∈dG 0 kv,∃ q,∃ hq:q<kv.length,x=(.string ⟨⟨kv[q].1⟩⟩,q,I kv[q].2):=by
  intro x hx
  obtain⟨q,hq⟩:=List.getElem?_of_mem hx
  have hlt:q<kv.length:=by rw[← xB 0 kv];exact (List.getElem?_eq_some_iff.1 hq).1
  rw[Cf 0 kv q hlt,Nat.zero_add]at hq
  exact⟨q,hlt,by cases hq;rfl⟩
 have hin:∀ q (hq:q<kv.length),(Value.string ⟨⟨kv[q].1⟩⟩,q,I kv[q].2)∈dG 0 kv:=fun q hq=>by
  have:=Cf 0 kv q hq
  rw[Nat.zero_add]at this
  exact List.mem_of_getElem? this
 simp only[uL,s.get (.head _),e]
 refine⟨⟨I4 0 kv,?_⟩,fun hall=>k0 fun q hq=>?_,fun x hx hn=>?_⟩
 ·cases kv with
  | nil=>simp[dG]
  | cons x r=>simp[dG]
 ·rcases hall _ (hin q hq) with h|h
  ·exact h
  ·simp at h;omega
 ·obtain⟨q,hq,rfl⟩:=hm x hx
  exact k1 q hq hn _ (s.turn .head)⟩
theorem JC {j i:Nat}{b:Bool}{kv:KV}{seen:List Nat}{q:Nat}(s:St h0 M h L) (u:(i,b,Ib j kv (seen++[q]))∈L) (e:h[j]?=some (bC kv)) (hq:q<kv.length) (k:K (.tup [T kv[q].1,I kv[q].2])):zD (.ptr i 0) h K:=⟨by
 have hb:∀ (n:Nat) (kv:KV) (q:Nat) (hq:q<kv.length),nR (n+q) (dG n kv)=some (.string ⟨⟨kv[q].1⟩⟩,I kv[q].2):=by
  intro n kv
  induction kv generalizing n with
  | nil=>intro q hq;simp at hq
  | cons x r ih=>
    intro q hq
    simp only[dG,nR]
    cases q with
    | zero=>simp
    | succ q=>
      rw[if_neg (by simp)]
      have:=ih (n+1) q (by simpa using hq)
      rw[show n+1+q=n+(q+1) by omega]at this
      simpa using this
 simp only[oo,s.get u,e,List.getLast?_concat]
 have:=hb 0 kv q hq
 rw[Nat.zero_add]at this
 rw[this]
 simp only
 rw[if_pos (by simp[Value.oneCell'])]
 exact k⟩
end
end
section
def br (here:Int) (look:Str→Option Int):Ex→Ev
 | .none=>(0,6)
 | .num n=>fm n
 | .name s=>match look s with
   | some y=>fm y
   | none=>(0,4)
 | .here=>fm here
 | .neg e=>if (br here look e).2≠0 then (0,(br here look e).2) else fm (-(br here look e).1)
 | .bin k a b=>if (br here look a).2≠0 then (0,(br here look a).2) else if (br here look b).2≠0 then (0,(br here look b).2) else yi k (br here look a).1 (br here look b).1
theorem VR {o:List Str}{n x:Str}:x∈vw o n↔x∈o∨x=n:=by
 unfold vw
 split
 ·rename_i h
  simp only[List.any_eq_true,decide_eq_true_eq,exists_eq_right']at h
  constructor
  ·exact .inl
  ·rintro (h1|rfl)
   ·exact h1
   ·exact h
 ·simp
theorem B2 {x:Str}:∀ {l o:List Str},x∈l.foldl vw o↔x∈o∨x∈l
 | [],o=>by simp
 | n::l,o=>by rw[List.foldl_cons,B2 (l:=l),VR];simp[or_assoc]
def inE (x:Str):Ex→Prop
 | .name s=>x=s
 | .neg e=>inE x e
 | .bin _ a b=>inE x a∨inE x b
 | _=>False
theorem mem_names {x:Str}:∀ {e:Ex},x∈bV e↔inE x e
 | .none=>by simp[bV,inE]
 | .num _=>by simp[bV,inE]
 | .here=>by simp[bV,inE]
 | .name s=>by simp[bV,inE]
 | .neg e=>by simp only[bV,B2,inE,mem_names (e:=e)];simp
 | .bin k a b=>by simp only[bV,B2,inE,mem_names (e:=a),mem_names (e:=b)];simp
theorem Eb {here:Int}{syms:List Sy}{look:Str→Option Int}:∀ {e:Ex},(∀ s,inE s e→(syms.find? fun y=>decide (y.1=s)).map (·.2)=look s)→iL here syms e=br here look e
 | .none,_=>rfl
 | .num _,_=>rfl
 | .here,_=>rfl
 | .name s,h=>by
   unfold iL br
   rw[← h s rfl]
   cases syms.find? fun y=>decide (y.1=s)<;>rfl
 | .neg e,h=>by unfold iL br;rw[Eb (e:=e) fun s hs=>h s hs]
 | .bin k a b,h=>by unfold iL br;rw[Eb (e:=a) fun s hs=>h s (.inl hs),Eb (e:=b) fun s hs=>h s (.inr hs)]
def vb (look:Str→Option Int) (l:List Str):List Sy:=l.filterMap fun n=>(look n).map fun v=>(n,v)
theorem Gf (look:Str→Option Int) (s:Str):∀ l:List Str,s∈l→((vb look l).find? fun y=>decide (y.1=s)).map (·.2)=look s
 | [],h=>by simp at h
 | n::l,h=>by
   unfold vb
   rw[List.filterMap_cons]
   by_cases hs:n=s
   ·subst hs
    cases hl:look n with
    | some v=>simp
    | none=>
      simp only[Option.map_none]
      have hn:∀ y∈l.filterMap fun n=>(look n).map fun v=>(n,v),¬ (decide (y.1=n)=true):=by
       intro y hy hd
       rw[List.mem_filterMap]at hy
       obtain⟨m,_,hm⟩:=hy
       cases hlm:look m with
       | none=>rw[hlm]at hm;cases hm
       | some w=>rw[hlm]at hm;cases hm;simp at hd;subst hd;rw[hl]at hlm;cases hlm
      rw[List.find?_eq_none.2 hn];rfl
   ·have hm:s∈l:=by simpa [Ne.symm hs] using h
    have ih:=Gf look s l hm
    unfold vb at ih
    cases hl:look n with
    | none=>simpa using ih
    | some v=>simp only[Option.map_some];rw[List.find?_cons_of_neg (by simpa using hs)];exact ih
theorem Jm (look:Str→Option Int) (l:List Str):(vb look l).length≤l.length:=List.length_filterMap_le _ _
theorem PS (look:Str→Option Int) (l:List Str) {j:Nat}(h:j<l.length):vb look (l.take (j+1))=vb look (l.take j)++(match look l[j] with|some v=>[(l[j],v)]|none=>[]):=by
 unfold vb
 rw[List.take_succ_eq_append_getElem h,List.filterMap_append]
 congr 1
 cases hl:look l[j]<;>simp[hl]
section
variable [Tabs]
def MapAt (h:ae) (j:Nat) (f:Str→Option Int):Prop:=∃ kv,h[j]?=some (bC kv)∧(bN kv).Nodup∧∀ k,bw k kv=f k
theorem MapAt.fr {h h':ae}{j:Nat}{f:Str→Option Int}(m:MapAt h j f) (g:Fr [] h h'):MapAt h' j f:=by
 obtain⟨kv,h1,h2⟩:=m
 exact⟨kv,g.get h1 (by simp),h2⟩
variable {h:ae}{Q:QT}{K:AV→Prop}
theorem MapAt.look {j:Nat}{f:Str→Option Int}(m:MapAt h j f) {k:Str}(q:K (.tup [I ((f k).getD 0),B (f k).isSome])):jo .string true (I 0) (.map j) (T k) h K:=by
 obtain⟨kv,h1,_,h2⟩:=m
 exact Uz h1 (by rw[h2];exact q)
theorem MapAt.look0 {j:Nat}{f:Str→Option Int}(m:MapAt h j f) {k:Str}(q:K (I ((f k).getD 0))):jo .string false (I 0) (.map j) (T k) h K:=by
 obtain⟨kv,h1,_,h2⟩:=m
 exact Qj h1 (by rw[h2];exact q)
theorem pT {e:Ex}(ho:okE e) (hz:bn e<1000000) (here:Int) {j:Nat}{f:Str→Option Int}(m:MapAt h j f) (k:∀ h',Fr [] h h'→Q (evV (br here f e)) h'):C fA [.agg (bq e),I here,.map j] h Q:=by
 refine Ma _ _ _ _ _ ?_
 unfold Nt
 refine bW (St.start h) rfl fun i h1 s1=>?_
 have s1:St h [] h1 [(i,true,.cells (bq e))]:=s1
 refine aK s1 (au _) (.head _) ?_
 refine EB (bn e) e ho (Nat.le_refl _) (by omega) h1 _ fun h2 f2=>?_
 have s2:=s1.call f2
 have hnl:=kO e
 have RN2:∀ h,Row sE 1 h (.snap (bV e).length ((bV e).flatMap sE)) (bV e):=fun h=>Row.snap (enc:=sE) (fun _=>rfl) _
 have hkn:iL here (vb f (bV e)) e=br here f e:=Eb fun s hs=>Gf f s _ (mem_names.2 hs)
 generalize bV e=ns at RN2 hnl hkn ⊢
 (repeat refine cE ?_)
 refine aP (fun n vs h'=>∃ (q:Nat) (v:AV) (E:Own),vs=[v,I (q:Nat)]∧n+q=ns.length∧AccE 2 v (vb f (ns.take q)).length ((vb f (ns.take q)).flatMap syE) E∧St h [] h' (E++[(i,true,.cells (bq e))])) ns.length ⟨0,.full 0 [],[],rfl,by omega,.none 2,s2⟩ ?_
 rintro n vs h3 ⟨q,v,E,rfl,hn,a,s3⟩
 have hle:=Jm f (ns.take q)
 rw[List.length_take]at hle
 unfold CT
 (repeat refine aJ ?_)
 refine ah (fun hb=>?_) (fun hb=>?_)<;>simp only[za,zb,zc,zd,ze,zf,zg,zh,zi,u8i,zj,zk,zl]at hb
 ·have hq:q<ns.length:=hb
  refine (RN2 h3).idx (fun _=>rfl) hq fun p t=>?_
  refine aH t ?_
  refine (m.fr s3.fr).look ?_
  (repeat refine aE rfl ?_)
  have hs:=PS f ns hq
  cases hf:f ns[q] with
  | none=>
    rw[hf,List.append_nil]at hs
    refine ah (fun h=>by cases h) (fun _=>?_)
    unfold qH xm
    refine aI (by omega) ?_
    exact⟨n-1,by omega,q+1,v,E,rfl,by omega,by rw[hs];exact a,s3⟩
  | some y=>
    rw[hf]at hs
    refine ah (fun _=>?_) (fun h=>by cases h)
    (repeat (first|refine aD rfl ?_|refine aB rfl rfl ?_))
    refine a.app s3 (xs:=syE (ns[q],y)) (m:=1) (Rd.full rfl) rfl (by omega) fun v3 E3 h8 a3 s8=>?_
    unfold qH xm
    refine aI (by omega) ?_
    exact⟨n-1,by omega,q+1,v3,E3,rfl,by omega,by rw[hs];simpa using a3,s8⟩
 ·rw[List.take_of_length_le (by omega)]at a
  refine aK (a.rest s3) (au _) (.head _) ?_
  have hl2:=Jm f ns
  refine D8 here (vb f ns) (by omega) e ho h3 _ (a.rd s3) fun h4 f4=>?_
  have s4:=s3.call f4
  rw[hkn]
  (repeat refine aE rfl ?_)
  exact k h4 s4.fr
def pZ:Ex→Bool
 | .here=>true
 | .neg e=>pZ e
 | .bin _ a b=>pZ a||pZ b
 | _=>false
theorem X5:∀ (e:Ex),okE e→∀ (h:ae) (Q:QT),(∀ h',Fr [] h h'→Q (B (pZ e)) h')→C eI [.agg (bq e)] h Q:=by
 have hind:∀ n (e:Ex),bn e≤n→okE e→∀ (h:ae) (Q:QT),(∀ h',Fr [] h h'→Q (B (pZ e)) h')→C eI [.agg (bq e)] h Q:=by
  intro n
  induction n with
  | zero=>intro e he;cases e<;>simp[bn]at he
  | succ n ih=>
    intro e he ho h Q k
    refine Mp _ _ _ ?_
    unfold My
    refine bW (St.start h) rfl fun i h1 s1=>?_
    have s1:St h [] h1 [(i,true,.cells (bq e))]:=s1
    have hcl:(dS e).length≤2:=by cases e<;>simp[dS]
    have rest:pZ e=(dS e).any pZ→C bH [((bq e)[3]'(by rw[au];omega)),(.fn (.func eI) [] [])] h1 Q:=fun he2=>by
     refine rG au _ pZ (dS e) (by omega) (Fo e h1) (fun x hx h' Q f' k'=>?_) fun h2 f2=>?_
     ·show ACall Pg eI _ _ _
      have:=AG hx
      exact ih x (by omega) (EY ho hx) h' Q k'
     ·rw[← he2];exact k h2 (s1.call f2).fr
    cases e with
    | here=>
      refine aj (af s1 (.head _) rfl (aA (ah (fun _=>?_) (fun h=>absurd h (by decide)))))
      exact k h1 s1.fr
    | none=>
      refine aj (af s1 (.head _) rfl (aA (ah (fun h=>absurd h (by decide)) (fun _=>?_))))
      exact aj (af s1 (.head _) rfl (rest rfl))
    | num m=>
      refine aj (af s1 (.head _) rfl (aA (ah (fun h=>absurd h (by decide)) (fun _=>?_))))
      exact aj (af s1 (.head _) rfl (rest rfl))
    | name s=>
      refine aj (af s1 (.head _) rfl (aA (ah (fun h=>absurd h (by decide)) (fun _=>?_))))
      exact aj (af s1 (.head _) rfl (rest rfl))
    | neg e=>
      refine aj (af s1 (.head _) rfl (aA (ah (fun h=>absurd h (by decide)) (fun _=>?_))))
      exact aj (af s1 (.head _) rfl (rest (by simp[pZ,dS])))
    | bin k a b=>
      have hk2:=ho.1
      refine aj (af s1 (.head _) rfl (aA (ah (fun h=>absurd h (by simp;omega)) (fun _=>?_))))
      exact aj (af s1 (.head _) rfl (rest (by simp[pZ,dS])))
 exact fun e=>hind _ e (Nat.le_refl _)
end
end
section
structure En where
 frag:Str
 x:Sm
 place:Int
 grown:Bool
def enE (e:En):List AV:=[T e.frag,I (e.x.1:Nat),T e.x.2.lab,I (e.x.2.kind:Nat),I (e.x.2.op:Nat),T e.x.2.text,.snap e.x.2.args.length (e.x.2.args.flatMap arE),I e.place,B e.grown]
abbrev iE (v:Int):List AV:=[I v]
def GO (e:En):Ar:=e.x.2.args.getLast?.getD ⟨-1,.none⟩
abbrev bO (e:En):Ex:=(GO e).e
abbrev VN (n:Nat):Str:=([[115,101,95,98],[115,101,95,98,108],[115,101,95,98,99]][n]?).getD []
abbrev XE (n:Nat):Str:=([[101,95,98],[101,95,98,108],[101,95,98,99]][n]?).getD []
def ir (n:Nat):Nat:=(mK (VN n)).getD 0
def po (n:Nat):Nat:=(mK (XE n)).getD 0
def cr (e:En):Nat:=if e.x.2.kind=1 then e.x.2.op else if e.grown then po e.x.2.op else ir e.x.2.op
structure WfS (x:RS):Prop where
 inst:x.kind=1→x.op<tbl.length∧(cK (bj x.op)).length≤x.args.length
 grow:x.kind=2→x.op<3∧(cK (bj (ir x.op))).length≤x.args.length∧(cK (bj (po x.op))).length≤x.args.length
 data:3≤x.kind→x.kind≠6→x.args≠[]
 kind:x.kind≤9
 args:x.args.length<1000000000
 text:x.text.length<1000000000
 arg:∀ a∈x.args,okE a.e∧bn a.e<1000000∧a.reg<1000
theorem VV {e:En}(w:WfS e.x.2) (hk:e.x.2.kind=1∨e.x.2.kind=2):cr e<tbl.length∧(cK (bj (cr e))).length≤e.x.2.args.length:=by
 unfold cr
 rcases hk with hk|hk
 ·rw[if_pos hk];exact w.inst hk
 ·rw[if_neg (by omega)]
  obtain⟨h1,h2,h3⟩:=w.grow hk
  have hs:∀ n,n<3→po n<tbl.length∧ir n<tbl.length:=by decide
  split
  ·exact⟨(hs _ h1).1,h3⟩
  ·exact⟨(hs _ h1).2,h2⟩
theorem xF {e:En}(w:WfS e.x.2) (h:e.x.2.args≠[]):okE (bO e)∧bn (bO e)<1000000:=by
 have hl:GO e∈e.x.2.args:=by
  unfold GO
  rw[List.getLast?_eq_some_getLast h]
  exact List.getLast_mem h
 exact⟨(w.arg _ hl).1,(w.arg _ hl).2.1⟩
section
variable [Tabs]
variable {h:ae}{Q:QT}{K:AV→Prop}
theorem MD (e:En) (h:ae):Row arE 5 h (.snap e.x.2.args.length (e.x.2.args.flatMap arE)) e.x.2.args:=Row.snap bR _
theorem xI {e:En}{p:Nat}(hp:h[p]?=some (.cells (enE e))) (w:WfS e.x.2) (hn:e.x.2.args≠[]) (k:∀ h',Fr [] h h'→Q (.agg (bq (bO e))) h'):C bt [.ptr p 0] h Q:=by
 refine A1 _ _ _ ?_
 unfold wT
 refine aQ (St.startr hp) fun i h1 s1=>?_
 unfold enE at s1
 have hl:0<e.x.2.args.length:=List.length_pos_iff.2 hn
 have hal:=w.args
 (repeat (first|refine aw ?_|refine aj ?_|refine cE ?_|refine cw (by omega) ?_|refine af ‹_› (by first|exact .head _|exact .tail _ (.head _)) rfl ?_))
 rw[show ((e.x.2.args.length:Nat):Int)-1=((e.x.2.args.length-1:Nat):Int) by omega]
 refine (MD e h1).idx bR (by omega) fun q t=>?_
 refine uS t (by rw[bR];omega) fun q2 t2=>?_
 have ha:(arE (e.x.2.args[e.x.2.args.length-1]'(by omega))).drop 1=bq (bO e):=by
  unfold bO GO
  rw[List.getLast?_eq_getElem?,List.getElem?_eq_getElem (by omega)];rfl
 rw[ha]at t2
 refine aR t2 (au _).symm ?_
 refine aM s1 rfl (au _) (aX _) .head fun h5 s5=>?_
 refine aK s5 (au _) (.head _) ?_
 exact k h5 s5.fr
theorem ZM (s:Str) (k:∀ h',Fr [] h h'→Q (I (((mK s).getD 0:Nat):Int)) h'):C xQ [T s] h Q:=by
 refine Ty _ _ _ ?_
 unfold XD
 refine Ro s fun h1 f1=>?_
 (repeat refine aE rfl ?_)
 exact k h1 f1
theorem Mn {n:Nat}(hn:n<3) (k:∀ h',Fr [] h h'→Q (I (ir n:Nat)) h'):C pc [I (n:Nat)] h Q:=by
 refine JP _ _ _ ?_
 unfold I0
 (repeat refine aB rfl rfl ?_)
 refine (Row.full (h:=h) (enc:=sE) (fun _=>rfl) [[115,101,95,98],[115,101,95,98,108],[115,101,95,98,99]]).idx (fun _=>rfl) hn fun q t=>?_
 refine aH t ?_
 refine ZM _ fun h1 f1=>?_
 have:=k h1 f1
 unfold ir VN at this
 rw[List.getElem?_eq_getElem (by simpa using hn)]at this
 exact this
theorem WX {n:Nat}(hn:n<3) (k:∀ h',Fr [] h h'→Q (I (po n:Nat)) h'):C tW [I (n:Nat)] h Q:=by
 refine Ls _ _ _ ?_
 unfold Jp
 (repeat refine aB rfl rfl ?_)
 refine (Row.full (h:=h) (enc:=sE) (fun _=>rfl) [[101,95,98],[101,95,98,108],[101,95,98,99]]).idx (fun _=>rfl) hn fun q t=>?_
 refine aH t ?_
 refine ZM _ fun h1 f1=>?_
 have:=k h1 f1
 unfold po XE at this
 rw[List.getElem?_eq_getElem (by simpa using hn)]at this
 exact this
theorem Yt {e:En}{p:Nat}(hp:h[p]?=some (.cells (enE e))) (w:WfS e.x.2) (hk:e.x.2.kind=1∨e.x.2.kind=2) (k:∀ h',Fr [] h h'→Q (.agg [I (cr e:Nat),.full 0 []]) h'):C lB [.ptr p 0] h Q:=by
 refine AM _ _ _ ?_
 unfold wJ
 refine aQ (St.startr hp) fun i h1 s1=>?_
 unfold enE at s1
 unfold cr at k
 (repeat (first|refine aw ?_|refine aj ?_|refine aA ?_|refine af ‹_› (by first|exact .head _|exact .tail _ (.head _)) rfl ?_))
 refine ah (fun hb=>?_) (fun hb=>?_)<;>simp only[za,zb,zc,zd,ze,zf,zg,zh,zi,u8i,zj,zk,zl]at hb
 ·rw[if_pos (by omega)]at k
  (repeat (first|refine aw ?_|refine aj ?_|refine af ‹_› (by first|exact .head _|exact .tail _ (.head _)) rfl ?_|refine aL ‹_› (.head _) (nle rfl) ?_|refine aD rfl ?_|refine ay ‹_› .head rfl rfl rfl (nle rfl) fun _ _=>?_))
  exact k _ (by assumption:St h _ _ _).fr
 ·have hk:e.x.2.kind=2:=by omega
  rw[if_neg (by omega)]at k
  have ho:=(w.grow hk).1
  (repeat (first|refine aw ?_|refine aj ?_|refine af ‹_› (by first|exact .head _|exact .tail _ (.head _)) rfl ?_))
  cases hg:e.grown with
  | true=>
    rw[hg]at k
    refine ah (fun _=>?_) (fun h=>by cases h)
    (repeat (first|refine aw ?_|refine aj ?_|refine af ‹_› (by first|exact .head _|exact .tail _ (.head _)) rfl ?_))
    refine WX ho fun h2 f2=>?_
    have s2:=s1.call f2
    (repeat (first|refine aL ‹_› (.head _) (nle rfl) ?_|refine aD rfl ?_|refine ay ‹_› .head rfl rfl rfl (nle rfl) fun _ _=>?_))
    exact k _ (by assumption:St h _ _ _).fr
  | false=>
    rw[hg]at k
    refine ah (fun h=>by cases h) (fun _=>?_)
    (repeat (first|refine aw ?_|refine aj ?_|refine af ‹_› (by first|exact .head _|exact .tail _ (.head _)) rfl ?_))
    refine Mn ho fun h2 f2=>?_
    have s2:=s1.call f2
    (repeat (first|refine aL ‹_› (.head _) (nle rfl) ?_|refine aD rfl ?_|refine ay ‹_› .head rfl rfl rfl (nle rfl) fun _ _=>?_))
    exact k _ (by assumption:St h _ _ _).fr
def GY (place:Int) (k:Str) (v:Int):Int:=if k.head?=some 84 then v-place else v
def gJ (place:Int) (ks:List Str) (vs:List Int):List Int:=List.zipWith (GY place) ks vs
theorem FU {place:Int}:∀ {ks:List Str}{vs:List Int}{q:Nat}(h1:q<ks.length) (h2:q<vs.length),gJ place (ks.take (q+1)) vs=gJ place (ks.take q) vs++[GY place ks[q] vs[q]]
 | [],_,q,h1,_=>by simp at h1
 | _::_,[],q,_,h2=>by simp at h2
 | k::ks,v::vs,0,_,_=>by simp[gJ]
 | k::ks,v::vs,q+1,h1,h2=>by
   have:=FU (place:=place) (ks:=ks) (vs:=vs) (q:=q) (by simpa using h1) (by simpa using h2)
   simp only[gJ,List.take_succ_cons,List.zipWith_cons_cons,List.cons_append,List.getElem_cons_succ]at this ⊢
   rw[this]
end
theorem U3:∀ r∈tbl,∀ k∈cK r.kinds,k≠[]:=by decide
theorem To:∀ r∈tbl,(cK r.kinds).length<10:=by decide
section
variable [Tabs]
variable {h:ae}{Q:QT}{K:AV→Prop}
variable {M:List Nat}{h0:ae}{L L':Own}{KS:ae→Prop}
structure aa2 (v:AV):Prop where
 tup:v.isTup=false
 cells:v.cells=[v]
 one:v.one=true
theorem AccE.v1 {sz n:Nat}{v:AV}{cs:List AV}{E:Own}(a:AccE sz v n cs E):aa2 v:=by
 rcases a with ⟨_,_,rfl,_⟩|⟨_,j,rfl,_⟩<;>exact⟨rfl,rfl,rfl⟩
theorem BS {i o:Nat}{cs:List AV}{v:AV}(hv:aa2 v) (s:St h0 M h L) (e:Sub L (i,true,.cells cs) L' (i,true,.cells (splice cs o [v]))) (e4:o+1≤cs.length) (q:∀ h',St h0 M h' L'→KS h'):an 1 (.ptr i o) v h KS:=
 ay s (by rw[hv.cells];exact e) hv.tup (by rw[hv.cells];rfl) (by rw[hv.cells];simp[hv.one]) e4 q
theorem Q5 (hF:cD) {e:En}{p:Nat}(hp:h[p]?=some (.cells (enE e))) (w:WfS e.x.2) (hk:e.x.2.kind=1∨e.x.2.kind=2) (vs:List Int) (hv:vs.length=e.x.2.args.length) (hb:∀ v∈vs,-4503599627370496≤v-e.place∧v-e.place≤4503599627370496)
  {fv:AV} (r:Row iE 1 h fv vs)
  (k:∀ v E h',AccE 1 v (gJ e.place (cK (bj (cr e))) vs).length ((gJ e.place (cK (bj (cr e))) vs).flatMap iE) E→St h [] h' E→Q (.agg [I (cr e:Nat),v]) h'):C iy [.ptr p 0,fv] h Q:=by
 obtain⟨ho,hlen⟩:=VV w hk
 refine AN _ _ _ _ ?_
 unfold vL
 refine aQ (St.start h) fun i0 h1 s1=>?_
 refine Yt (s1.fr.get hp (by simp)) w hk fun h2 f2=>?_
 have s2:=s1.call f2
 refine aQ s2 fun i1 h3 s3=>?_
 (repeat (first|refine aj ?_|refine af ‹_› (.head _) rfl ?_|refine ay ‹_› .head rfl rfl rfl (nle rfl) fun _ _=>?_))
 rename_i h4 s4
 refine L9 ho fun h5 f5=>?_
 have s5:=s4.call f5
 have hmem:tbl[cr e]∈tbl:=List.getElem_mem ho
 rw[iR ho]at k hlen ⊢
 refine B9 hF hmem ?_
 have hne:=U3 _ hmem
 have hfew:=To _ hmem
 have RK:∀ h,Row sE 1 h (.snap (cK tbl[cr e].kinds).length ((cK tbl[cr e].kinds).flatMap fun x=>[T x])) (cK tbl[cr e].kinds):=fun h=>Row.snap (enc:=sE) (fun _=>rfl) _
 generalize cK tbl[cr e].kinds=ks at k hlen hne hfew RK ⊢
 (repeat refine cE ?_)
 refine aP (fun n vs' h'=>∃ (q:Nat) (v:AV) (E:Own),vs'=[I (q:Nat)]∧n+q=ks.length∧AccE 1 v (gJ e.place (ks.take q) vs).length ((gJ e.place (ks.take q) vs).flatMap iE) E∧St h [] h' (E++([(i1,true,.cells [I (cr e:Nat),v]),(i0,true,.cells [I 0,.full 0 []])]++[]))) ks.length ⟨0,.full 0 [],[],rfl,by omega,.none 1,s5⟩ ?_
 rintro n vs' h6 ⟨q,v,E,rfl,hn,a,s6⟩
 unfold pY
 have hfl:(gJ e.place (ks.take q) vs).length≤ks.length:=by simp[gJ];omega
 (repeat refine aJ ?_)
 refine ah (fun hq=>?_) (fun hq=>?_)<;>simp only[za,zb,zc,zd,ze,zf,zg,zh,zi,u8i,zj,zk,zl]at hq
 ·have hq:q<ks.length:=hq
  refine (RK h6).idx (fun _=>rfl) hq fun p1 t=>?_
  refine aH t ?_
  have hqv:q<vs.length:=by omega
  refine (r.fr s6.fr).idx (fun _=>rfl) hqv fun p2 t2=>?_
  refine aH t2 ?_
  have hkn:=hne _ (List.getElem_mem hq)
  have hk0:0<ks[q].length:=List.length_pos_iff.2 hkn
  refine bP (i:=0) hk0 ?_
  have hs:gJ e.place (ks.take (q+1)) vs=gJ e.place (ks.take q) vs++[GY e.place ks[q] vs[q]]:=FU hq hqv
  have hfin:∀ x,x=GY e.place ks[q] vs[q]→iu (I x) (I (q:Nat)) (.ptr i1 0) h6 (fun vs' h'=>∃ m,m<n∧∃ (q:Nat) (v:AV) (E:Own),vs'=[I (q:Nat)]∧m+q=ks.length∧AccE 1 v (gJ e.place (ks.take q) vs).length ((gJ e.place (ks.take q) vs).flatMap iE) E∧St h [] h' (E++([(i1,true,.cells [I (cr e:Nat),v]),(i0,true,.cells [I 0,.full 0 []])]++[]))):=by
   rintro x rfl
   unfold iu
   (repeat refine aj ?_)
   refine af (a.rest s6) (.head _) rfl ?_
   (repeat refine aB rfl rfl ?_)
   refine a.app s6 (xs:=[I (GY e.place ks[q] vs[q])]) (m:=1) (Rd.full rfl) rfl (by omega) fun v3 E3 h8 a3 s8=>?_
   have s9:=s8.swap
   (repeat refine aj ?_)
   refine BS a3.v1 s9 .head (nle rfl) fun h10 s10=>?_
   (repeat refine aI (by omega) ?_)
   exact⟨n-1,by omega,q+1,v3,E3,rfl,by omega,by rw[hs];simpa using a3,St.swap (A:=[_,_]) (B:=E3) (L:=[]) s10⟩
  have h84:(ks[q].head?=some 84)↔ks[q][0]=84:=by
   rw[List.head?_eq_getElem?,List.getElem?_eq_getElem hk0];simp
  have hpl:=(s6.fr.get hp (by simp))
  have sp:=St.startr hpl
  unfold enE at sp
  have hbv:=hb _ (List.getElem_mem hqv)
  unfold GY at hfin
  simp only[h84]at hfin
  (repeat refine aA ?_)
  refine ah (fun hT=>?_) (fun hT=>?_)<;>simp only[za,zb,zc,zd,ze,zf,zg,zh,zi,u8i,zj,zk,zl]at hT
  ·have hT:ks[q][0]=84:=by
    apply UInt8.toNat_inj.1
    show _=84
    omega
   refine aw (aj (af sp (.head _) rfl (cw (by omega) ?_)))
   exact hfin _ (by rw[if_pos hT])
  ·exact hfin _ (by rw[if_neg (by intro h;rw[h]at hT;exact hT rfl)])
 ·rw[List.take_of_length_le (by omega)]at a
  have s7:=s6.swap
  (repeat refine aL ‹_› (.head _) (nle rfl) ?_)
  refine ay s7 (.tail .head) rfl rfl (by show ([I (cr e:Nat),v]:List AV).all AV.one=true;simp[a.v1.one];rfl) (nle rfl) fun h10 s10=>?_
  (repeat refine aL ‹_› (by first|exact .head _|exact .tail _ (.head _)) (nle rfl) ?_)
  exact k v E h10 a ((St.swap (A:=[_,_]) (B:=E) (L:=[]) s10).sub (List.sublist_append_left _ _))
end
end
section
def qo (here:Int) (f:Str→Option Int) (a:Ar):Ev:=if a.reg<0 then br here f a.e else (a.reg,0)
def bc (here:Int) (f:Str→Option Int) (args:List Ar):List Int×Int:=
 match args.find? fun a=>decide ((qo here f a).2≠0) with
 | some a=>([],(qo here f a).2)
 | none=>(args.map fun a=>(qo here f a).1,0)
theorem OI {here:Int}{f:Str→Option Int}{args:List Ar}{q:Nat}(hq:q<args.length) (hb:(qo here f args[q]).2≠0) (hn:∀ j (hj:j<q),(qo here f (args[j]'(by omega))).2=0):bc here f args=([],(qo here f args[q]).2):=by
 unfold bc
 have:args.find? (fun a=>decide ((qo here f a).2≠0))=some args[q]:=by
  rw[List.find?_eq_some_iff_getElem]
  exact⟨by simpa using hb,q,hq,rfl,fun j hj=>by simpa using hn j hj⟩
 rw[this]
theorem Kt {here:Int}{f:Str→Option Int}{args:List Ar}(hn:∀ j (hj:j<args.length),(qo here f args[j]).2=0):bc here f args=(args.map fun a=>(qo here f a).1,0):=by
 unfold bc
 have:args.find? (fun a=>decide ((qo here f a).2≠0))=none:=by
  rw[List.find?_eq_none]
  intro x hx
  obtain⟨j,hj,rfl⟩:=List.getElem_of_mem hx
  simpa using hn j hj
 rw[this]
def k5 (f:Str→Option Int) (es:List En) (e:Ex):Bool:=(bV e).all fun n=>(f n).isSome||es.any fun x=>decide (x.x.2.kind=9)&&decide (x.x.2.text=n)
def uw (kind:Nat):Int×Int:=if kind=3 then (-128,255) else if kind=4 then (-32768,65535) else (-2147483648,4294967295)
def jI (syms:Str→Option Int) (e:En):Int:=
 if e.x.2.kind=1 then (l7 e.x.2.op:Nat)
 else if e.x.2.kind=2 then (if e.grown then 4 else 2)
 else if e.x.2.kind=3∨e.x.2.kind=4∨e.x.2.kind=5 then (e.x.2.args.length:Int)*2^(e.x.2.kind-3)
 else if e.x.2.kind=6 then (e.x.2.text.length:Nat)
 else if e.x.2.kind=7 then ((br 0 syms (bO e)).1-e.place.tmod (br 0 syms (bO e)).1).tmod (br 0 syms (bO e)).1
 else if e.x.2.kind=8 then (br 0 syms (bO e)).1
 else 0
abbrev ew (lv:AV) (js:Nat) (kn dv:AV) (sz:Int):AObj:=.cells [lv,.map js,kn,dv,I sz]
section
variable [Tabs]
theorem FF (here:Int) (f:Str→Option Int):∀ e:Ex,-1099511627776≤(br here f e).1∧(br here f e).1≤1099511627776
 | .none=>by simp[br]
 | .num n=>ig _
 | .name s=>by
   unfold br;split
   ·exact ig _
   ·simp
 | .here=>ig _
 | .neg e=>by
   unfold br;split
   ·simp
   ·exact ig _
 | .bin k a b=>by
   unfold br;split
   ·simp
   ·split
    ·simp
    ·exact ON _ _ _
variable {h:ae}{Q:QT}{K:AV→Prop}
theorem KC {n:Nat}(k:Q (.tup [I (uw n).1,I (uw n).2]) h):C rV [I (n:Nat)] h Q:=by
 refine HH _ _ _ ?_
 unfold FI
 unfold uw at k
 (repeat refine aA ?_)
 refine ah (fun h3=>?_) (fun h3=>?_)<;>simp only[za,zb,zc,zd,ze,zf,zg,zh,zi,u8i,zj,zk,zl]at h3
 ·rw[if_pos (by omega)]at k;exact k
 ·rw[if_neg (by omega)]at k
  (repeat refine aA ?_)
  refine ah (fun h4=>?_) (fun h4=>?_)<;>simp only[za,zb,zc,zd,ze,zf,zg,zh,zi,u8i,zj,zk,zl]at h4
  ·rw[if_pos (by omega)]at k;exact k
  ·rw[if_neg (by omega)]at k;exact k
theorem abr {h0:ae}{M:List Nat}{L L':Own}{j:Nat}{cs zs:List AV}{K:ae→Prop}(s:St h0 M h L) (hz:zs.length=5) (hc:cs.length=5) (ho:cs.all AV.one=true) (u:Sub L (j,true,.cells zs) L' (j,true,.cells cs))
  (k:∀ h',St h0 M h' L'→K h'):an 5 (.ptr j 0) (.agg cs) h K:=
 ay s (by
  have:splice zs 0 cs=cs:=by simp[splice];omega
  show Sub L _ L' (j,true,.cells (splice zs 0 (AV.agg cs).cells))
  rw[show (AV.agg cs).cells=cs from rfl,this];exact u) rfl hc ho (by omega) k
theorem Bl {e:En}{p:Nat}(hp:h[p]?=some (.cells (enE e))) (w:WfS e.x.2) {i js jk:Nat}{lv dv:AV}{sz:Int}(hi:h[i]?=some (ew lv js (.map jk) dv sz)) {f:Str→Option Int}(m:MapAt h jk f)
  (k:∀ v E h',AccE 1 v (bc e.place f e.x.2.args).1.length ((bc e.place f e.x.2.args).1.flatMap iE) E→St h [] h' E→Q (.tup [v,I (bc e.place f e.x.2.args).2]) h'):C fG [.ptr i 0,.ptr p 0] h Q:=by
 refine wK _ _ _ _ ?_
 unfold q8
 have sp:=St.startr hp
 have hal:=w.args
 unfold enE at sp
 (repeat (first|refine aw ?_|refine aj ?_|refine cE ?_|refine af ‹_› (.head _) rfl ?_))
 clear sp
 refine aP (fun n vs' h'=>∃ (q:Nat) (v:AV) (E:Own),vs'=[.full 0 [],I 0,v,I (q:Nat)]∧n+q=e.x.2.args.length∧AccE 1 v q (((e.x.2.args.take q).map fun a=>(qo e.place f a).1).flatMap iE) E∧St h [] h' E∧∀ j (hj:j<q) (hj2:j<e.x.2.args.length),(qo e.place f e.x.2.args[j]).2=0) e.x.2.args.length ⟨0,.full 0 [],[],rfl,by omega,.none 1,St.start h,fun j hj=>by omega⟩ ?_
 rintro n vs' h1 ⟨q,v,E,rfl,hn,a,s1,hz⟩
 unfold nZ
 have s1:St h [] h1 (E++[]):=by simpa using s1
 (repeat refine aJ ?_)
 refine ah (fun hq=>?_) (fun hq=>?_)<;>simp only[za,zb,zc,zd,ze,zf,zg,zh,zi,u8i,zj,zk,zl]at hq
 ·have hq:q<e.x.2.args.length:=hq
  have ha:=w.arg _ (List.getElem_mem hq)
  refine (MD e h1).idx bR hq fun p1 t=>?_
  refine aR t (bR _).symm ?_
  refine aQ s1 fun i1 h2 s2=>?_
  refine abr s2 rfl (bR _) (Aj _) .head fun h3 s3=>?_
  have hfin:∀ (r:Ev) h',r=qo e.place f e.x.2.args[q]→St h [] h' (E++[])→fH (I r.2) (I r.1) (.full 0 []) (I 0) v (I (q:Nat)) h' (fun vs' h'=>∃ m,m<n∧∃ (q:Nat) (v:AV) (E:Own),vs'=[.full 0 [],I 0,v,I (q:Nat)]∧m+q=e.x.2.args.length∧AccE 1 v q (((e.x.2.args.take q).map fun a=>(qo e.place f a).1).flatMap iE) E∧St h [] h' E∧∀ j (hj:j<q) (hj2:j<e.x.2.args.length),(qo e.place f e.x.2.args[j]).2=0) Q:=by
   rintro r h4 rfl s4
   unfold fH
   (repeat refine cg ?_)
   refine ah (fun hb=>?_) (fun hb=>?_)<;>simp only[za,zb,zc,zd,ze,zf,zg,zh,zi,u8i,zj,zk,zl]at hb
   ·have hv:=OI hq hb fun j hj=>hz j hj (by omega)
    rw[hv]at k
    exact k _ [] _ (.none 1) (a.rest s4)
   ·(repeat refine aB rfl rfl ?_)
    refine a.app s4 (xs:=iE (qo e.place f e.x.2.args[q]).1) (m:=1) (Rd.full rfl) rfl (by omega) fun v3 E3 h8 a3 s8=>?_
    refine aI (by omega) ?_
    refine⟨n-1,by omega,q+1,v3,E3,rfl,by omega,?_,by simpa using s8,fun j hj hj2=>?_⟩
    ·rw[List.take_succ_eq_append_getElem hq,List.map_append,List.flatMap_append];exact a3
    ·by_cases hjq:j=q
     ·subst hjq;exact hb
     ·exact hz j (by omega) hj2
  have sp3:=St.startr (s3.fr.get hp (by simp))
  have si3:=St.startr (s3.fr.get hi (by simp))
  unfold enE at sp3
  unfold arE at s3
  refine aj (af s3 (.head _) rfl (aJ ?_))
  refine ah (fun hb=>?_) (fun hb=>?_)<;>simp only[za,zb,zc,zd,ze,zf,zg,zh,zi,u8i,zj,zk,zl]at hb
  ·refine aj (aL s3 (.head _) (by simp[au]) ?_)
   rw[show ((I e.x.2.args[q].reg::bq e.x.2.args[q].e).drop (0+1)).take 4=bq e.x.2.args[q].e by
    simp only[Nat.zero_add,List.drop_succ_cons,List.drop_zero];exact List.take_of_length_le (by simp[au])]
   refine aw (aj (af sp3 (.head _) rfl ?_))
   refine aw (aj (af si3 (.head _) rfl ?_))
   refine pT ha.1 ha.2.1 e.place (m.fr s3.fr) fun h4 f4=>?_
   have s4:=(s3.call f4).drop1
   unfold evV
   refine aE rfl (aE rfl ?_)
   exact hfin _ h4 (by unfold qo;rw[if_pos hb]) s4
  ·exact hfin (e.x.2.args[q].reg,0) h3 (by unfold qo;rw[if_neg (by omega)]) s3.drop1
 ·have hqe:q=e.x.2.args.length:=by omega
  subst hqe
  rw[List.take_length]at a
  have hv:=Kt (fun j hj=>hz j hj hj)
  rw[hv]at k
  exact k v E h1 (by simpa using a) (by simpa using s1)
abbrev pE (x:Nat×En):List AV:=[.ptr x.1 0]
theorem Mg {i js jk:Nat}{lv dv:AV}{sz:Int}(hi:h[i]?=some (ew lv js (.map jk) dv sz)) {f:Str→Option Int}(m:MapAt h jk f) {l:List (Nat×En)}(hl:l.length<1000000000) (r:Row pE 1 h lv l) (he:∀ x∈l,h[x.1]?=some (.cells (enE x.2)))
  {e:Ex} (ho:okE e) (hz:bn e<1000000) (k:∀ h',Fr [] h h'→Q (B (k5 f (l.map (·.2)) e)) h'):C gS [.ptr i 0,.agg (bq e)] h Q:=by
 refine uk _ _ _ _ ?_
 unfold oJ
 refine bW (St.start h) rfl fun j h1 s1=>?_
 have s1:St h [] h1 [(j,true,.cells (bq e))]:=s1
 refine aK s1 (au _) (.head _) ?_
 refine EB (bn e) e ho (Nat.le_refl _) (by omega) h1 _ fun h2 f2=>?_
 have s2:=s1.call f2
 have hnl:=kO e
 have RN2:∀ h,Row sE 1 h (.snap (bV e).length ((bV e).flatMap sE)) (bV e):=fun h=>Row.snap (enc:=sE) (fun _=>rfl) _
 unfold k5 at k
 generalize bV e=ns at RN2 hnl k ⊢
 (repeat refine cE ?_)
 refine aP (fun n vs h'=>∃ (q:Nat),vs=[B false,I (q:Nat)]∧n+q=ns.length∧Fr [] h h'∧∀ t (ht:t<q) (ht2:t<ns.length),((f ns[t]).isSome||(l.map (·.2)).any fun x=>decide (x.x.2.kind=9)&&decide (x.x.2.text=ns[t]))=true) ns.length ⟨0,rfl,by omega,s2.fr,fun t ht=>by omega⟩ ?_
 rintro n vs h3 ⟨q,rfl,hn,f3,hall⟩
 unfold lz
 (repeat refine aJ ?_)
 refine ah (fun hq=>?_) (fun hq=>?_)<;>simp only[za,zb,zc,zd,ze,zf,zg,zh,zi,u8i,zj,zk,zl]at hq
 ·have hq:q<ns.length:=hq
  refine (RN2 h3).idx (fun _=>rfl) hq fun p t=>?_
  refine aH t ?_
  refine aQ (St.start h3) fun i4 h4 s4=>?_
  (repeat (first|refine aw ?_|refine aj ?_|refine ay ‹_› .head rfl rfl rfl (nle rfl) fun _ _=>?_))
  rename_i h5 s5
  have f5:Fr [] h h5:=f3.trans s5.fr (by simp)
  have si:=St.startr (f5.get hi (by simp))
  refine af si (.head _) rfl ?_
  clear si
  refine af s5 (.head _) rfl ?_
  refine (m.fr f5).look ?_
  have hnext:∀ h',Fr [] h h'→((f ns[q]).isSome||(l.map (·.2)).any fun x=>decide (x.x.2.kind=9)&&decide (x.x.2.text=ns[q]))=true→ai .add (I (q:Nat)) (I 1) fun t36=>
   (fun vs' h'=>∃ m,m<n∧∃ (q:Nat),vs'=[B false,I (q:Nat)]∧m+q=ns.length∧Fr [] h h'∧∀ t (ht:t<q) (ht2:t<ns.length),((f ns[t]).isSome||(l.map (·.2)).any fun x=>decide (x.x.2.kind=9)&&decide (x.x.2.text=ns[t]))=true) [B false,t36] h':=by
   intro h' f' hh
   refine aI (by omega) ?_
   refine⟨n-1,by omega,q+1,rfl,by omega,f',fun t ht ht2=>?_⟩
   by_cases htq:t=q
   ·subst htq;exact hh
   ·exact hall t (by omega) ht2
  refine aE rfl (aE rfl (bQ ?_))
  cases hf:f ns[q] with
  | some y=>
    refine ah (fun h=>by cases h) (fun _=>?_)
    exact hnext h5 f5 (by rw[hf];rfl)
  | none=>
    refine ah (fun _=>?_) (fun h=>by cases h)
    have si:=St.startr (f5.get hi (by simp))
    refine aw (aj (af si (.head _) rfl ?_))
    clear si
    refine qn (arg:=fun x:Nat×En=>.ptr x.1 0) _ (fun x=>decide (x.2.x.2.kind=9)&&decide (x.2.x.2.text=ns[q])) l (by omega) (r.fr f5) (fun x hx h6 Q6 f6 k6=>?_) fun h6 f6=>?_
    ·show ACall Pg fQ _ _ _
     refine sD _ _ _ _ ?_
     unfold mz
     have sx:=St.startr (f6.get (f5.get (he x hx) (by simp)) (by simp))
     unfold enE at sx
     (repeat (first|refine aw ?_|refine aj ?_|refine aA ?_|refine af ‹_› (.head _) rfl ?_))
     refine ah (fun hb=>?_) (fun hb=>?_)<;>simp only[za,zb,zc,zd,ze,zf,zg,zh,zi,u8i,zj,zk,zl]at hb
     ·have hb:x.2.x.2.kind=9:=by omega
      (repeat (first|refine aw ?_|refine aj ?_|refine af ‹_› (.head _) rfl ?_))
      refine af (s5.call f6) (.head _) rfl ?_
      (repeat refine aV ?_)
      rw[hb]at k6
      simpa using k6 h6 (Fr.refl _ _)
     ·have hb:¬ x.2.x.2.kind=9:=by omega
      have:=k6 h6 (Fr.refl _ _)
      simpa [hb] using this
    ·have hany:(l.any fun x=>decide (x.2.x.2.kind=9)&&decide (x.2.x.2.text=ns[q]))=(l.map (·.2)).any fun x=>decide (x.x.2.kind=9)&&decide (x.x.2.text=ns[q]):=by rw[List.any_map];rfl
     rw[hany]
     have f7:Fr [] h h6:=f5.trans f6 (by simp)
     refine bQ ?_
     cases hc:(l.map (·.2)).any fun x=>decide (x.x.2.kind=9)&&decide (x.x.2.text=ns[q]) with
     | true=>
       refine ah (fun h=>by cases h) (fun _=>?_)
       exact hnext h6 f7 (by rw[hc];simp)
     | false=>
       refine ah (fun _=>?_) (fun h=>by cases h)
       have:(ns.all fun n=>(f n).isSome||(l.map (·.2)).any fun x=>decide (x.x.2.kind=9)&&decide (x.x.2.text=n))=false:=by
        rw[List.all_eq_false]
        exact⟨ns[q],List.getElem_mem hq,by rw[hf,hc];simp⟩
       rw[← this]
       exact k h6 f7
 ·have:(ns.all fun n=>(f n).isSome||(l.map (·.2)).any fun x=>decide (x.x.2.kind=9)&&decide (x.x.2.text=n))=true:=by
   rw[List.all_eq_true]
   intro x hx
   obtain⟨t,ht,rfl⟩:=List.getElem_of_mem hx
   exact hall t (by omega) ht
  rw[← this]
  exact k h3 f3
def SzOk (syms:Str→Option Int) (e:En):Prop:=
 (e.x.2.kind=7→1≤(br 0 syms (bO e)).1∧(br 0 syms (bO e)).1≤16)∧(e.x.2.kind=8→0≤(br 0 syms (bO e)).1∧(br 0 syms (bO e)).1≤1000)
theorem JK {e:En}{p:Nat}(hp:h[p]?=some (.cells (enE e))) (w:WfS e.x.2) {i js:Nat}{lv kn dv:AV}{sz:Int}(hi:h[i]?=some (ew lv js kn dv sz)) {f:Str→Option Int}(m:MapAt h js f) (hs:SzOk f e) (hpl:0≤e.place∧e.place≤1000000000000000)
  (k:∀ h',Fr [] h h'→Q (I (jI f e)) h'):C eQ [.ptr i 0,.ptr p 0] h Q:=by
 refine zT _ _ _ _ ?_
 unfold vd
 have sp:=St.startr hp
 have hal:=w.args
 unfold enE at sp
 unfold jI at k
 (repeat (first|refine aw ?_|refine aj ?_|refine aA ?_|refine af ‹_› (.head _) rfl ?_))
 refine ah (fun h1=>?_) (fun h1=>?_)<;>simp only[za,zb,zc,zd,ze,zf,zg,zh,zi,u8i,zj,zk,zl]at h1
 ·have h1:e.x.2.kind=1:=by omega
  rw[if_pos h1]at k
  (repeat (first|refine aw ?_|refine aj ?_|refine af ‹_› (.head _) rfl ?_))
  exact Rf (w.inst h1).1 fun h2 f2=>k h2 f2
 ·have h1:¬ e.x.2.kind=1:=by omega
  rw[if_neg h1]at k
  (repeat refine aA ?_)
  refine ah (fun h2=>?_) (fun h2=>?_)<;>simp only[za,zb,zc,zd,ze,zf,zg,zh,zi,u8i,zj,zk,zl]at h2
  ·rw[if_pos (by omega)]at k
   (repeat (first|refine aw ?_|refine aj ?_|refine af ‹_› (.head _) rfl ?_))
   cases hg:e.grown with
   | true=>
     rw[hg]at k
     exact ah (fun _=>k h (Fr.refl _ _)) (fun h=>by cases h)
   | false=>
     rw[hg]at k
     exact ah (fun h=>by cases h) (fun _=>k h (Fr.refl _ _))
  ·have h2:¬ e.x.2.kind=2:=by omega
   rw[if_neg h2]at k
   have hdata:∀ b:Bool,(b=true↔e.x.2.kind=3∨e.x.2.kind=4∨e.x.2.kind=5)→eP (B b) (I (e.x.2.kind:Nat)) (.ptr i 0) (.ptr p 0) h Q:=by
    intro b hb
    unfold eP
    refine ah (fun hbt=>?_) (fun hbf=>?_)
    ·have hk:=hb.1 hbt
     rw[if_pos hk]at k
     (repeat (first|refine aw ?_|refine aj ?_|refine cE ?_|refine cw (by omega) ?_|refine af ‹_› (.head _) rfl ?_))
     refine jR (by omega) ?_
     have:IntKind.i64.wrap ((e.x.2.args.length:Int)*2^(min ((e.x.2.kind:Int)-3).toNat IntKind.i64.bits))=(e.x.2.args.length:Int)*2^(e.x.2.kind-3):=by
      have hb:IntKind.i64.bits=64:=rfl
      rw[hb]
      rcases hk with hk|hk|hk<;>rw[hk]<;>simp<;>exact sY (by omega)
     rw[this]
     exact k h (Fr.refl _ _)
    ·have hk:¬ (e.x.2.kind=3∨e.x.2.kind=4∨e.x.2.kind=5):=by rw[← hb,hbf];simp
     rw[if_neg hk]at k
     (repeat refine aA ?_)
     refine ah (fun h6=>?_) (fun h6=>?_)<;>simp only[za,zb,zc,zd,ze,zf,zg,zh,zi,u8i,zj,zk,zl]at h6
     ·rw[if_pos (by omega)]at k
      (repeat (first|refine aw ?_|refine aj ?_|refine bf ?_|refine af ‹_› (.head _) rfl ?_))
      exact k h (Fr.refl _ _)
     ·rw[if_neg (by omega)]at k
      have hj4:∀ b:Bool,(b=true↔e.x.2.kind=7∨e.x.2.kind=8)→gU (B b) (.ptr i 0) (.ptr p 0) h Q:=by
       intro b hb
       unfold gU
       refine ah (fun hbt=>?_) (fun hbf=>?_)
       ·have hk78:=hb.1 hbt
        have hne:=w.data (by omega) (by omega)
        have si:=St.startr hi
        refine aw (aj (af si (.head _) rfl ?_))
        refine xI hp w hne fun h3 f3=>?_
        have si3:=si.call f3
        refine⟨af si3 (.head _) rfl rfl,?_⟩
        have hlast:=xF w hne
        refine pT hlast.1 hlast.2 0 (m.fr f3) fun h4 f4=>?_
        have f5:Fr [] h h4:=f3.trans f4 (by simp)
        unfold evV
        refine aE rfl (aE rfl ?_)
        have sp4:=sp.call f5
        refine aw (aj (aj (af sp4 (.head _) rfl (aA ?_))))
        have hin:=FF 0 f (bO e)
        refine ah (fun h7=>?_) (fun h7=>?_)<;>simp only[za,zb,zc,zd,ze,zf,zg,zh,zi,u8i,zj,zk,zl]at h7
        ·have h7:e.x.2.kind=7:=by omega
         rw[if_pos h7]at k
         have hv:=hs.1 h7
         unfold gN
         refine aw (aj (af sp4 (.head _) rfl ?_))
         refine n9 (by omega) ?_
         have hm1:=Int.tmod_nonneg (br 0 f (bO e)).1 hpl.1
         have hm2:=Int.tmod_lt_of_pos e.place (show 0<(br 0 f (bO e)).1 by omega)
         refine cw (by omega) ?_
         refine n9 (by omega) ?_
         exact k h4 f5
        ·have h7:¬ e.x.2.kind=7:=by omega
         rw[if_neg h7,if_pos (by omega)]at k
         unfold gN
         exact k h4 f5
       ·rw[hbf]at hb
        have h7:¬ e.x.2.kind=7:=fun h=>by simp at hb;omega
        have h8:¬ e.x.2.kind=8:=fun h=>by simp at hb;omega
        rw[if_neg h7,if_neg h8]at k
        exact k h (Fr.refl _ _)
      refine aA ?_
      refine ah (fun h7=>?_) (fun h7=>?_)<;>simp only[za,zb,zc,zd,ze,zf,zg,zh,zi,u8i,zj,zk,zl]at h7
      ·exact hj4 _ (by simp;omega)
      ·refine aA ?_
       exact hj4 _ (by simp;omega)
   refine aA ?_
   refine ah (fun h3=>?_) (fun h3=>?_)<;>simp only[za,zb,zc,zd,ze,zf,zg,zh,zi,u8i,zj,zk,zl]at h3
   ·exact hdata _ (by simp;omega)
   ·refine aA ?_
    refine ah (fun h4=>?_) (fun h4=>?_)<;>simp only[za,zb,zc,zd,ze,zf,zg,zh,zi,u8i,zj,zk,zl]at h4
    ·exact hdata _ (by simp;omega)
    ·refine aA ?_
     exact hdata _ (by simp;omega)
end
end
section
def dI (e:En):Prop:=e.x.2.kind=1∨e.x.2.kind=2
instance (e:En):Decidable (dI e):=inferInstanceAs (Decidable (_∨_))
def eF (e:En):Prop:=e.x.2.kind=3∨e.x.2.kind=4∨e.x.2.kind=5
instance (e:En):Decidable (eF e):=inferInstanceAs (Decidable (_∨_))
section
variable [Tabs]
def Ek (kind:Nat) (vs:List Int):Bool:=vs.any (fun v=>decide (v<(uw kind).1))||vs.any (fun v=>decide ((uw kind).2<v))
def qk (f:Str→Option Int) (es:List En) (e:En):Int:=
 if dI e∧e.place.tmod 2≠0 then 7
 else if (bc e.place f e.x.2.args).2=4∧e.x.2.kind=9∧k5 f es (bO e)=true then 5
 else if (bc e.place f e.x.2.args).2≠0 then (bc e.place f e.x.2.args).2
 else if dI e∧(mu (cr e) (gJ e.place (cK (bj (cr e))) (bc e.place f e.x.2.args).1)).isSome=false then 6
 else if eF e∧Ek e.x.2.kind (bc e.place f e.x.2.args).1=true then 6
 else 0
variable {h:ae}{Q:QT}{K:AV→Prop}
theorem Yr {vs:List Int}(hn:vs≠[]) (hl:vs.length<1000000000) {fv:AV}(r:Row iE 1 h fv vs) (k:∀ m,m∈vs→(∀ x∈vs,m≤x)→Q (I m) h):C gP [fv] h Q:=by
 refine ua _ _ _ ?_
 unfold oP
 have hp:0<vs.length:=List.length_pos_iff.2 hn
 refine r.len ?_
 refine aJ ?_
 refine ah (fun hb=>(by exfalso;first|(simp at hb;done)|(simp at hb;omega)|(revert hb;decide)|omega)) (fun _=>?_)
 unfold lw
 refine r.idx (j:=0) (fun _=>rfl) hp fun p t=>?_
 refine aH t ?_
 refine aP (fun n vs' h'=>∃ (q:Nat) (m:Int),vs'=[I m,I (q:Nat)]∧n+q=vs.length∧h'=h∧m∈vs∧∀ j (hj:j<q) (hj2:j<vs.length),m≤vs[j]) (vs.length-1) ⟨1,vs[0],rfl,by omega,rfl,List.getElem_mem hp,fun j hj hj2=>(by
  have hz:j=0:=by omega
  subst hz;exact Int.le_refl _)⟩ ?_
 rintro n vs' h1 ⟨q,m,rfl,hn,rfl,hm,hall⟩
 unfold lx
 refine r.len ?_
 (repeat refine aJ ?_)
 refine ah (fun hq=>?_) (fun hq=>?_)<;>simp only[za,zb,zc,zd,ze,zf,zg,zh,zi,u8i,zj,zk,zl]at hq
 ·have hq:q<vs.length:=hq
  refine r.idx (fun _=>rfl) hq fun p t=>?_
  refine aH t ?_
  (repeat (first|refine aI (by omega) ?_|refine Qz ?_))
  refine⟨n-1,by omega,q+1,min m vs[q],rfl,by omega,rfl,?_,fun j hj hj2=>?_⟩
  ·rw[Int.min_def]
   split
   ·exact hm
   ·exact List.getElem_mem hq
  ·by_cases hjq:j=q
   ·subst hjq;exact Int.min_le_right _ _
   ·exact Int.le_trans (Int.min_le_left _ _) (hall j (by omega) hj2)
 ·refine k m hm fun x hx=>?_
  obtain⟨j,hj,rfl⟩:=List.getElem_of_mem hx
  exact hall j (by omega) hj
theorem Yq {vs:List Int}(hn:vs≠[]) (hl:vs.length<1000000000) {fv:AV}(r:Row iE 1 h fv vs) (k:∀ m,m∈vs→(∀ x∈vs,x≤m)→Q (I m) h):C gO [fv] h Q:=by
 refine un _ _ _ ?_
 unfold oS
 have hp:0<vs.length:=List.length_pos_iff.2 hn
 refine r.len ?_
 refine aJ ?_
 refine ah (fun hb=>(by exfalso;first|(simp at hb;done)|(simp at hb;omega)|(revert hb;decide)|omega)) (fun _=>?_)
 unfold lL
 refine r.idx (j:=0) (fun _=>rfl) hp fun p t=>?_
 refine aH t ?_
 refine aP (fun n vs' h'=>∃ (q:Nat) (m:Int),vs'=[I m,I (q:Nat)]∧n+q=vs.length∧h'=h∧m∈vs∧∀ j (hj:j<q) (hj2:j<vs.length),vs[j]≤m) (vs.length-1) ⟨1,vs[0],rfl,by omega,rfl,List.getElem_mem hp,fun j hj hj2=>(by
  have hz:j=0:=by omega
  subst hz;exact Int.le_refl _)⟩ ?_
 rintro n vs' h1 ⟨q,m,rfl,hn,rfl,hm,hall⟩
 unfold l9
 refine r.len ?_
 (repeat refine aJ ?_)
 refine ah (fun hq=>?_) (fun hq=>?_)<;>simp only[za,zb,zc,zd,ze,zf,zg,zh,zi,u8i,zj,zk,zl]at hq
 ·have hq:q<vs.length:=hq
  refine r.idx (fun _=>rfl) hq fun p t=>?_
  refine aH t ?_
  (repeat (first|refine aI (by omega) ?_|refine FT ?_))
  refine⟨n-1,by omega,q+1,max m vs[q],rfl,by omega,rfl,?_,fun j hj hj2=>?_⟩
  ·rw[Int.max_def]
   split
   ·exact List.getElem_mem hq
   ·exact hm
  ·by_cases hjq:j=q
   ·subst hjq;exact Int.le_max_right _ _
   ·exact Int.le_trans (hall j (by omega) hj2) (Int.le_max_left _ _)
 ·refine k m hm fun x hx=>?_
  obtain⟨j,hj,rfl⟩:=List.getElem_of_mem hx
  exact hall j (by omega) hj
theorem XB {e:En}{p:Nat}(hp:h[p]?=some (.cells (enE e))) {vs:List Int}(hn:vs≠[]) (hl:vs.length<1000000000) {fv:AV}(r:Row iE 1 h fv vs) (k:Q (I (if Ek e.x.2.kind vs=true then 6 else 0)) h):Jc (.ptr p 0) fv h Q:=by
 have sp:=St.startr hp
 unfold enE at sp
 unfold Jc
 (repeat (first|refine aw ?_|refine aj ?_|refine af ‹_› (.head _) rfl ?_))
 refine KC ?_
 unfold Ek at k
 (repeat refine aE rfl ?_)
 refine Yr hn hl r fun m hm hall=>?_
 refine aJ ?_
 refine ah (fun hb=>?_) (fun hb=>?_)<;>simp only[za,zb,zc,zd,ze,zf,zg,zh,zi,u8i,zj,zk,zl]at hb
 ·rw[if_pos]at k
  ·exact k
  ·rw[Bool.or_eq_true];exact .inl (List.any_eq_true.2 ⟨m,hm,by simpa using hb⟩)
 ·have h1:(vs.any fun v=>decide (v<(uw e.x.2.kind).1))=false:=by
   rw[List.any_eq_false];intro x hx;have:=hall x hx;simp;omega
  rw[h1,Bool.false_or]at k
  refine Yq hn hl r fun m hm hall=>?_
  refine bx ?_
  refine ah (fun hb=>?_) (fun hb=>?_)<;>simp only[za,zb,zc,zd,ze,zf,zg,zh,zi,u8i,zj,zk,zl]at hb
  ·rw[if_pos (List.any_eq_true.2 ⟨m,hm,by simpa using hb⟩)]at k;exact k
  ·have h1:(vs.any fun v=>decide ((uw e.x.2.kind).2<v))=false:=by
    rw[List.any_eq_false];intro x hx;have:=hall x hx;simp;omega
   rw[h1,if_neg (by simp)]at k
   exact k
theorem Jz {e:En}{p:Nat}(hp:h[p]?=some (.cells (enE e))) {vs:List Int}(hn:eF e→vs≠[]) (hl:vs.length<1000000000) {fv:AV}(r:Row iE 1 h fv vs) (k:Q (I (if eF e∧Ek e.x.2.kind vs=true then 6 else 0)) h):EK (.ptr p 0) fv h Q:=by
 have sp:=St.startr hp
 unfold enE at sp
 unfold EK
 have one:eF e→Jc (.ptr p 0) fv h Q:=fun hd=>XB hp (hn hd) hl r (by simpa [hd] using k)
 refine aw (aj (aj (af sp (.head _) rfl (aA ?_))))
 refine ah (fun h3=>?_) (fun h3=>?_)<;>simp only[za,zb,zc,zd,ze,zf,zg,zh,zi,u8i,zj,zk,zl]at h3
 ·exact one (.inl (by omega))
 ·refine aw (aj (aj (af sp (.head _) rfl (aA ?_))))
  refine ah (fun h4=>?_) (fun h4=>?_)<;>simp only[za,zb,zc,zd,ze,zf,zg,zh,zi,u8i,zj,zk,zl]at h4
  ·exact one (.inr (.inl (by omega)))
  ·refine aw (aj (aj (af sp (.head _) rfl (aA ?_))))
   refine ah (fun h5=>?_) (fun h5=>?_)<;>simp only[za,zb,zc,zd,ze,zf,zg,zh,zi,u8i,zj,zk,zl]at h5
   ·exact one (.inr (.inr (by omega)))
   ·have:¬ eF e:=by unfold eF;omega
    show Q (I 0) h
    simpa [this] using k
end
end
end
end Go.Proofs.YtbhphjpgjgigpaaGreatDoor.AL
