import Derived.Test.YtgkmmcdhhkllnaaGreatDoorAA8toAR2
import Derived.Test.YtgkmmcdhhkllnaaGreatDoorF9
import Derived.Test.YtgkmmcdhhkllnaaGreatDoorAI4toKS9
import Derived.KernelRfl
import Derived.Test.YtgkmmcdhhkllnaaGreatDoorAN2toAA7
set_option linter.all false
set_option autoImplicit true
set_option relaxedAutoImplicit true
set_option maxRecDepth 100000
namespace Go.Proofs.YtgkmmcdhhkllnaaGreatDoor.AL
noncomputable section
section
variable [Tabs]
variable {h:ae}{Q:QT}{i D p:Nat}{s:Str}{b:Bool}
def Kn:PF:=fun l=>if ([48,120]:Str).isPrefixOf l=true then AU 16 (l.drop 2) else if uN 10 l≠[] then AU 10 l else IT l
def Eg (group minus:PF):PF:=fun l=>
 if ([40]:Str).isPrefixOf (blk l)=true then group ((blk l).drop 1)
 else if ([45]:Str).isPrefixOf (blk l)=true then minus ((blk l).drop 1)
 else if ([46]:Str).isPrefixOf (blk l)=true then some (.here,(blk l).drop 1)
 else Kn (blk l)
def QI:Nat→PF
 | 0=>Eg (fun _=>none) fun _=>none
 | d+1=>Eg (gU (hQ (QI d) 5)) (eS (QI d))
def Du (l:Str):Option Ex:=match hQ (QI 12) 5 l with
 | none=>none
 | some (x,l')=>if blk l'=[] then some x else none
def lvl (k:Nat):Nat:=if k=5 then 3 else if k=6 then 3 else if k=7 then 4 else if k=8 then 1 else if k=9 then 0 else 2
def xP (L k:Nat):List Nat:=(List.range' k (12-k)).filter fun j=>decide (lvl j=L)
theorem Us:∀ L,L<5→xP L 5=(levelsL[L]?).getD []:=by decide
theorem Q3 {L k:Nat}(hk:k<12):xP L k=if lvl k=L then k::xP L (k+1) else xP L (k+1):=by
 unfold xP
 rw[show 12-k=(12-(k+1))+1 by omega,List.range'_succ,List.filter_cons]
 by_cases h:lvl k=L<;>simp[h]
theorem K9 {k:Nat}(hk:5≤k∧k<12) (q:Q (.tup [T (sg k),I (lvl k:Nat)]) h):C pX [I (k:Nat)] h Q:=by
 refine BQ _ _ _ ?_
 unfold DP
 rcases (show k=5∨k=6∨k=7∨k=8∨k=9∨k=10∨k=11 by omega) with e|e|e|e|e|e|e<;>subst e<;>
  (repeat (first|exact q|refine aA ?_|refine ah (fun hb=>?_) (fun _=>?_)|(exact absurd hb (by decide))))
theorem Ws {L:Nat}(hL:L<5) (hs:s.length<1000000000) (hp:p≤s.length) (e:h[i]?=some (rO s p D false))
  (k:∀ c p' h',p'≤s.length→dC ((levelsL[L]?).getD []) (s.drop p)=(c,s.drop p')→Fr [i] h h'→h'[i]?=some (rO s p' D false)→Q (I (c:Nat)) h'):C gJ [.ptr i 0,I (L:Nat)] h Q:=by
 refine pI _ _ _ _ ?_
 unfold nL
 refine aQ (fun n vs h'=>∃ c q:Nat,vs=[I 0,I (c:Nat)]∧5≤c∧n+c=12∧q≤s.length∧dC (xP L c) (s.drop q)=dC (xP L 5) (s.drop p)∧Fr [i] h h'∧h'[i]?=some (rO s q D false)) 7 ⟨5,p,rfl,Nat.le_refl _,rfl,hp,rfl,Fr.refl _ _,e⟩ ?_
 rintro n vs h1 ⟨c,q,rfl,hc,hn,hq,hk,f1,e1⟩
 rw[Us L hL]at hk
 unfold kO
 (repeat refine fK ?_)
 refine ah (fun b1=>?_) (fun b1=>?_)<;>simp only[za,zb,zc,zd,ze,zf,zg,zh,zi,u8i,zj,zk,zl]at b1
 ·refine K9 ⟨hc,by omega⟩ ?_
  have hst:=Q3 (L:=L) (k:=c) (by omega)
  refine aG rfl (aG rfl (aA ?_))
  have go:∀ (h':ae) (q':Nat),q'≤s.length→dC (xP L (c+1)) (s.drop q')=dC ((levelsL[L]?).getD []) (s.drop p)→Fr [i] h h'→h'[i]?=some (rO s q' D false)→(ai .add (I (c:Nat)) (I 1) fun t11=>(fun vs' h'=>∃ m,m<n∧∃ c q:Nat,vs'=[I 0,I (c:Nat)]∧5≤c∧m+c=12∧q≤s.length∧dC (xP L c) (s.drop q)=dC (xP L 5) (s.drop p)∧Fr [i] h h'∧h'[i]?=some (rO s q D false)) [I 0,t11] h'):=fun h' q' hq' hk' f' e'=>by
   refine aI (by omega) ?_
   exact⟨n-1,by omega,c+1,q',rfl,by omega,by omega,hq',by rw[Us L hL];exact hk',f',e'⟩
  refine ah (fun b2=>?_) (fun b2=>?_)<;>simp only[za,zb,zc,zd,ze,zf,zg,zh,zi,u8i,zj,zk,zl]at b2
  ·have b2:lvl c=L:=by omega
   rw[if_pos b2]at hst
   have st:=St.start1 e1
   refine au (aj (ag st (.head _) rfl (bm (ah (fun _=>?_) (fun h=>by cases h)))))
   rw[hst,dC]at hk
   refine GR (by have:∀ x∈signsL,x.length<1000:=by decide
                 have h:=List.getElem?_eq_getElem (l:=signsL) (show c<12 by omega)
                 show ((signsL[c]?).getD []).length<1000
                 rw[h];exact this _ (List.getElem_mem _)) hs e1 hq (fun hx p' h2 hp' hd f2 e2=>?_) (fun hx p' h2 hp' hd f2 e2=>?_)
   ·rw[if_pos hx]at hk
    refine ah (fun _=>?_) (fun h=>by cases h)
    exact k c p' h2 hp' (by rw[← hk,hd]) (f1.trans f2 (by simp)) e2
   ·rw[if_neg (by rw[hx];simp)]at hk
    refine ah (fun h=>by cases h) (fun _=>?_)
    exact go h2 p' hp' (by rw[hd];exact hk) (f1.trans f2 (by simp)) e2
  ·have b2:¬ lvl c=L:=by omega
   rw[if_neg b2]at hst
   rw[hst]at hk
   exact go h1 q hq hk f1 e1
 ·have hc12:c=12:=by omega
  subst hc12
  have:xP L 12=[]:=rfl
  rw[this,dC]at hk
  exact k 0 q h1 hq hk.symm f1 e1
theorem BK {L:Nat}(e:h[i]?=some (rO s p D true)) (k:Q (I 0) h):C gJ [.ptr i 0,I (L:Nat)] h Q:=by
 refine pI _ _ _ _ ?_
 unfold nL
 refine aQ (fun n vs h'=>∃ c:Nat,vs=[I 0,I (c:Nat)]∧5≤c∧n+c=12∧h'=h) 7 ⟨5,rfl,Nat.le_refl _,rfl,rfl⟩ ?_
 rintro n vs h1 ⟨c,rfl,hc,hn,rfl⟩
 unfold kO
 (repeat refine fK ?_)
 refine ah (fun b1=>?_) (fun b1=>?_)<;>simp only[za,zb,zc,zd,ze,zf,zg,zh,zi,u8i,zj,zk,zl]at b1
 ·refine K9 ⟨hc,by omega⟩ ?_
  refine aG rfl (aG rfl (aA ?_))
  refine ah (fun b2=>?_) (fun b2=>?_)<;>simp only[za,zb,zc,zd,ze,zf,zg,zh,zi,u8i,zj,zk,zl]at b2
  ·have st:=St.start1 e
   refine au (aj (ag st (.head _) rfl (bm (ah (fun h=>by cases h) (fun _=>?_)))))
   refine aI (by omega) ?_
   exact⟨n-1,by omega,c+1,rfl,by omega,by omega,rfl⟩
  ·refine aI (by omega) ?_
   exact⟨n-1,by omega,c+1,rfl,by omega,by omega,rfl⟩
 ·exact k
def wi (f:FuncId) (args:List AV) (D:Nat) (m:PF):Prop:=∀ (s:Str) (p:Nat) (h:ae) (Q:QT) (i:Nat),s.length<1000000000→p≤s.length→h[i]?=some (rO s p D false)→RRes i s D (m (s.drop p)) h Q→C f (.ptr i 0::args) h Q
theorem RRes.after {m:Option (Ex×Str)}{h1:ae}(r:RRes i s D m h Q) (f:Fr [i] h h1):RRes i s D m h1 Q:=
 ⟨fun x p' h' hp e f'=>r.good x p' h' hp e (f.trans f' (by simp)),fun cs p' h' hp e f'=>r.bad cs p' h' hp e (f.trans f' (by simp))⟩
theorem qy {D:Nat}{b:Bool}{q5 q4 p:Nat}{cs:List AV}{h1:ae}(hD:D<1000) (hc:cs.length=4) (ho:cs.all AV.one=true) (s1:St h [i] h1 [(q5,true,.cells cs),(q4,true,.cells zE),(i,true,rO s p (D+1) b)])
  (k:∀ h',Fr [i] h h'→h'[i]?=some (rO s p D b)→Q (.agg cs) h'):dX (.ptr q5 0) (.ptr q4 0) (.ptr i 0) h1 Q:=by
 unfold dX
 refine au (aj (ag s1 (.tail _ (.tail _ (.head _))) rfl (cD (by omega) ?_)))
 rw[show ((D+1:Nat):Int)-1=(D:Nat) by omega]
 refine au (aj ?_)
 refine ax (o:=0+2) s1 (.tail (.tail .head)) rfl rfl rfl (nle rfl) fun h2 s2=>?_
 refine aL s2 hc (.head _) ?_
 refine aN s2 bc hc ho (.tail .head) fun h3 s3=>?_
 refine aL s3 hc (.tail _ (.head _)) ?_
 exact k _ s3.fr (s3.get (.tail _ (.tail _ (.head _))))
theorem GW (bb:Bool):wi ce [B bb] 12 fun _=>none:=fun s p h Q i hs hp e r=>by
 refine jF _ _ _ _ ?_
 unfold jp
 refine aM (St.start1 e) fun q h1 s1=>?_
 (repeat (first|refine au ?_|refine aj ?_|refine bz ?_|refine ag ‹_› (by first|exact .head _|exact .tail _ (.head _)) rfl ?_))
 refine ax (o:=0+3) s1 (.tail .head) rfl rfl rfl (nle rfl) fun h2 s2=>?_
 refine aD rfl ?_
 refine aN s2 bc rfl rfl .head fun h3 s3=>?_
 refine aL s3 rfl (.head _) ?_
 exact r.bad _ p _ hp rfl s3.fr (s3.get (.tail _ (.head _))) rfl rfl
theorem V6 {two:PF}(ht:wi cG [I 0] (D+1) two) (hD:D<12):wi ce [B true] D (gU two):=fun s p h Q i hs hp e r=>by
 refine jF _ _ _ _ ?_
 unfold jp
 refine aM (St.start1 e) fun q h1 s1=>?_
 (repeat (first|refine au ?_|refine aj ?_|refine bz ?_|refine ag ‹_› (by first|exact .head _|exact .tail _ (.head _)) rfl ?_))
 refine ah (fun hb=>absurd hb (by simp;omega)) (fun _=>?_)
 (repeat (first|refine au ?_|refine aj ?_|refine aI (by omega) ?_|refine ag ‹_› (by first|exact .head _|exact .tail _ (.head _)) rfl ?_))
 refine ax (o:=0+2) s1 (.tail .head) rfl rfl rfl (nle rfl) fun h2 s2=>?_
 have s2:St h [i] h2 [(q,true,.cells zE),(i,true,rO s p (D+1) false)]:=s2
 refine aM s2 fun q5 h3 s3=>?_
 refine ah (fun _=>?_) (fun h=>by cases h)
 refine ht s p h3 _ i hs hp (s3.get (.tail _ (.tail _ (.head _)))) ⟨fun x p' h4 hp' hm f4 e4=>?_,fun cs p' h4 hp' hm f4 e4 hc ho=>?_⟩
 ·have s4:=s3.call1 f4 e4 (.tail (.tail .head))
  have hm2:gU two (s.drop p)=if ([41]:Str).isPrefixOf (blk (s.drop p'))=true then some (x,(blk (s.drop p')).drop 1) else none:=by unfold gU;rw[hm]
  refine aN s4 bc (aw _) (aV _) .head fun h5 s5=>?_
  refine GR (m:=[41]) (by decide) hs (s5.get (.tail _ (.tail _ (.head _)))) hp' (fun hx p2 h6 hp2 hd f6 e6=>?_) (fun hx p2 h6 hp2 hd f6 e6=>?_)
  ·have s6:=s5.call1 f6 e6 (.tail (.tail .head))
   rw[if_pos hx]at hm2
   refine bm (ah (fun h=>by cases h) (fun _=>?_))
   refine qy (by omega) (aw _) (aV _) s6 fun h7 f7 e7=>?_
   exact r.good x p2 _ hp2 (by rw[hm2,hd];rfl) f7 e7
  ·have s6:=s5.call1 f6 e6 (.tail (.tail .head))
   rw[if_neg (by rw[hx];simp)]at hm2
   refine bm (ah (fun _=>?_) (fun h=>by cases h))
   refine au (aj ?_)
   refine ax (o:=0+3) s6 (.tail (.tail .head)) rfl rfl rfl (nle rfl) fun h7 s7=>?_
   refine qy (b:=true) (by omega) (aw _) (aV _) s7 fun h8 f8 e8=>?_
   exact r.bad _ p2 _ hp2 hm2 f8 e8 (aw _) (aV _)
 ·have s4:=s3.call1 f4 e4 (.tail (.tail .head))
  have hm2:gU two (s.drop p)=none:=by unfold gU;rw[hm]
  refine aN s4 bc hc ho .head fun h5 s5=>?_
  refine GR (m:=[41]) (by decide) hs (s5.get (.tail _ (.tail _ (.head _)))) hp' (fun hx p2 h6 hp2 hd f6 e6=>?_) (fun hx p2 h6 hp2 hd f6 e6=>?_)
  ·have s6:=s5.call1 f6 e6 (.tail (.tail .head))
   refine bm (ah (fun h=>by cases h) (fun _=>?_))
   refine qy (by omega) hc ho s6 fun h7 f7 e7=>?_
   exact r.bad _ p2 _ hp2 hm2 f7 e7 hc ho
  ·have s6:=s5.call1 f6 e6 (.tail (.tail .head))
   refine bm (ah (fun _=>?_) (fun h=>by cases h))
   refine au (aj ?_)
   refine ax (o:=0+3) s6 (.tail (.tail .head)) rfl rfl rfl (nle rfl) fun h7 s7=>?_
   refine qy (b:=true) (by omega) hc ho s7 fun h8 f8 e8=>?_
   exact r.bad _ p2 _ hp2 hm2 f8 e8 hc ho
theorem Uv {one:PF}(ht:wi df [] (D+1) one) (hD:D<12):wi ce [B false] D (eS one):=fun s p h Q i hs hp e r=>by
 refine jF _ _ _ _ ?_
 unfold jp
 refine aM (St.start1 e) fun q h1 s1=>?_
 (repeat (first|refine au ?_|refine aj ?_|refine bz ?_|refine ag ‹_› (by first|exact .head _|exact .tail _ (.head _)) rfl ?_))
 refine ah (fun hb=>absurd hb (by simp;omega)) (fun _=>?_)
 (repeat (first|refine au ?_|refine aj ?_|refine aI (by omega) ?_|refine ag ‹_› (by first|exact .head _|exact .tail _ (.head _)) rfl ?_))
 refine ax (o:=0+2) s1 (.tail .head) rfl rfl rfl (nle rfl) fun h2 s2=>?_
 have s2:St h [i] h2 [(q,true,.cells zE),(i,true,rO s p (D+1) false)]:=s2
 refine aM s2 fun q5 h3 s3=>?_
 refine ah (fun h=>by cases h) (fun _=>?_)
 refine ht s p h3 _ i hs hp (s3.get (.tail _ (.tail _ (.head _)))) ⟨fun x p' h4 hp' hm f4 e4=>?_,fun cs p' h4 hp' hm f4 e4 hc ho=>?_⟩
 ·have s4:=s3.call1 f4 e4 (.tail (.tail .head))
  have hm2:eS one (s.drop p)=some (.neg x,s.drop p'):=by unfold eS;rw[hm]
  refine aB rfl (by simp[AV.isTup,AV.cells,aw]) ?_
  rw[show ([AV.agg (br x)].flatMap fun x=>x.cells)=br x by simp[AV.cells]]
  refine aD rfl ?_
  refine aN s4 bc (aw (.neg x)) (aV (.neg x)) .head fun h5 s5=>?_
  refine qy (cs:=br (.neg x)) (by omega) (aw _) (aV _) s5 fun h6 f6 e6=>?_
  exact r.good _ p' _ hp' hm2 f6 e6
 ·have s4:=s3.call1 f4 e4 (.tail (.tail .head))
  have hm2:eS one (s.drop p)=none:=by unfold eS;rw[hm]
  refine aB rfl (by simp[AV.isTup,AV.cells,hc]) ?_
  refine aD rfl ?_
  refine aN s4 bc rfl rfl .head fun h5 s5=>?_
  refine qy (by omega) rfl rfl s5 fun h6 f6 e6=>?_
  exact r.bad _ p' _ hp' hm2 f6 e6 rfl rfl
end
end
end Go.Proofs.YtgkmmcdhhkllnaaGreatDoor.AL
namespace Go.Proofs.YtgkmmcdhhkllnaaGreatDoor.AL
noncomputable section
section
variable [Tabs]
variable {h:ae}{Q:QT}{i D p:Nat}{s:Str}{b:Bool}
theorem Kw {group minus:PF}(hG:wi ce [B true] D group) (hM:wi ce [B false] D minus):wi df [] D (Eg group minus):=fun s p h Q i hs hp e r=>by
 refine A3 _ _ _ ?_
 unfold wh
 refine aM (St.start1 e) fun q h1 s1=>?_
 refine au (aj (ag s1 (.tail _ (.head _)) rfl (ah (fun h=>by cases h) (fun _=>?_))))
 unfold Eg at r
 have put:∀ {m:Option (Ex×Str)} {h2:ae} {p2:Nat},St h [i] h2 [(q,true,.cells zE),(i,true,rO s p2 D false)]→RRes i s D m h Q→RRes i s D m h2 (fun t12 h4=>ak 4 (.ptr q 0) t12 h4 fun h5=>ap 4 (.ptr q 0) h5 fun r6=>Q r6 h5):=fun s2 r=>⟨fun x p' h3 hp' hm f3 e3=>by
   have s3:=s2.call1 f3 e3 (.tail .head)
   refine aN s3 bc (aw _) (aV _) .head fun h4 s4=>?_
   refine aL s4 (aw _) (.head _) ?_
   exact r.good x p' _ hp' hm s4.fr (s4.get (.tail _ (.head _))),fun cs p' h3 hp' hm f3 e3 hc ho=>by
   have s3:=s2.call1 f3 e3 (.tail .head)
   refine aN s3 bc hc ho .head fun h4 s4=>?_
   refine aL s4 hc (.head _) ?_
   exact r.bad cs p' _ hp' hm s4.fr (s4.get (.tail _ (.head _))) hc ho⟩
 have idem:∀ l:Str,blk (blk l)=blk l:=nS 32
 refine GR (m:=[40]) (by decide) hs (s1.get (.tail _ (.head _))) hp (fun hx p2 h2 hp2 hd f2 e2=>?_) (fun hx p2 h2 hp2 hd f2 e2=>?_)
 ·have s2:=s1.call1 f2 e2 (.tail .head)
  rw[if_pos hx,show (blk (s.drop p)).drop 1=s.drop p2 from hd.symm]at r
  refine ah (fun _=>?_) (fun h=>by cases h)
  exact hG s p2 h2 _ i hs hp2 (s2.get (.tail _ (.head _))) (put s2 r)
 have s2:=s1.call1 f2 e2 (.tail .head)
 rw[if_neg (by rw[hx];simp)]at r
 refine ah (fun h=>by cases h) (fun _=>?_)
 refine GR (m:=[45]) (by decide) hs (s2.get (.tail _ (.head _))) hp2 (fun hx p3 h3 hp3 hd3 f3 e3=>?_) (fun hx p3 h3 hp3 hd3 f3 e3=>?_)
 ·have s3:=s2.call1 f3 e3 (.tail .head)
  rw[hd,idem]at hx hd3
  rw[if_pos hx,show (blk (s.drop p)).drop 1=s.drop p3 from hd3.symm]at r
  refine ah (fun _=>?_) (fun h=>by cases h)
  exact hM s p3 h3 _ i hs hp3 (s3.get (.tail _ (.head _))) (put s3 r)
 have s3:=s2.call1 f3 e3 (.tail .head)
 rw[hd,idem]at hx hd3
 rw[if_neg (by rw[hx];simp)]at r
 refine ah (fun h=>by cases h) (fun _=>?_)
 refine GR (m:=[46]) (by decide) hs (s3.get (.tail _ (.head _))) hp3 (fun hx p4 h4 hp4 hd4 f4 e4=>?_) (fun hx p4 h4 hp4 hd4 f4 e4=>?_)
 ·have s4:=s3.call1 f4 e4 (.tail .head)
  rw[hd3,idem]at hx hd4
  rw[if_pos hx,show (blk (s.drop p)).drop 1=s.drop p4 from hd4.symm]at r
  refine ah (fun _=>?_) (fun h=>by cases h)
  refine aD rfl ?_
  refine aN s4 bc rfl rfl .head fun h5 s5=>?_
  refine aL s5 rfl (.head _) ?_
  exact r.good .here p4 _ hp4 rfl s5.fr (s5.get (.tail _ (.head _)))
 have s4:=s3.call1 f4 e4 (.tail .head)
 rw[hd3,idem]at hx hd4
 rw[if_neg (by rw[hx];simp)]at r
 refine ah (fun h=>by cases h) (fun _=>?_)
 unfold Kn at r
 refine GR (m:=[48,120]) (by decide) hs (s4.get (.tail _ (.head _))) hp4 (fun hx p5 h5 hp5 hd5 f5 e5=>?_) (fun hx p5 h5 hp5 hd5 f5 e5=>?_)
 ·have s5:=s4.call1 f5 e5 (.tail .head)
  rw[hd4,idem]at hx hd5
  rw[if_pos hx,show (blk (s.drop p)).drop 2=s.drop p5 from hd5.symm]at r
  refine ah (fun _=>?_) (fun h=>by cases h)
  exact Ek (.inr rfl) hs hp5 (s5.get (.tail _ (.head _))) (put s5 r)
 have s5:=s4.call1 f5 e5 (.tail .head)
 rw[hd4,idem]at hx hd5
 rw[if_neg (by rw[hx];simp),← hd5]at r
 refine ah (fun h=>by cases h) (fun _=>?_)
 (repeat (first|refine au ?_|refine aj ?_|refine aZ ?_|refine aJ ?_|refine ag ‹_› (by first|exact .head _|exact .tail _ (.head _)) rfl ?_))
 refine ah (fun b1=>?_) (fun b1=>?_)<;>simp only[za,zb,zc,zd,ze,zf,zg,zh,zi,u8i,zj,zk,zl]at b1
 ·have hq:p5<s.length:=by omega
  have hdg:=Ue (base:=10) hq
  refine au (aj (ag s5 (.tail _ (.head _)) rfl (au (aj (ag s5 (.tail _ (.head _)) rfl (bR hq ?_))))))
  refine Az (base:=10) (.inl rfl) s[p5] ?_
  refine bz ?_
  refine ah (fun b2=>?_) (fun b2=>?_)<;>simp only[za,zb,zc,zd,ze,zf,zg,zh,zi,u8i,zj,zk,zl]at b2
  ·have hpb:mU 10 s[p5]=true:=by
    cases hx:mU 10 s[p5] with
    | true=>rfl
    | false=>rw[hx]at b2;simp at b2
   rw[if_pos hpb]at hdg
   rw[if_pos (by rw[hdg];simp)]at r
   exact Ek (base:=10) (.inl rfl) hs hp5 (s5.get (.tail _ (.head _))) (put s5 r)
  ·have hpb:¬ mU 10 s[p5]=true:=fun h=>by rw[if_pos h]at b2;omega
   rw[if_neg hpb]at hdg
   rw[if_neg (by rw[hdg];simp)]at r
   exact J2 hs hp5 (s5.get (.tail _ (.head _))) (put s5 r)
 ·have hdg:uN 10 (s.drop p5)=[]:=by rw[List.drop_of_length_le (by omega)];rfl
  rw[if_neg (by rw[hdg];simp)]at r
  exact J2 hs hp5 (s5.get (.tail _ (.head _))) (put s5 r)
theorem Gl {one:PF}(ho:wi df [] D one) (hsh:ja one):∀ R,R≤5→wi cG [I ((5-R:Nat):Int)] D (hQ one R)
 | 0,_=>fun s p h Q i hs hp e r=>by
   refine qT _ _ _ _ ?_
   unfold pq
   refine aM (St.start1 e) fun q h1 s1=>?_
   refine bD (ah (fun _=>?_) (fun h=>absurd h (by decide)))
   refine ho s p h1 _ i hs hp (s1.get (.tail _ (.head _))) ⟨fun x p' h2 hp' hm f2 e2=>?_,fun cs p' h2 hp' hm f2 e2 hc ho=>?_⟩
   ·have s2:=s1.call1 f2 e2 (.tail .head)
    refine aN s2 bc (aw _) (aV _) .head fun h3 s3=>?_
    refine aL s3 (aw _) (.head _) ?_
    exact r.good x p' _ hp' hm s3.fr (s3.get (.tail _ (.head _)))
   ·have s2:=s1.call1 f2 e2 (.tail .head)
    refine aN s2 bc hc ho .head fun h3 s3=>?_
    refine aL s3 hc (.head _) ?_
    exact r.bad cs p' _ hp' hm s3.fr (s3.get (.tail _ (.head _))) hc ho
 | R+1,hR=>fun s p h Q i hs hp e r=>by
   have ih:=Gl ho hsh R (by omega)
   have ihs:=qH hsh R (by omega)
   have hL:4-R<5:=by omega
   have hlv:(5-(R+1):Nat)=4-R:=by omega
   have hnx:(((4-R:Nat):Int)+1)=((5-R:Nat):Int):=by omega
   have hmem:levelsL[4-R]'hL∈levelsL:=List.getElem_mem _
   obtain⟨hk1,hk2,hk3⟩:=yO _ hmem
   have hks:(levelsL[4-R]?).getD []=levelsL[4-R]'hL:=by rw[List.getElem?_eq_getElem (show 4-R<levelsL.length from hL)];rfl
   rw[← hks]at hk1
   refine qT _ _ _ _ ?_
   unfold pq
   rw[hlv]
   refine aM (St.start1 e) fun q h1 s1=>?_
   refine bD (ah (fun h=>by simp at h;omega) (fun _=>?_))
   refine aI (by omega) ?_
   rw[hnx]
   refine ih s p h1 _ i hs hp (s1.get (.tail _ (.head _))) ⟨fun x p1 h2 hp1 hm f2 e2=>?_,fun cs p1 h2 hp1 hm f2 e2 hc ho2=>?_⟩
   ·have s2:=s1.call1 f2 e2 (.tail .head)
    have hm2:hQ one (R+1) (s.drop p)=eZ (hQ one R) ((levelsL[4-R]?).getD []) (s.drop p1).length x (s.drop p1):=by
     conv=>lhs;unfold hQ
     rw[hm]
    rw[hm2]at r
    generalize hkse:(levelsL[4-R]?).getD []=ks at hk1 r
    refine aM s2 fun q5 h3 s3=>?_
    refine aN s3 bc (aw _) (aV _) .head fun h4 s4=>?_
    generalize htot:eZ (hQ one R) ks (s.drop p1).length x (s.drop p1)=tot at r
    refine aQ (fun n vs h'=>∃ (cs:List AV) (p2:Nat) (b:Bool),vs=[]∧cs.length=4∧cs.all AV.one=true∧p2≤s.length∧St h [i] h' [(q5,true,.cells cs),(q,true,.cells zE),(i,true,rO s p2 D b)]∧
     ((b=false∧∃ y,cs=br y∧(s.drop p2).length≤n∧eZ (hQ one R) ks n y (s.drop p2)=tot)∨(b=true∧tot=none))) (s.drop p1).length
     ⟨br x,p1,false,rfl,aw _,aV _,hp1,s4,.inl ⟨rfl,x,rfl,Nat.le_refl _,htot⟩⟩ ?_
    rintro n vs h5 ⟨cs,p2,b,rfl,hc,ho3,hp2,s5,hcase⟩
    unfold kL
    rcases hcase with ⟨rfl,y,rfl,hl2,hlp⟩|⟨rfl,hno⟩
    ·refine Ws hL hs hp2 (s5.get (.tail _ (.tail _ (.head _)))) fun c p3 h6 hp3 hkm f6 e6=>?_
     rw[hkse]at hkm
     have s6:=s5.call1 f6 e6 (.tail (.tail .head))
     obtain⟨hl4,hl5⟩:=qz ks hk1 (s.drop p2)
     rw[hkm]at hl4 hl5
     refine aA ?_
     refine ah (fun b1=>?_) (fun b1=>?_)<;>simp only[za,zb,zc,zd,ze,zf,zg,zh,zi,u8i,zj,zk,zl]at b1
     ·have hc0:c=0:=by omega
      subst hc0
      refine aL s6 (aw _) (.head _) ?_
      refine aN s6 bc (aw _) (aV _) (.tail .head) fun h7 s7=>?_
      refine aL s7 (aw _) (.tail _ (.head _)) ?_
      refine r.good y p3 _ hp3 ?_ s7.fr (s7.get (.tail _ (.tail _ (.head _))))
      rw[← hlp]
      cases n with
      | zero=>rw[eZ,hkm];simp
      | succ n=>rw[eZ,hkm];simp
     ·have hc0:c≠0:=by omega
      have hl5:=hl5 hc0
      simp only at hl5
      obtain⟨n',rfl⟩:∃ m,n=m+1:=⟨n-1,by omega⟩
      rw[eZ,hkm]at hlp
      simp only[if_neg hc0]at hlp
      refine aL s6 (aw _) (.head _) ?_
      refine aI (by omega) ?_
      rw[hnx]
      refine ih s p3 h6 _ i hs hp3 (s6.get (.tail _ (.tail _ (.head _)))) ⟨fun z p4 h7 hp4 hm3 f7 e7=>?_,fun cs2 p4 h7 hp4 hm3 f7 e7 hc2 ho4=>?_⟩
      ·have s7:=s6.call1 f7 e7 (.tail (.tail .head))
       rw[hm3]at hlp
       refine⟨aL s7 (aw _) (.head _) rfl,?_⟩
       refine aB rfl (by simp[AV.isTup,AV.cells,aw]) ?_
       rw[show ([AV.agg (br y),AV.agg (br z)].flatMap fun x=>x.cells)=br y++br z by simp[AV.cells]]
       refine aD rfl ?_
       refine aN s7 (aw _) (aw (.bin c y z)) (aV (.bin c y z)) .head fun h8 s8=>?_
       have hsh2:=ihs _ _ _ hm3
       exact⟨n',by omega,_,p4,false,rfl,aw (.bin c y z),aV (.bin c y z),hp4,s8,.inl ⟨rfl,.bin c y z,rfl,by omega,hlp⟩⟩
      ·have s7:=s6.call1 f7 e7 (.tail (.tail .head))
       rw[hm3]at hlp
       refine⟨aL s7 (aw _) (.head _) rfl,?_⟩
       refine aB rfl (by simp[AV.isTup,AV.cells,aw,hc2]) ?_
       refine aD rfl ?_
       refine aN s7 (aw _) rfl rfl .head fun h8 s8=>?_
       exact⟨n',by omega,_,p4,true,rfl,rfl,rfl,hp4,s8,.inr ⟨rfl,hlp.symm⟩⟩
    ·refine BK (s5.get (.tail _ (.tail _ (.head _)))) ?_
     refine aA (ah (fun _=>?_) (fun h=>by cases h))
     refine aL s5 hc (.head _) ?_
     refine aN s5 bc hc ho3 (.tail .head) fun h6 s6=>?_
     refine aL s6 hc (.tail _ (.head _)) ?_
     exact r.bad cs p2 _ hp2 hno s6.fr (s6.get (.tail _ (.tail _ (.head _)))) hc ho3
   ·have s2:=s1.call1 f2 e2 (.tail .head)
    have hm2:hQ one (R+1) (s.drop p)=none:=by
     conv=>lhs;unfold hQ
     rw[hm]
    refine aM s2 fun q5 h3 s3=>?_
    refine aN s3 bc hc ho2 .head fun h4 s4=>?_
    refine Cc 1 (rN ?_)
    unfold kL
    refine BK (s4.get (.tail _ (.tail _ (.head _)))) ?_
    refine aA (ah (fun _=>?_) (fun h=>by cases h))
    refine aL s4 hc (.head _) ?_
    refine aN s4 bc hc ho2 (.tail .head) fun h5 s5=>?_
    refine aL s5 hc (.tail _ (.head _)) ?_
    exact r.bad cs p1 _ hp1 hm2 s5.fr (s5.get (.tail _ (.tail _ (.head _)))) hc ho2
end
end
end Go.Proofs.YtgkmmcdhhkllnaaGreatDoor.AL
namespace Go.Proofs.YtgkmmcdhhkllnaaGreatDoor.AL
noncomputable section
section
variable [Tabs]
variable {h:ae}{Q:QT}{i D p:Nat}{s:Str}{b:Bool}
def Rl (a r:Option (Ex×Str)):Prop:=a=r∨(a=none∧∃ x l,r=some (x,l)∧gv l≠[])
theorem DD {l:Str}(h:gv l≠[]):∃ c t,l=c::t∧dp c.toNat=true:=by
 cases l with
 | nil=>exact absurd rfl h
 | cons c t=>
   refine⟨c,t,rfl,?_⟩
   unfold gv at h
   rw[List.takeWhile_cons]at h
   cases hp:dp c.toNat with
   | true=>rfl
   | false=>rw[hp]at h;simp at h
theorem Io:∀ n:Nat,n<256→dp n=true→n≠32∧n≠41∧n≠43∧n≠45∧n≠42∧n≠38∧n≠124∧n≠60∧n≠62:=by decide
theorem Dz {l:Str}(h:gv l≠[]):blk l=l:=by
 obtain⟨c,t,rfl,hc⟩:=DD h
 have:=(Io c.toNat c.toNat_lt hc).1
 show iR 32 (c::t)=c::t
 unfold iR
 rw[if_neg (fun e=>by subst e;exact this rfl)]
theorem SJ {l:Str}(h:gv l≠[]) {k:Nat}(hk:5≤k∧k<12):(sg k).isPrefixOf l=false:=by
 obtain⟨c,t,rfl,hc⟩:=DD h
 obtain⟨h1,h2,h3,h4,h5,h6,h7,h8,h9⟩:=Io c.toNat c.toNat_lt hc
 have hh:∀ d:UInt8,c.toNat≠d.toNat→∀ m:Str,(d::m).isPrefixOf (c::t)=false:=fun d hd m=>by
  simp only[List.isPrefixOf,Bool.and_eq_false_iff,beq_eq_false_iff_ne]
  exact .inl fun e=>hd (by rw[e])
 rcases (show k=5∨k=6∨k=7∨k=8∨k=9∨k=10∨k=11 by omega) with e|e|e|e|e|e|e<;>subst e
 ·exact hh 43 h3 []
 ·exact hh 45 h4 []
 ·exact hh 42 h5 []
 ·exact hh 38 h6 []
 ·exact hh 124 h7 []
 ·exact hh 60 h8 [60]
 ·exact hh 62 h9 [62]
theorem A0 {l:Str}(h:gv l≠[]):∀ {ks:List Nat},(∀ k∈ks,5≤k∧k<12)→dC ks l=(0,l)
 | [],_=>rfl
 | k::ks,hk=>by
   unfold dC
   rw[Dz h,if_neg (by rw[SJ h (hk k (.head _))];simp)]
   exact A0 h fun x hx=>hk x (.tail _ hx)
theorem Vw:∀ r,r<5→∀ k∈(levelsL[4-r]?).getD [],5≤k∧k<12:=by decide
theorem Ke {sub sub':PF}{ks:List Nat}(hk:∀ k∈ks,5≤k∧k<12) (hs:∀ l,Rl (sub l) (sub' l)):∀ (n:Nat) (x:Ex) (l:Str),Rl (eZ sub ks n x l) (eZ sub' ks n x l)
 | 0,x,l=>.inl rfl
 | n+1,x,l=>by
   unfold eZ
   split
   ·exact .inl rfl
   ·rcases hs (dC ks l).2 with e|⟨e1,y,l2,e2,e3⟩
    ·rw[e]
     cases sub' (dC ks l).2 with
     | none=>exact .inl rfl
     | some z=>exact Ke hk hs n _ _
    ·rw[e1,e2]
     refine .inr ⟨rfl,?_⟩
     have hki:=A0 e3 hk
     cases n with
     | zero=>refine⟨.bin (dC ks l).1 x y,l2,?_,e3⟩;simp only[eZ,hki];rfl
     | succ n=>refine⟨.bin (dC ks l).1 x y,l2,?_,e3⟩;simp only[eZ,hki];rfl
theorem R8 {one one':PF}(ho:∀ l,Rl (one l) (one' l)):∀ r,r≤5→∀ l,Rl (hQ one r l) (hQ one' r l)
 | 0,_,l=>ho l
 | r+1,hr,l=>by
   have ih:=R8 ho r (by omega)
   have hk:=Vw r (by omega)
   unfold hQ
   rcases ih l with e|⟨e1,x,l1,e2,e3⟩
   ·rw[e]
    cases hQ one' r l with
    | none=>exact .inl rfl
    | some z=>exact Ke hk ih _ _ _
   ·rw[e1,e2]
    refine .inr ⟨rfl,x,l1,?_,e3⟩
    have hki:=A0 e3 hk
    simp only
    cases l1.length with
    | zero=>simp only[eZ,hki];rfl
    | succ n=>simp only[eZ,hki];rfl
theorem abe (l:Str):Rl (Cb l) (Kn l):=by
 have dg:uN 10 l=IP l:=rfl
 have num:∀ (base:Nat) (l ds:Str),uN base l=ds→ds≠[]→Rl (fl base l ds) (AU base l):=fun base l ds hd hne=>by
  unfold fl AU
  rw[hd,if_neg hne]
  cases qJ base ds 0 with
  | none=>exact .inl rfl
  | some n=>
    simp only
    by_cases hi:gv (l.drop ds.length)=[]
    ·rw[if_pos hi];exact .inl rfl
    ·rw[if_neg hi];exact .inr ⟨rfl,_,_,rfl,hi⟩
 unfold Cb Kn
 by_cases hx:([48,120]:Str).isPrefixOf l=true
 ·rw[if_pos hx,if_pos hx]
  by_cases hh:Pv (l.drop 2)≠[]
  ·rw[if_pos hh]
   exact num 16 _ _ rfl hh
  ·rw[if_neg hh]
   have hh:Pv (l.drop 2)=[]:=by simpa using hh
   have e1:AU 16 (l.drop 2)=none:=by unfold AU;rw[if_pos (show uN 16 (l.drop 2)=[] from hh)]
   rw[e1]
   refine .inl ?_
   obtain⟨t,rfl⟩:=List.isPrefixOf_iff_prefix.1 hx
   have ed:IP ([48,120]++t)=[48]:=rfl
   unfold GO fl
   rw[ed]
   rfl
 ·rw[if_neg hx,if_neg hx]
  unfold GO
  rw[dg]
  by_cases hd:IP l≠[]
  ·rw[if_pos hd,if_pos hd]
   exact num 10 _ _ rfl hd
  ·rw[if_neg hd,if_neg hd];exact .inl rfl
theorem Uh {g g' m m':PF}(hg:∀ l,Rl (g l) (g' l)) (hm:∀ l,Rl (m l) (m' l)) (l:Str):Rl (sq g m l) (Eg g' m' l):=by
 unfold sq Eg
 split
 ·exact hg _
 split
 ·exact hm _
 split
 ·exact .inl rfl
 ·exact abe _
theorem Yc {t t':PF}(ht:∀ l,Rl (t l) (t' l)) (l:Str):Rl (gU t l) (gU t' l):=by
 unfold gU
 rcases ht l with e|⟨e1,x,l1,e2,e3⟩
 ·rw[e];exact .inl rfl
 ·rw[e1,e2]
  refine .inl ?_
  simp only
  rw[Dz e3,if_neg]
  obtain⟨c,t,rfl,hc⟩:=DD e3
  have:=(Io c.toNat c.toNat_lt hc).2.1
  simp only[List.isPrefixOf,Bool.and_true,beq_iff_eq]
  intro e;subst e;exact this rfl
theorem Zm {o o':PF}(ho:∀ l,Rl (o l) (o' l)) (l:Str):Rl (eS o l) (eS o' l):=by
 unfold eS
 rcases ho l with e|⟨e1,x,l1,e2,e3⟩
 ·rw[e];exact .inl rfl
 ·rw[e1,e2];exact .inr ⟨rfl,_,_,rfl,e3⟩
theorem Sf:∀ (d:Nat) (l:Str),Rl (CD d l) (QI d l)
 | 0,l=>Uh (fun _=>.inl rfl) (fun _=>.inl rfl) l
 | d+1,l=>Uh (Yc (R8 (Sf d) 5 (Nat.le_refl _))) (Zm (Sf d)) l
theorem UQ (l:Str):Du l=hO l:=by
 unfold Du hO
 rcases R8 (Sf 12) 5 (Nat.le_refl _) l with e|⟨e1,x,l1,e2,e3⟩
 ·rw[e];cases hQ (QI 12) 5 l<;>rfl
 ·rw[e1,e2]
  simp only
  rw[Dz e3,if_neg]
  intro e;subst e;exact e3 rfl
theorem Hs (base:Nat):ja (AU base):=fun l x l' e=>by
 unfold AU at e
 split at e
 ·cases e
 ·split at e
  ·cases e
  ·cases e;simp
theorem P4:ja Kn:=fun l x l' e=>by
 unfold Kn at e
 split at e
 ·have:=Hs 16 _ _ _ e;simp at this;omega
 split at e
 ·exact Hs 10 _ _ _ e
 ·unfold IT at e
  split at e
  ·cases e;simp
  ·cases e
theorem Ej {group minus:PF}(hg:ja group) (hm:ja minus):ja (Eg group minus):=fun l x l' e=>by
 have hb:(blk l).length≤l.length:=nN 32 l
 unfold Eg at e
 split at e
 ·have:=hg _ _ _ e;simp at this;omega
 split at e
 ·have:=hm _ _ _ e;simp at this;omega
 split at e
 ·cases e;simp;omega
 ·have:=P4 _ _ _ e;omega
theorem Nb {one:PF}(h1:ja one):ja (eS one):=fun l x l' e=>by
 unfold eS at e
 split at e
 ·cases e
 ·rename_i y l1 h
  cases e;exact h1 _ _ _ h
theorem vD:∀ d,ja (QI d)
 | 0=>Ej (fun l x l' e=>by cases e) fun l x l' e=>by cases e
 | d+1=>Ej (BL (qH (vD d) 5 (Nat.le_refl _))) (Nb (vD d))
theorem QG:∀ (d D:Nat),D+d=12→wi df [] D (QI d)
 | 0,D,h=>by
   have:D=12:=by omega
   subst this
   exact Kw (GW true) (GW false)
 | d+1,D,h=>by
   have i1:=QG d (D+1) (by omega)
   have i2:wi cG [I 0] (D+1) (hQ (QI d) 5):=Gl i1 (vD d) 5 (Nat.le_refl _)
   exact Kw (V6 i2 (by omega)) (Uv i1 (by omega))
theorem Ma (l:Str) (hs:l.length<1000000000) (k1:∀ x,hO l=some x→∀ h',Fr [] h h'→Q (.tup [.agg (br x),B true]) h') (k0:hO l=none→∀ h',Fr [] h h'→Q (.tup [.agg zE,B false]) h'):C sV [T l] h Q:=by
 rw[← UQ]at k1 k0
 refine IY _ _ _ ?_
 unfold IC
 refine aM (St.start h) fun q h1 s1=>?_
 refine aD rfl ?_
 refine bB s1 rfl fun i h2 s2=>?_
 have s2:St h [] h2 [(i,true,rO l 0 0 false),(q,true,.cells zE)]:=s2
 refine Gl (QG 12 0 rfl) (vD 12) 5 (Nat.le_refl _) l 0 h2 _ i hs (Nat.zero_le _) (s2.get (.head _)) ⟨fun x p' h3 hp' hm f3 e3=>?_,fun cs p' h3 hp' hm f3 e3 hc ho=>?_⟩
 ·have s3:=s2.call1 f3 e3 .head
  rw[List.drop_zero]at hm
  refine aM s3 fun q5 h4 s4=>?_
  refine aN s4 bc (aw _) (aV _) .head fun h5 s5=>?_
  refine MI hs (s5.get (.tail _ (.head _))) hp' fun p2 h6 hp2 hd f6 e6=>?_
  have s6:=s5.call1 f6 e6 (.tail .head)
  have hp:Du l=if blk (l.drop p')=[] then some x else none:=by unfold Du;rw[hm]
  rw[← hd]at hp
  refine au (aj (ag s6 (.tail _ (.head _)) rfl (ah (fun h=>by cases h) (fun _=>?_))))
  refine au (aj (ag s6 (.tail _ (.head _)) rfl (aZ (aJ ?_))))
  refine ah (fun b1=>?_) (fun b1=>?_)<;>simp only[za,zb,zc,zd,ze,zf,zg,zh,zi,u8i,zj,zk,zl]at b1
  ·have hne:¬ l.drop p2=[]:=fun h=>by have:=congrArg List.length h;simp at this;omega
   rw[if_neg hne]at hp
   refine aD rfl ?_
   refine aN s6 bc rfl rfl (.tail (.tail .head)) fun h7 s7=>?_
   refine aL s7 rfl (.tail _ (.tail _ (.head _))) ?_
   exact k0 hp _ s7.fr
  ·have he:l.drop p2=[]:=List.drop_of_length_le (by omega)
   rw[if_pos he]at hp
   refine aL s6 (aw _) (.head _) ?_
   refine aN s6 bc (aw _) (aV _) (.tail (.tail .head)) fun h7 s7=>?_
   refine aL s7 (aw _) (.tail _ (.tail _ (.head _))) ?_
   exact k1 x hp _ s7.fr
 ·have s3:=s2.call1 f3 e3 .head
  rw[List.drop_zero]at hm
  have hp:Du l=none:=by unfold Du;rw[hm]
  refine aM s3 fun q5 h4 s4=>?_
  refine aN s4 bc hc ho .head fun h5 s5=>?_
  refine MI hs (s5.get (.tail _ (.head _))) hp' fun p2 h6 hp2 hd f6 e6=>?_
  have s6:=s5.call1 f6 e6 (.tail .head)
  refine au (aj (ag s6 (.tail _ (.head _)) rfl (ah (fun _=>?_) (fun h=>by cases h))))
  refine aD rfl ?_
  refine aN s6 bc rfl rfl (.tail (.tail .head)) fun h7 s7=>?_
  refine aL s7 rfl (.tail _ (.tail _ (.head _))) ?_
  exact k0 hp _ s7.fr
end
end
end Go.Proofs.YtgkmmcdhhkllnaaGreatDoor.AL

namespace Go.Proofs.YtgkmmcdhhkllnaaGreatDoor.AL
noncomputable section
def m8:Nat→Nat→Str
 | 0,_=>[]
 | f+1,n=>if n<10 then [UInt8.ofNat (48+n)] else m8 f (n / 10)++m8 f (n%10)
theorem ul:∀ f n,(m8 f n).length≤2^f
 | 0,_=>by simp[m8]
 | f+1,n=>by
   have h1:=ul f (n / 10)
   have h2:=ul f (n%10)
   have:1≤2^f:=Nat.one_le_two_pow
   unfold m8
   split
   ·simp[Nat.pow_succ];omega
   ·rw[List.length_append,Nat.pow_succ];omega
section
variable [Tabs]
variable {h:ae}{Q:QT}{K:AV→Prop}
theorem UH {c:Int}(k:K (T [UInt8.ofNat c.toNat])):qr (.full 1 [.lit (.int .u8 c)]) h K:=⟨k⟩
theorem yU:∀ (f n:Nat),n<10^(f+1)→f≤9→∀ (h:ae) (Q:QT),(∀ h',Fr [] h h'→Q (T (m8 (f+1) n)) h')→C du [I (n:Nat)] h Q
 | f,n,hn,hf,h,Q,k=>by
   refine xn _ _ _ ?_
   unfold xI
   have hp:(10:Nat)^(f+1)≤10^10:=Nat.pow_le_pow_right (by decide) (by omega)
   have hpw:(10:Nat)^(f+1)=10^f*10:=Nat.pow_succ ..
   unfold m8 at k
   refine aJ ?_
   refine ah (fun hb=>(by exfalso;first|(simp at hb;done)|(simp at hb;omega)|(revert hb;decide)|omega)) (fun _=>?_)
   refine bz ?_
   refine ah (fun hb=>?_) (fun hb=>?_)<;>simp only[za,zb,zc,zd,ze,zf,zg,zh,zi,u8i,zj,zk,zl]at hb
   ·have hb:10≤n:=by omega
    rw[if_neg (by omega)]at k
    obtain⟨f,rfl⟩:∃ g,f=g+1:=by
     cases f with
     | zero=>simp at hn;omega
     | succ g=>exact⟨g,rfl⟩
    refine nY (by decide) ?_ ?_
    ·rw[Int.tdiv_eq_ediv_of_nonneg (by omega)];omega
    rw[Int.tdiv_eq_ediv_of_nonneg (by omega),show ((n:Nat):Int) / 10=((n / 10:Nat):Int) by omega]
    refine yU f (n / 10) (by omega) (by omega) h _ fun h1 f1=>?_
    refine mJ (by decide) ?_
    rw[Int.tmod_eq_emod_of_nonneg (by omega),show ((n:Nat):Int)%10=((n%10:Nat):Int) by omega]
    have h10:10≤10^(f+1):=by rw[Nat.pow_succ];have:=Nat.one_le_pow f 10 (by decide);omega
    refine yU f (n%10) (by omega) (by omega) h1 _ fun h2 f2=>?_
    have l1:=ul (f+1) (n / 10)
    have l2:=ul (f+1) (n%10)
    have l3:2^(f+1)≤2^10:=Nat.pow_le_pow_right (by decide) (by omega)
    refine d3 (by omega) ?_
    exact k h2 (f1.trans f2 (by simp))
   ·have hb:n<10:=by omega
    rw[if_pos hb]at k
    refine aI (by omega) ?_
    refine ew ?_
    refine aB rfl rfl ?_
    have hw:IntKind.u8.wrap (48+(n:Nat))=((48+n:Nat):Int):=by
     have:n=0∨n=1∨n=2∨n=3∨n=4∨n=5∨n=6∨n=7∨n=8∨n=9:=by omega
     rcases this with h|h|h|h|h|h|h|h|h|h<;>subst h<;>decide
    rw[hw]
    refine UH ?_
    exact k h (Fr.refl _ _)
end
end
end Go.Proofs.YtgkmmcdhhkllnaaGreatDoor.AL
namespace Go.Proofs.YtgkmmcdhhkllnaaGreatDoor.AL
noncomputable section
theorem pZ (a:Int) {n:Int}(hn:0<n):(a.tmod n<0→a.tmod n+n=a%n)∧(¬ a.tmod n<0→a.tmod n=a%n):=by
 have h1:=Int.tmod_lt_of_pos a hn
 have h0:=Int.emod_nonneg a (show n≠0 by omega)
 have h4:=Int.emod_lt_of_pos a hn
 have h3:(a.tmod n=a%n∧0≤a.tmod n)∨(a.tmod n=a%n-n∧a.tmod n<0):=by
  rw[Int.tmod_eq_emod]
  have hab:(n.natAbs:Int)=n:=by omega
  split
  ·exact .inl ⟨by omega,by omega⟩
  ·right;rw[hab];exact⟨rfl,by omega⟩
 omega
theorem FK {a n:Int}(ha:inI a) (hn:0<n):-n≤a.tmod n∧a.tmod n<n:=by
 have h1:=Int.tmod_lt_of_pos a hn
 have h0:=Int.emod_nonneg a (show n≠0 by omega)
 have h2:=pZ a hn
 by_cases h:a.tmod n<0
 ·have:=h2.1 h;omega
 ·omega
theorem cF {a n:Int}(hn:0<n):0≤a%n∧a%n<n:=⟨Int.emod_nonneg a (by omega),Int.emod_lt_of_pos a hn⟩
inductive RE where
 | mk (k n:Int) (l:List RE)
mutual
def xrE:RE→List AV
 | .mk k n l=>[I k,I n,.snap l.length (xrL l)]
def xrL:List RE→List AV
 | []=>[]
 | r::l=>xrE r++xrL l
end
mutual
def okR:RE→Prop
 | .mk k n l=>inI k∧inI n∧l.length≤9223372036854775807∧Fu l
def Fu:List RE→Prop
 | []=>True
 | r::l=>okR r∧Fu l
end
mutual
def Fs:RE→Nat
 | .mk _ _ l=>1+sZ l
def sZ:List RE→Nat
 | []=>0
 | r::l=>Fs r+sZ l
end
theorem L4:∀ l,xrL l=l.flatMap xrE
 | []=>by simp[xrL]
 | r::l=>by simp[xrL,L4 l]
theorem uS (r:RE):(xrE r).length=3:=by cases r;simp[xrE]
theorem Cs:∀ {l:List RE},Fu l→∀ r∈l,okR r
 | r::l,h,x,hx=>by
   simp only[Fu]at h
   rcases List.mem_cons.1 hx with rfl|hx
   ·exact h.1
   ·exact Cs h.2 x hx
theorem JO:∀ (l:List RE) (j:Nat) (hj:j<l.length),sZ (l.take (j+1))=sZ (l.take j)+Fs l[j]
 | r::l,0,_=>by simp[sZ]
 | r::l,j+1,hj=>by
   simp only[List.take_succ_cons,sZ,List.getElem_cons_succ]
   rw[JO l j (by simpa using hj)];omega
theorem Gm:∀ {l:List RE}{r:RE},r∈l→Fs r≤sZ l
 | x::l,r,h=>by
   simp only[sZ]
   rcases List.mem_cons.1 h with rfl|h
   ·omega
   ·have:=Gm h;omega
def RE.kids:RE→List RE|.mk _ _ l=>l
theorem DH (r:RE):Fs r=1+sZ r.kids:=by cases r;simp[Fs,RE.kids]
structure RW where
 K:Int
 A:Int
 B:Int
 ns:List Int
 E:List RE
 L:Bool
def rwE (r:RW):List AV:=[I r.K,I r.A,I r.B,.snap r.ns.length (r.ns.flatMap fun n=>[I n]),.snap r.E.length (xrL r.E),.lit (.bool r.L)]
def okW (r:RW):Prop:=inI r.K∧inI r.A∧inI r.B∧(∀ n∈r.ns,inI n)∧r.ns.length≤9223372036854775807∧r.E.length≤9223372036854775807∧Fu r.E
def ML (r:RW):Prop:=sZ r.E≤16∧r.ns.length≤60
section
variable [Tabs]
variable {h h0:ae}{Q:QT}
theorem fo {a n:Int}(hn:0<n) (hn2:n≤1000000000000000000) (ha:inI a) (k:Q (I (a%n)) h):C dF [I a,I n] h Q:=by
 refine GQ _ _ _ _ ?_
 unfold Ei
 refine mJ (by omega) ?_
 refine aJ (ah (fun hb=>?_) (fun hb=>?_))
 ·have hb:=of_decide_eq_true hb
  refine aI (by have:=FK ha hn;omega) ?_
  rw[(pZ a hn).1 hb];exact k
 ·have hb:=of_decide_eq_false hb
  rw[(pZ a hn).2 hb];exact k
theorem me {a n:Int}(hn:0<n) (hn2:n≤1000000000000000000) (ha:inI a) (k:Q (I (a%n)) h):C gN [I a,I n] h Q:=by
 refine GC _ _ _ _ ?_
 unfold Eb
 refine mJ (by omega) ?_
 refine aJ (ah (fun hb=>?_) (fun hb=>?_))
 ·have hb:=of_decide_eq_true hb
  refine aI (by have:=FK ha hn;omega) ?_
  rw[(pZ a hn).1 hb];exact k
 ·have hb:=of_decide_eq_false hb
  rw[(pZ a hn).2 hb];exact k
theorem bn {a n:Int}(hn:0<n) (hn2:n≤1000000000000000000) (ha:inI a) (k:Q (I (a%n)) h):C aW [I a,I n] h Q:=by
 refine Ga _ _ _ _ ?_
 unfold Et
 refine mJ (by omega) ?_
 refine aJ (ah (fun hb=>?_) (fun hb=>?_))
 ·have hb:=of_decide_eq_true hb
  refine aI (by have:=FK ha hn;omega) ?_
  rw[(pZ a hn).1 hb];exact k
 ·have hb:=of_decide_eq_false hb
  rw[(pZ a hn).2 hb];exact k
theorem Vk (l:List RE):Row xrE 3 h (.snap l.length (xrL l)) l:=by rw[L4];exact Row.snap uS l
theorem Og:∀ (f d:Nat),d+f=8→∀ (l:List RE) (v:AV),l.length≤9223372036854775807→Fu l→∀ (h:ae) (Q:QT),Row xrE 3 h v l→(∀ n:Nat,n≤1000+17*f→(n≤16→sZ l≤n)→Q (I (n:Nat)) h)→C qf [v,I (d:Nat)] h Q
 | 0,d,hd,l,v,hl,ho,h,Q,r,k=>by
   refine Bo _ _ _ _ ?_
   unfold DM
   refine bD (ah (fun _=>?_) (fun hb=>?_))
   ·exact k 1000 (by omega) (by omega)
   ·have:=of_decide_eq_false hb;omega
 | f+1,d,hd,l,v,hl,ho,h,Q,r,k=>by
   refine Bo _ _ _ _ ?_
   unfold DM
   refine bD (ah (fun hb=>?_) (fun hb=>?_))
   ·have:=of_decide_eq_true hb;omega
   refine aQ (fun m vs h'=>∃ j n:Nat,vs=[I (n:Nat),I (j:Nat)]∧m+j=l.length∧n≤1000+17*(f+1)∧(n≤16→sZ (l.take j)≤n)∧h'=h) l.length ⟨0,0,rfl,by omega,by omega,by simp[sZ],rfl⟩ ?_
   rintro m vs h' ⟨j,n,rfl,hm,hn,hs,rfl⟩
   unfold Bi
   refine r.len (aJ (ah (fun hb=>?_) (fun hb=>?_)))
   ·have hj:j<l.length:=by have:=of_decide_eq_true hb;omega
    refine fK (ah (fun hc=>?_) (fun hc=>?_))
    ·have hc:n≤16:=by have:=of_decide_eq_true hc;omega
     refine aI (by omega) ?_
     refine r.idx uS hj fun p t=>?_
     have hr:=Cs ho _ (List.getElem_mem hj)
     have hnt:=JO l j hj
     have hk:=DH l[j]
     cases hx:l[j] with
     | mk a b ls=>
       rw[hx]at t hr hnt hk
       simp only[okR]at hr
       unfold xrE at t
       refine x5 t (by simp) fun q t=>?_
       refine aK t ?_
       refine aI (by omega) ?_
       refine Og f (d+1) (by omega) ls _ hr.2.2.1 hr.2.2.2 _ _ (Vk ls) fun m2 h1 h2=>?_
       refine aI (by omega) ?_
       refine aI (by omega) ?_
       refine⟨m-1,by omega,j+1,n+1+m2,rfl,by omega,by omega,fun h3=>?_,rfl⟩
       rw[hnt,hk]
       simp only[RE.kids]
       have:=h2 (by omega)
       have:=hs hc
       omega
    ·have hc:¬ n≤16:=by have:=of_decide_eq_false hc;omega
     exact k n hn fun h=>absurd h hc
   ·have hj:l.length≤j:=by have:=of_decide_eq_false hb;omega
    refine k n hn fun h3=>?_
    have:=hs h3
    rwa [List.take_of_length_le hj]at this
theorem aaI {l:List RE}{v:AV}(hl:l.length≤9223372036854775807) (ho:Fu l) (r:Row xrE 3 h v l) (k:∀ b,(b=true→sZ l≤16)→Q (B b) h):C xC [v] h Q:=by
 refine OU _ _ _ ?_
 unfold OD
 refine Og 8 0 rfl l v hl ho h _ r fun n h1 h2=>?_
 refine fK (k _ fun hb=>?_)
 have:=of_decide_eq_true hb
 have:=h2 (by omega)
 omega
theorem rK (r:RW):(rwE r).length=6:=rfl
theorem aas {l:List RW}{v:AV}(hl:l.length≤9223372036854775807) (ho:∀ r∈l,okW r) (r:Row rwE 6 h v l) (k1:(∀ r∈l,ML r)→Q (B true) h) (k0:Q (B false) h):C ya [v] h Q:=by
 refine Pk _ _ _ ?_
 unfold QL
 refine aQ (fun m vs h'=>∃ (j:Nat) (x:AV),vs=[x,I (j:Nat)]∧m+j=l.length∧(∀ r∈l.take j,ML r)∧h'=h) l.length ⟨0,_,rfl,by omega,by simp,rfl⟩ ?_
 rintro m vs h' ⟨j,x,rfl,hm,hs,rfl⟩
 unfold Eu
 refine r.len (aJ (ah (fun hb=>?_) (fun hb=>?_)))
 ·have hj:j<l.length:=by have:=of_decide_eq_true hb;omega
  have hw:=ho _ (List.getElem_mem hj)
  refine r.idx rK hj fun p t=>?_
  unfold rwE at t
  refine x5 t (by simp) fun q t=>?_
  refine aK t ?_
  refine aaI hw.2.2.2.2.2.1 hw.2.2.2.2.2.2 (Vk _) fun b hb=>?_
  refine bm (ah (fun _=>k0) (fun hb2=>?_))
  have hb:=hb (by simpa using hb2)
  refine r.idx rK hj fun p t=>?_
  unfold rwE at t
  refine x5 t (by simp) fun q t=>?_
  refine aK t (cz ?_)
  refine bD (ah (fun _=>k0) (fun hc=>?_))
  have hc:=of_decide_eq_false hc
  refine aI (by omega) ?_
  refine⟨m-1,by omega,j+1,_,rfl,by omega,fun r hr=>?_,rfl⟩
  rw[List.take_succ_eq_append_getElem hj,List.mem_append]at hr
  rcases hr with hr|hr
  ·exact hs r hr
  ·simp at hr;subst hr;exact⟨hb,by omega⟩
 ·have hj:l.length≤j:=by have:=of_decide_eq_false hb;omega
  rw[List.take_of_length_le hj]at hs
  exact k1 hs
end
end
end Go.Proofs.YtgkmmcdhhkllnaaGreatDoor.AL
namespace Go.Proofs.YtgkmmcdhhkllnaaGreatDoor.AL
noncomputable section
def okX:Ex→Prop
 | .none=>False
 | .num n=>n<4294967296
 | .name s=>s.length≤12
 | .here=>True
 | .neg e=>okX e
 | .bin k a b=>(5≤k∧k≤11)∧okX a∧okX b
section
variable [Tabs]
variable {h h0:ae}{Q:QT}{K:AV→Prop}
theorem yH (l:List Int) {P:Int→Prop}(hP:∀ x∈l,P x) {n:Nat}(hn:l.length=n) {j:Int}(hj:0≤j∧j<n) (k:∀ x,P x→K (I x)):an 1 (.full n (l.map I)) (I j) fun p=>af p h K:=by
 obtain⟨i,rfl⟩:=Int.eq_ofNat_of_zero_le hj.1
 have hi:i<l.length:=by omega
 have r:Row (fun x:Int=>[I x]) 1 h (.full n (l.map I)) l:=by
  have e:l.map I=l.flatMap fun x:Int=>[I x]:=by
   clear hn hP hi
   induction l<;>simp_all
  rw[e,← hn];exact Row.full (enc:=fun x:Int=>[I x]) (sz:=1) (fun _=>rfl) l
 refine r.idx (fun _=>rfl) hi fun p t=>?_
 exact aK t (k _ (hP _ (List.getElem_mem hi)))
theorem yQ (l:List Str) {P:Str→Prop}(hP:∀ x∈l,P x) {n:Nat}(hn:l.length=n) {j:Int}(hj:0≤j∧j<n) (k:∀ x,P x→K (T x)):an 1 (.full n (l.map T)) (I j) fun p=>af p h K:=by
 obtain⟨i,rfl⟩:=Int.eq_ofNat_of_zero_le hj.1
 have hi:i<l.length:=by omega
 have r:Row sE 1 h (.full n (l.map T)) l:=by
  have e:l.map T=l.flatMap sE:=by
   clear hn hP hi
   induction l with
   | nil=>rfl
   | cons x l ih=>rw[List.map_cons,List.flatMap_cons,ih];rfl
  rw[e,← hn];exact Row.full (enc:=sE) (sz:=1) (fun _=>rfl) l
 refine r.idx (fun _=>rfl) hi fun p t=>?_
 exact aK t (k _ (hP _ (List.getElem_mem hi)))
omit [Tabs] in
theorem Ol (n:Int):inI (IntKind.i64.wrap n):=by unfold inI;rw[IntKind.wrap_i64];omega
theorem J1 (x:List AV):[AV.agg x].flatMap (·.cells)=x:=by simp[AV.cells]
theorem abp (x y:List AV):[AV.agg x,AV.agg y].flatMap (·.cells)=x++y:=by simp[AV.cells]
def SM (r:RE):Prop:=∀ (h:ae) (Q:QT),(∀ e h',okX e→bo e≤3*Fs r→Fr [] h h'→Q (.agg (br e)) h')→C jY [.agg (xrE r)] h Q
def EP (l:List RE) (i:Nat):Nat:=if hi:i<l.length then 3*Fs l[i] else 1
theorem Gb {k n:Int}{l:List RE}{i:Nat}(hi:i<5) (ho:okR (.mk k n l)) (hM:∀ r∈l,SM r) (q:∀ e h',okX e→bo e≤EP l i→Fr [] h h'→Q (.agg (br e)) h'):C g9 [.agg (xrE (.mk k n l)),I (i:Nat)] h Q:=by
 refine Da _ _ _ _ ?_
 unfold zU
 simp only[okR]at ho
 refine bB (St.start h) rfl fun j1 h1 s1=>?_
 have s1:St h [] h1 [(j1,true,.cells [I k,I n,.snap l.length (xrL l)])]:=by simpa [AV.cells,xrE] using s1
 refine aM s1 fun j2 h2 s2=>?_
 refine aj (ag s2 (.tail _ (.head _)) (a:=.snap l.length (xrL l)) rfl (cz ?_))
 refine aJ (ah (fun hb=>?_) (fun hb=>?_))
 ·have hj:i<l.length:=by have:=of_decide_eq_true hb;omega
  refine aj (ag s2 (.tail _ (.head _)) (a:=.snap l.length (xrL l)) rfl ?_)
  have RL:Row xrE 3 h2 (.snap l.length (xrL l)) l:=Vk l
  refine RL.idx uS hj fun p t=>?_
  refine bq t (uS _).symm ?_
  refine hM _ (List.getElem_mem hj) _ _ fun e h3 he hs f3=>?_
  have s3:=s2.call f3
  refine aN s3 rfl (aw e) (aV e) .head fun h4 s4=>?_
  refine aL s4 (aw e) (.head _) ?_
  exact q e _ he (by unfold EP;rw[dif_pos hj];exact hs) s4.fr
 ·refine aj (ag s2 (.tail _ (.head _)) (a:=I n) rfl (Ub ?_))
  refine me (by decide) (by decide) (Ol _) ?_
  have hm:=cF (a:=IntKind.i64.wrap (n+(i:Nat))) (n:=5) (by decide)
  obtain⟨m,hmm⟩:=Int.eq_ofNat_of_zero_le hm.1
  rw[hmm]
  refine aD rfl ?_
  refine aN s2 rfl (aw (.num m)) (aV (.num m)) .head fun h4 s4=>?_
  refine aL s4 (aw (.num m)) (.head _) ?_
  refine q (.num m) _ (by show m<_;omega) ?_ s4.fr
  unfold EP
  split
  ·have:=DH l[i];simp[bo];omega
  ·simp[bo]
def ac9:List Int:=[0,1,2,255,65536,4294967295,40,7]
def ab6:List Str:=[[98,97,115,101],[120],[101,110,100,95,49],[114]]
theorem O4:∀ (N:Nat) (r:RE),Fs r≤N→okR r→SM r
 | 0,r,hN,_,h,Q,q=>by have:=DH r;omega
 | N+1,.mk k n l,hN,ho,h,Q,q=>by
   have hM:∀ r∈l,SM r:=fun r hr=>O4 N r (by have:=Gm hr;simp only[Fs]at hN;omega) (Cs (by simp only[okR]at ho;exact ho.2.2.2) r hr)
   have ho':=ho
   simp only[okR]at ho
   have hnE:Fs (.mk k n l)=1+sZ l:=by simp[Fs]
   have hp0:EP l 0≤1+3*sZ l∧EP l 1≤1+3*sZ l∧EP l 0+EP l 1≤2+3*sZ l:=by
    unfold EP
    match l with
    | []=>simp
    | [a]=>simp[sZ];omega
    | a::b::l=>simp[sZ];omega
   refine D5 _ _ _ ?_
   unfold zy
   refine bB (St.start h) rfl fun j1 h1 s1=>?_
   have s1:St h [] h1 [(j1,true,.cells [I k,I n,.snap l.length (xrL l)])]:=by simpa [AV.cells,xrE] using s1
   refine aM s1 fun j2 h2 s2=>?_
   have fin:∀ (e:Ex) (h3:ae),okX e→bo e≤3*Fs (.mk k n l)→St h [] h3 [(j2,true,.cells [I 0,I 0,S ⟨#[]⟩,.full 0 []]),(j1,true,.cells [I k,I n,.snap l.length (xrL l)])]→
     ak 4 (.ptr j2 0) (.agg (br e)) h3 fun h4=>ap 4 (.ptr j2 0) h4 fun r=>Q r h4:=fun e h3 he hs s3=>by
    refine aN s3 rfl (aw e) (aV e) .head fun h4 s4=>?_
    refine aL s4 (aw e) (.head _) ?_
    exact q e _ he hs s4.fr
   refine aj (ag s2 (.tail _ (.head _)) (a:=I k) rfl ?_)
   refine me (by decide) (by decide) ho.1 ?_
   have hk:=cF (a:=k) (n:=18) (by decide)
   obtain⟨c,hc⟩:=Int.eq_ofNat_of_zero_le hk.1
   rw[hc]at hk ⊢
   refine aJ (ah (fun hb=>?_) (fun hb=>?_))
   ·refine aB rfl rfl ?_
    refine aj (ag s2 (.tail _ (.head _)) (a:=I n) rfl ?_)
    refine me (by decide) (by decide) ho.2.1 ?_
    refine yH ac9 (P:=fun x=>0≤x∧x≤4294967295) (by decide) rfl (cF (by decide)) fun x hx=>?_
    obtain⟨m,rfl⟩:=Int.eq_ofNat_of_zero_le hx.1
    refine aD rfl ?_
    exact fin (.num m) _ (by show m<_;omega) (by simp[bo];omega) s2
   refine aJ (ah (fun hb=>?_) (fun hb=>?_))
   ·refine aj (ag s2 (.tail _ (.head _)) (a:=I n) rfl ?_)
    refine I4 _ _ ?_
    unfold Gz
    refine aB rfl rfl ?_
    refine⟨ag s2 (.tail _ (.head _)) (a:=I n) rfl rfl,?_⟩
    refine me (by decide) (by decide) ho.2.1 ?_
    refine yQ ab6 (P:=fun x=>x.length≤12) (by decide) rfl (cF (by decide)) fun x hx=>?_
    refine aD rfl ?_
    exact fin (.name x) _ hx (by simp[bo];omega) s2
   refine aA (ah (fun hb=>?_) (fun hb=>?_))
   ·refine aD rfl ?_
    exact fin .here _ trivial (by simp[bo];omega) s2
   refine aJ (ah (fun hb2=>?_) (fun hb2=>?_))
   ·refine aF s2 (.tail _ (.head _)) (nle rfl) ?_
    refine Gb (k:=k) (n:=n) (l:=l) (i:=0) (by decide) ho' hM fun e h3 he hs f3=>?_
    refine aB rfl (by simp[AV.isTup,AV.cells,aw]) ?_
    rw[J1]
    refine aD (cs:=br (.neg e)) rfl ?_
    refine fin (.neg e) _ he (by simp[bo];omega) (s2.call f3)
   ·have c11:11≤c:=by
     have h1:=of_decide_eq_false hb2
     omega
    refine aI (by omega) (cD (by omega) ?_)
    rw[show (5:Int)+(c:Nat)-11=((c-6:Nat):Int) by omega]
    refine aF s2 (.tail _ (.head _)) (nle rfl) ?_
    refine aF s2 (.tail _ (.head _)) (nle rfl) ?_
    refine Gb (k:=k) (n:=n) (l:=l) (i:=0) (by decide) ho' hM fun e h3 he hs f3=>?_
    have s3:=s2.call f3
    refine⟨aF s3 (.tail _ (.head _)) (nle rfl) rfl,?_⟩
    refine Gb (k:=k) (n:=n) (l:=l) (i:=1) (by decide) ho' hM fun e2 h4 he2 hs2 f4=>?_
    refine aB rfl (by simp[AV.isTup,AV.cells,aw]) ?_
    rw[abp]
    refine aD (cs:=br (.bin (c-6) e e2)) rfl ?_
    refine fin (.bin (c-6) e e2) _ ⟨⟨by omega,by omega⟩,he,he2⟩ (by simp[bo];omega) (s3.call f4)
theorem L1 {l:List RE}{v:AV}(ho:Fu l) (r:Row xrE 3 h v l) (q:∀ e h',okX e→bo e≤1+3*sZ l→Fr [] h h'→Q (.agg (br e)) h'):C oY [v] h Q:=by
 refine Oc _ _ _ ?_
 unfold OE
 refine aM (St.start h) fun j2 h2 s2=>?_
 refine (r.fr s2.fr).len (aA (ah (fun hb=>?_) (fun hb=>?_)))
 ·refine aD rfl ?_
  refine aN s2 rfl (aw (.num 1)) (aV (.num 1)) .head fun h4 s4=>?_
  refine aL s4 (aw (.num 1)) (.head _) ?_
  exact q (.num 1) _ (by show 1<_;decide) (by simp[bo]) s4.fr
 ·have hj:0<l.length:=by have:=of_decide_eq_false hb;omega
  refine (r.fr s2.fr).idx uS (j:=0) hj fun p t=>?_
  refine bq t (uS _).symm ?_
  refine O4 _ l[0] (Nat.le_refl _) (Cs ho _ (List.getElem_mem hj)) _ _ fun e h3 he hs f3=>?_
  have s3:=s2.call f3
  refine aN s3 rfl (aw e) (aV e) .head fun h4 s4=>?_
  refine aL s4 (aw e) (.head _) ?_
  exact q e _ he (by have:=Gm (List.getElem_mem hj);omega) s4.fr
end
end
end Go.Proofs.YtgkmmcdhhkllnaaGreatDoor.AL
namespace Go.Proofs.YtgkmmcdhhkllnaaGreatDoor.AL
noncomputable section
theorem An:∀ f n,∀ c∈m8 f n,48≤c.toNat∧c.toNat≤57
 | 0,n,c,hc=>by simp[m8]at hc
 | f+1,n,c,hc=>by
   unfold m8 at hc
   split at hc
   ·rename_i h
    simp at hc
    subst hc
    have:n=0∨n=1∨n=2∨n=3∨n=4∨n=5∨n=6∨n=7∨n=8∨n=9:=by omega
    rcases this with h|h|h|h|h|h|h|h|h|h<;>subst h<;>decide
   ·rcases List.mem_append.1 hc with hc|hc
    ·exact An f _ c hc
    ·exact An f _ c hc
theorem EC (b:Nat):∀ (l m:Str) (n:Nat),qJ b (l++m) n=(qJ b l n).bind (qJ b m)
 | [],m,n=>rfl
 | c::l,m,n=>by
   simp only[List.cons_append,qJ]
   split
   ·rfl
   ·exact EC b l m _
theorem OQ:∀ f n,n<10^(f+1)→n<4294967296→qJ 10 (m8 (f+1) n) 0=some n
 | f,n,hf,hn=>by
   unfold m8
   split
   ·have:n=0∨n=1∨n=2∨n=3∨n=4∨n=5∨n=6∨n=7∨n=8∨n=9:=by omega
    rcases this with h|h|h|h|h|h|h|h|h|h<;>subst h<;>decide
   ·rename_i h
    obtain⟨f,rfl⟩:∃ g,f=g+1:=by
     cases f with
     | zero=>simp at hf;omega
     | succ g=>exact⟨g,rfl⟩
    have hpw:(10:Nat)^(f+1+1)=10^(f+1)*10:=Nat.pow_succ ..
    rw[EC,OQ f (n / 10) (by omega) (by omega)]
    have hd:n%10<10:=Nat.mod_lt _ (by decide)
    have hm:n / 10*10+n%10=n:=by omega
    show qJ 10 (m8 (f+1) (n%10)) (n / 10)=some n
    unfold m8
    rw[if_pos hd]
    have hv:pn (UInt8.ofNat (48+n%10))=n%10:=by
     generalize n%10=q at hd
     have:q=0∨q=1∨q=2∨q=3∨q=4∨q=5∨q=6∨q=7∨q=8∨q=9:=by omega
     rcases this with h|h|h|h|h|h|h|h|h|h<;>subst h<;>decide
    simp only[qJ,hv,hm]
    rw[if_neg (by omega)]
theorem Uk:∀ f n,n<10^(f+1)→m8 (f+1) n≠[]
 | 0,n,h=>by
   unfold m8
   rw[if_pos (by simpa using h)];simp
 | f+1,n,h=>by
   have hpw:(10:Nat)^(f+1+1)=10^(f+1)*10:=Nat.pow_succ ..
   unfold m8
   split
   ·simp
   ·simp[Uk f (n / 10) (by omega)]
theorem Lr {p:UInt8→Bool}:∀ {l:Str},(∀ x∈l,p x=true)→l.takeWhile p=l
 | [],_=>rfl
 | c::l,h=>by rw[List.takeWhile_cons,if_pos (h c (.head _)),Lr fun x hx=>h x (.tail _ hx)]
theorem XK (sub:PF) (j:Nat) (x:Ex):∀ n,eZ sub ((levelsL[4-j]?).getD []) n x []=some (x,[]):=by
 have hk:dC ((levelsL[4-j]?).getD []) []=(0,[]):=by
  have:4-j=0∨4-j=1∨4-j=2∨4-j=3∨4-j=4:=by omega
  rcases this with h|h|h|h|h<;>rw[h]<;>decide
 intro n
 cases n<;>simp[eZ,hk]
theorem Lx {one:PF}{s:Str}{x:Ex}(h:one s=some (x,[])):∀ r,hQ one r s=some (x,[])
 | 0=>h
 | r+1=>by
   unfold hQ
   rw[Lx h r]
   exact XK _ _ _ _
theorem QK {f n:Nat}(hf:n<10^(f+1)) (hn:n<4294967296) (g m:PF):sq g m (m8 (f+1) n)=some (.num n,[]):=by
 have hp:=An (f+1) n
 have hne:=Uk f n hf
 have hnum:=OQ f n hf hn
 generalize m8 (f+1) n=s at hp hne hnum
 match s,hne with
 | c::s,_=>
   have hc:=hp c (.head _)
   have hall:∀ x∈c::s,bu x.toNat=true:=fun x hx=>by
    have:=hp x hx;simp[bu];omega
   have hb:blk (c::s)=c::s:=by
    have:c≠32:=fun e=>by subst e;revert hc;decide
    simp[blk,iR,this]
   have hn:∀ (q:UInt8) (l:Str),q.toNat<48→(q::l).isPrefixOf (c::s)=false:=fun q l hq=>by
    have:q≠c:=fun e=>by subst e;omega
    simp[List.isPrefixOf,this]
   have h2:([48,120]:Str).isPrefixOf (c::s)=false:=by
    cases s with
    | nil=>simp[List.isPrefixOf]
    | cons d s=>
      have hd:=hp d (.tail _ (.head _))
      have:(120:UInt8)≠d:=fun e=>by subst e;revert hd;decide
      simp[List.isPrefixOf,this]
   have hw:IP (c::s)=c::s:=by
    unfold IP
    exact Lr hall
   unfold sq
   rw[hb,hn 40 [] (by decide),hn 45 [] (by decide),hn 46 [] (by decide)]
   unfold Cb GO
   rw[h2,hw]
   unfold fl
   rw[hnum]
   simp[gv]
theorem U3 {f n:Nat}(hf:n<10^(f+1)) (hn:n<4294967296):hO (m8 (f+1) n)=some (.num n):=by
 unfold hO
 rw[Lx (one:=CD 12) (QK hf hn _ _)]
 simp[blk,iR]
theorem WG {f n:Nat}(hf:n<10^(f+1)) (hn:n<4294967296):hO (45::m8 (f+1) n)=some (.neg (.num n)):=by
 unfold hO
 have h1:CD 12 (45::m8 (f+1) n)=some (.neg (.num n),[]):=by
  show sq (gU (hQ (CD 11) 5)) (eS (CD 11)) _=_
  unfold sq
  have hb:blk (45::m8 (f+1) n)=45::m8 (f+1) n:=by simp[blk,iR]
  rw[hb]
  have h40:([40]:Str).isPrefixOf (45::m8 (f+1) n)=false:=by simp[List.isPrefixOf]
  have h45:([45]:Str).isPrefixOf (45::m8 (f+1) n)=true:=by simp[List.isPrefixOf]
  rw[h40,h45]
  simp only[Bool.false_eq_true,if_false,if_true]
  show eS (CD 11) (m8 (f+1) n)=_
  unfold eS
  rw[show CD 11 (m8 (f+1) n)=_ from QK hf hn _ _]
 rw[Lx h1]
 simp[blk,iR]
section
variable [Tabs]
variable {h h0:ae}{Q:QT}{K:AV→Prop}
theorem Ls {x:Int}(hx:-4294967295≤x∧x≤4294967295) (q:∀ s h',s.length≤2000→(∃ e,hO s=some e∧okX e∧bo e≤2)→Fr [] h h'→Q (T s) h'):C du [I x] h Q:=by
 by_cases h0:0≤x
 ·obtain⟨n,rfl⟩:=Int.eq_ofNat_of_zero_le h0
  refine yU 9 n (by omega) (by decide) h Q fun h1 f1=>?_
  refine q _ _ (by have:=ul 10 n;show (m8 10 n).length≤2000;omega) ⟨_,U3 (f:=9) (by omega) (by omega),by show n<_;omega,by simp[bo]⟩ f1
 ·obtain⟨n,hn⟩:=Int.eq_ofNat_of_zero_le (show 0≤-x by omega)
  refine xn _ _ _ ?_
  unfold xI
  refine aJ (ah (fun _=>?_) (fun hb=>?_))
  ·refine cD (by omega) ?_
   rw[show 0-x=((n:Nat):Int) by omega]
   refine yU 9 n (by omega) (by decide) h _ fun h1 f1=>?_
   have:=ul 10 n
   refine d3 (by simp;omega) ?_
   exact q _ _ (by simp;omega) ⟨_,WG (f:=9) (n:=n) (by omega) (by omega),by show n<_;omega,by simp[bo]⟩ f1
  ·have:=of_decide_eq_false hb;omega
def Xi (N:Nat):Prop:=∀ (e:Ex),bo e≤N→okX e→∀ (h:ae) (Q:QT),(∀ s h',s.length≤2000*bo e→Fr [] h h'→Q (T s) h')→C mR [.agg (br e)] h Q
theorem Hb {N:Nat}(hT:Xi N) {e:Ex}(hs:bo e≤N) (hN:N≤1000000) (he:okX e) (q:∀ s h',s.length≤2000*bo e+2→Fr [] h h'→Q (T s) h'):C dt [.agg (br e)] h Q:=by
 refine BJ _ _ _ ?_
 unfold xH
 refine bB (St.start h) rfl fun i h1 s1=>?_
 have s1:St h [] h1 [(i,true,.cells (br e))]:=s1
 obtain⟨n,cs,hl⟩:∃ n cs,(br e)[3]?=some (.full n cs):=by cases e<;>exact⟨_,_,rfl⟩
 refine aj (ag s1 (.head _) hl (ef ?_))
 refine aA (ah (fun _=>?_) (fun _=>?_))
 ·refine aL s1 (aw e) (.head _) ?_
  refine hT e hs he _ _ fun s h2 hl f2=>?_
  refine d3 (by simp;omega) (d3 (by simp;omega) ?_)
  exact q _ _ (by simp;omega) (s1.call f2).fr
 ·refine aL s1 (aw e) (.head _) ?_
  refine hT e hs he _ _ fun s h2 hl f2=>?_
  exact q _ _ (by omega) (s1.call f2).fr
theorem PX:∀ N,N≤1000000→Xi N
 | 0,_,e,hs,_,_,_,_=>by cases e<;>simp[bo]at hs
 | N+1,hN,e,hs,he,h,Q,q=>by
   have hT:=PX N (by omega)
   refine LH _ _ _ ?_
   unfold Ka
   refine bB (St.start h) rfl fun i h1 s1=>?_
   have s1:St h [] h1 [(i,true,.cells (br e))]:=s1
   cases e with
   | none=>exact he.elim
   | num n=>
     have hn:n<4294967296:=he
     refine aj (ag s1 (.head _) (a:=I 1) rfl (aA (ah (fun _=>?_) (fun h=>by cases h))))
     refine aj (ag s1 (.head _) (a:=I (n:Nat)) rfl ?_)
     refine Ls (by omega) fun s h2 hl _ f2=>?_
     exact q _ _ (by simp[bo];omega) (s1.call f2).fr
   | name s=>
     have hn:s.length≤12:=he
     refine aj (ag s1 (.head _) (a:=I 2) rfl (aA (ah (fun h=>by cases h) (fun _=>?_))))
     refine aA (ah (fun _=>?_) (fun h=>by cases h))
     refine aj (ag s1 (.head _) (a:=T s) rfl ?_)
     exact q _ _ (by simp[bo];omega) s1.fr
   | here=>
     refine aj (ag s1 (.head _) (a:=I 3) rfl (aA (ah (fun h=>by cases h) (fun _=>?_))))
     refine aA (ah (fun h=>by cases h) (fun _=>?_))
     refine aA (ah (fun _=>?_) (fun h=>by cases h))
     exact q _ _ (by simp[bo]) s1.fr
   | neg e=>
     simp only[bo]at hs q
     have he:okX e:=he
     refine aj (ag s1 (.head _) (a:=I 4) rfl (aA (ah (fun h=>by cases h) (fun _=>?_))))
     refine aA (ah (fun h=>by cases h) (fun _=>?_))
     refine aA (ah (fun h=>by cases h) (fun _=>?_))
     refine aA (ah (fun _=>?_) (fun h=>by cases h))
     refine aj (ag s1 (.head _) (a:=.full 1 (br e)) rfl ?_)
     have r:Row br 4 h1 (.full 1 (br e)) [e]:=by simpa using Row.full (h:=h1) (enc:=br) (sz:=4) aw [e]
     refine r.idx aw (j:=0) (by simp) fun p t=>?_
     refine bq t (aw _).symm ?_
     refine Hb (e:=e) hT (show bo e≤N by omega) (by omega) he fun s h2 hl f2=>?_
     refine d3 (by simp;omega) ?_
     exact q _ _ (by simp;omega) (s1.call f2).fr
   | bin k a b=>
     simp only[bo]at hs q
     obtain⟨hk,ha,hb⟩:=he
     refine aj (ag s1 (.head _) (a:=I (k:Nat)) rfl (aA (ah (fun h=>by simp at h;omega) (fun _=>?_))))
     refine aA (ah (fun h=>by simp at h;omega) (fun _=>?_))
     refine aA (ah (fun h=>by simp at h;omega) (fun _=>?_))
     refine aA (ah (fun h=>by simp at h;omega) (fun _=>?_))
     refine aj (ag s1 (.head _) (a:=I (k:Nat)) rfl ?_)
     refine BQ _ _ _ ?_
     unfold DP
     have r:∀ h,Row br 4 h (.full 2 (br a++br b)) [a,b]:=fun h=>by simpa using Row.full (h:=h) (enc:=br) (sz:=4) aw [a,b]
     have go:∀ (sgn:Str) (u:AV),sgn.length≤2→am 0 (.tup [T sgn,u]) fun t30=>am 1 (.tup [T sgn,u]) fun t31=>ab 3 (.ptr i 0) fun t32=>af t32 h1 fun t33=>an 4 t33 (I 0) fun t34=>ap 4 t34 h1 fun t35=>
       ab 3 (.ptr i 0) fun t41=>af t41 h1 fun t42=>an 4 t42 (I 1) fun t43=>ap 4 t43 h1 fun t44=>C dt [t35] h1 fun t36 h4=>(ap 4 t43 h4 fun _t=>_t=t44)∧(af t41 h4 fun _t=>_t=t42)∧
       ai .add t36 (S ⟨#[32]⟩) fun t37=>ai .add t37 t30 fun t39=>ai .add t39 (S ⟨#[32]⟩) fun t40=>C dt [t44] h4 fun t45 h5=>ai .add t40 t45 fun t46=>Q t46 h5:=fun sgn u hsg=>by
      refine aG rfl (aG rfl ?_)
      refine aj (ag s1 (.head _) (a:=.full 2 (br a++br b)) rfl ?_)
      refine (r h1).idx aw (j:=0) (by simp) fun p t=>?_
      refine bq t (aw _).symm ?_
      refine aj (ag s1 (.head _) (a:=.full 2 (br a++br b)) rfl ?_)
      refine (r h1).idx aw (j:=1) (by simp) fun p2 t2=>?_
      refine bq t2 (aw _).symm ?_
      refine Hb (e:=a) hT (show bo a≤N by omega) (by omega) ha fun s h2 hl f2=>?_
      have s2:=s1.call f2
      refine⟨bq (t2.fr f2) (aw _).symm rfl,ag s2 (.head _) rfl rfl,?_⟩
      refine d3 (by simp;omega) (d3 (by simp;omega) (d3 (by simp;omega) ?_))
      refine Hb (e:=b) hT (show bo b≤N by omega) (by omega) hb fun s' h3 hl' f3=>?_
      refine d3 (by simp;omega) ?_
      exact q _ _ (by simp;omega) (s2.call f3).fr
     refine aA (ah (fun _=>go [43] _ (by simp)) (fun _=>?_))
     refine aA (ah (fun _=>go [45] _ (by simp)) (fun _=>?_))
     refine aA (ah (fun _=>go [42] _ (by simp)) (fun _=>?_))
     refine aA (ah (fun _=>go [38] _ (by simp)) (fun _=>?_))
     refine aA (ah (fun _=>go [124] _ (by simp)) (fun _=>?_))
     refine aA (ah (fun _=>go [60,60] _ (by simp)) (fun _=>?_))
     exact go [62,62] _ (by simp)
end
end
end Go.Proofs.YtgkmmcdhhkllnaaGreatDoor.AL
namespace Go.Proofs.YtgkmmcdhhkllnaaGreatDoor.AL
noncomputable section
section
variable [Tabs]
variable {h h0:ae}{Q:QT}{i D p:Nat}{s:Str}{b:Bool}
def tS:Str:=ref2_find_k1.data.toList
structure R3 where
 name:Str
 bits:Str
 kinds:Str
def R3.enc (r:R3):Str:=r.name++(58::(r.bits++(58::(r.kinds++[124]))))
def adk (n:Nat):UInt8:=if n<10 then UInt8.ofNat (48+n) else UInt8.ofNat (87+n)
def adb:Nat→Nat→Str
 | 0,_=>[]
 | k+1,n=>adb k (n / 16)++[adk (n%16)]
def ab1 (op:Nat) (r:Rw):R3:=⟨r.name,adb (2*mh op) r.bits,r.kinds⟩
def Oe:Nat→List Rw→List R3
 | _,[]=>[]
 | n,r::l=>ab1 n r::Oe (n+1) l
def rowsR:List R3:=Oe 0 tbl
theorem acZ:tS=rowsR.flatMap R3.enc:=by kernel_rfl
theorem SR:tS.length=1212:=by kernel_rfl
def pg (w:Str):Bool:=w.all fun c=>!(c==58)&&!(c==124)
theorem Q1:(rowsR.all fun r=>pg r.name&&(pg r.bits&&pg r.kinds))=true:=by kernel_rfl
theorem hT:(S ref2_find_k1)=T tS:=rfl
theorem CF {p j:Nat}{K:AV→Prop}(hj:j<3) (k:K (.ptr p (0+j*1))):cg 3 1 (.ptr p 0) (I (j:Nat)) K:=⟨by
 simp only[cT,asI,Int.toNat_natCast]
 exact⟨⟨by omega,by omega⟩,k⟩⟩
abbrev FB (q9 q4:Nat) (op:Int) (name:Str) (Q:QT):List AV→ae→(NT)→Prop:=fun vs h nx=>kZ (.ptr q9 0) (.ptr q4 0) (I op) (T name) Q vs h nx
abbrev fvs (n a k i:Nat):List AV:=[I 0,B false,I (n:Nat),I (a:Nat),I (k:Nat),I (i:Nat)]
variable {q9 q4:Nat}{op:Int}{name:Str}
theorem yV {n a k m:Nat}:∀ (w rest:Str) (i:Nat),pg w=true→tS.drop i=w++rest→LX (FB q9 q4 op name Q) m (fvs n a k (i+w.length)) h→LX (FB q9 q4 op name Q) (m+w.length) (fvs n a k i) h
 | [],rest,i,_,_,K=>K
 | c::w,rest,i,hw,hd,K=>by
   have hi:i<tS.length:=by
    rcases Nat.lt_or_ge i tS.length with h|h
    ·exact h
    ·rw[List.drop_of_length_le h]at hd;cases hd
   have hc:tS[i]=c∧tS.drop (i+1)=w++rest:=by
    rw[Cy hi]at hd
    injection hd with h1 h2
    exact⟨h1,h2⟩
   have hp:c≠58∧c≠124:=by
    have:=List.all_eq_true.1 hw c (.head _)
    simpa using this
   have hw2:pg w=true:=by
    unfold pg at hw ⊢
    rw[List.all_cons,Bool.and_eq_true]at hw
    exact hw.2
   have hl:=SR
   refine rN ?_
   unfold FB kZ
   rw[hT]
   refine aJ (ah (fun _=>?_) (fun h=>by simp at h;omega))
   refine bR hi ?_
   rw[hc.1]
   refine bU (ah (fun _=>?_) (fun h=>by
    simp only[decide_eq_false_iff_not,Classical.not_not]at h
    exact absurd ((Um (n:=58) (by decide)).1 h) hp.1))
   refine bR hi ?_
   rw[hc.1]
   refine bU (ah (fun _=>?_) (fun h=>by
    simp only[decide_eq_false_iff_not,Classical.not_not]at h
    exact absurd ((Um (n:=124) (by decide)).1 h) hp.2))
   unfold j0 qi
   refine aI (by omega) ?_
   refine⟨m+w.length,by simp,?_⟩
   have:=yV (m:=m) w rest (i+1) hw2 hc.2 (by rw[show i+1+w.length=i+(c::w).length by simp;omega];exact K)
   exact this
theorem Im {n a k m i:Nat}{c:UInt8}{xs:List AV}(hn:n<100000) (hx:xs.length=3) (ho:xs.all AV.one=true) (hk:k<3) (hc:c=58∨c=124) (hi:i<tS.length) (hci:tS[i]=c) (hai:a≤i) (s:St h0 [] h [(q9,true,.cells xs),(q4,true,.cells [T [],T [],T []])])
  (K:∀ h',St h0 [] h' [(q9,true,.cells (xs.set k (T ((tS.drop a).take (i-a))))),(q4,true,.cells [T [],T [],T []])]→(c=58→LX (FB q9 q4 op name Q) m (fvs n (i+1) (k+1) (i+1)) h')∧
   (c=124→(∀ A B' C',xs.set k (T ((tS.drop a).take (i-a)))=[T A,T B',T C']→((n:Int)=op∨A=name→∀ h2,Fr [] h0 h2→Q (.tup [.agg [T A,T B',T C'],I (n:Nat),B true]) h2)∧(¬ ((n:Int)=op∨A=name)→LX (FB q9 q4 op name Q) m (fvs (n+1) (i+1) 0 (i+1)) h'))∧∃ A B' C',xs.set k (T ((tS.drop a).take (i-a)))=[T A,T B',T C'])):
  LX (FB q9 q4 op name Q) (m+1) (fvs n a k i) h:=by
 have hl:=SR
 refine rN ?_
 unfold FB kZ
 rw[hT]
 refine aJ (ah (fun _=>?_) (fun h=>by simp at h;omega))
 refine bR hi ?_
 rw[hci]
 have c1:qb (fvs n a k i) (.ptr q9 0) h (I op) (.ptr q4 0) Q (T name) (fun vs' h'=>∃ m_1,∃ _:m_1<m+1,LX (FB q9 q4 op name Q) m_1 vs' h'):=by
  unfold qb
  rw[hT]
  refine Hz (by omega) (by omega) (by omega) ?_
  simp only[Int.toNat_natCast]
  refine CF hk ?_
  refine ax (cs:=xs) (o:=0+k*1) (L':=[(q9,true,.cells (xs.set k (T ((tS.drop a).take (i-a))))),(q4,true,.cells [T [],T [],T []])]) s ?_ rfl rfl rfl (by omega) fun h2 s2=>?_
  ·have e:splice xs (0+k*1) (T ((tS.drop a).take (i-a))).cells=xs.set k (T ((tS.drop a).take (i-a))):=by
    rcases xs with _|⟨x0,_|⟨x1,_|⟨x2,_|⟨x3,xs⟩⟩⟩⟩<;>simp at hx
    rcases (show k=0∨k=1∨k=2 by omega) with e|e|e<;>subst e<;>rfl
   rw[e];exact .head
  obtain⟨k1,k2⟩:=K h2 s2
  refine aI (by omega) (aI (by omega) ?_)
  refine bR hi ?_
  rw[hci]
  refine aA ?_
  rcases hc with rfl|rfl
  ·refine ah (fun h=>by simp at h) (fun _=>?_)
   unfold j0 qi
   refine aI (by omega) ?_
   exact⟨m,by omega,k1 rfl⟩
  ·refine ah (fun _=>?_) (fun h=>by simp at h)
   obtain⟨k2,A,B',C',hA⟩:=k2 rfl
   obtain⟨k2,k3⟩:=k2 A B' C' hA
   rw[hA]at s2
   have c2:(n:Int)=op∨A=name→pY (.ptr q9 0) h2 (.ptr q4 0) Q (fvs n a k i):=fun hh=>by
    unfold pY
    refine CF (j:=0) (by decide) (ag s2 (.head _) (a:=T A) rfl ?_)
    refine CF (j:=1) (by decide) (ag s2 (.head _) (a:=T B') rfl ?_)
    refine CF (j:=2) (by decide) (ag s2 (.head _) (a:=T C') rfl ?_)
    refine aD rfl ?_
    refine ax (o:=0) s2 (.tail .head) rfl rfl rfl (nle rfl) fun h3 s3=>?_
    refine aF s3 (.tail _ (.head _)) (nle rfl) ?_
    exact k2 hh h3 s3.fr
   refine aA ?_
   refine ah (fun h=>c2 (.inl (of_decide_eq_true h))) (fun hno=>?_)
   refine CF (j:=0) (by decide) (ag s2 (.head _) (a:=T A) rfl ?_)
   refine aU ?_
   refine ah (fun h=>c2 (.inr (by simpa using h))) (fun hno2=>?_)
   refine aI (by omega) ?_
   unfold j0 qi
   refine aI (by omega) ?_
   exact⟨m,by omega,k3 (by rintro (h|h);exact of_decide_eq_false hno h;simp[h]at hno2)⟩
 refine bU (ah (fun _=>?_) (fun _=>c1))
 refine bR hi ?_
 rw[hci]
 refine bU (ah (fun hh=>?_) (fun _=>c1))
 rename_i hh0
 rcases hc with rfl|rfl
 ·simp at hh0
 ·simp at hh
theorem adr {xs:List AV}(hx:xs.length=3) (x y z:AV):((xs.set 0 x).set 1 y).set 2 z=[x,y,z]:=by
 rcases xs with _|⟨x0,_|⟨x1,_|⟨x2,_|⟨x3,xs⟩⟩⟩⟩<;>simp at hx
 rfl
theorem IK {a:Nat}{w rest:Str}(h:tS.drop a=w++rest):(tS.drop a).take (a+w.length-a)=w:=by
 rw[h,show a+w.length-a=w.length by omega,List.take_left'];rfl
theorem L5 {i:Nat}{c:UInt8}{rest:Str}(h:tS.drop i=c::rest):∃ hi:i<tS.length,tS[i]=c∧tS.drop (i+1)=rest:=by
 have hi:i<tS.length:=by
  rcases Nat.lt_or_ge i tS.length with h'|h'
  ·exact h'
  ·rw[List.drop_of_length_le h']at h;cases h
 rw[Cy hi]at h
 injection h with h1 h2
 exact⟨hi,h1,h2⟩
theorem YC {r:R3}{n p m:Nat}{rest:Str}{xs:List AV}(hn:n<100000) (h1:pg r.name=true) (h2:pg r.bits=true) (h3:pg r.kinds=true) (hd:tS.drop p=r.enc++rest) (hx:xs.length=3) (ho:xs.all AV.one=true)
  (s:St h0 [] h [(q9,true,.cells xs),(q4,true,.cells [T [],T [],T []])])
  (kf:(n:Int)=op∨r.name=name→∀ h2,Fr [] h0 h2→Q (.tup [.agg [T r.name,T r.bits,T r.kinds],I (n:Nat),B true]) h2)
  (kn:¬ ((n:Int)=op∨r.name=name)→∀ h' xs',xs'.length=3→xs'.all AV.one=true→St h0 [] h' [(q9,true,.cells xs'),(q4,true,.cells [T [],T [],T []])]→LX (FB q9 q4 op name Q) m (fvs (n+1) (p+r.enc.length) 0 (p+r.enc.length)) h'):
  LX (FB q9 q4 op name Q) (m+r.enc.length) (fvs n p 0 p) h:=by
 have hl:r.enc.length=r.name.length+(1+(r.bits.length+(1+(r.kinds.length+1)))):=by unfold R3.enc;simp;omega
 have e1:tS.drop p=r.name++(58::(r.bits++(58::(r.kinds++(124::rest))))):=by rw[hd];unfold R3.enc;simp
 have e2:tS.drop (p+r.name.length)=58::(r.bits++(58::(r.kinds++(124::rest)))):=by rw[← List.drop_drop,e1,List.drop_left'];rfl
 obtain⟨i1,c1,e3⟩:=L5 e2
 have e4:tS.drop (p+r.name.length+1+r.bits.length)=58::(r.kinds++(124::rest)):=by rw[← List.drop_drop,e3,List.drop_left'];rfl
 obtain⟨i2,c2,e5⟩:=L5 e4
 have e6:tS.drop (p+r.name.length+1+r.bits.length+1+r.kinds.length)=124::rest:=by rw[← List.drop_drop,e5,List.drop_left'];rfl
 obtain⟨i3,c3,e7⟩:=L5 e6
 rw[show m+r.enc.length=(((((m+1)+r.kinds.length)+1)+r.bits.length)+1)+r.name.length by omega]
 refine yV r.name _ p h1 e1 ?_
 refine Im hn hx ho (by decide) (.inl rfl) i1 c1 (by omega) s fun h5 s5=>⟨fun _=>?_,fun h=>by cases h⟩
 rw[IK e1]at s5
 refine yV r.bits _ _ h2 e3 ?_
 refine Im (xs:=xs.set 0 (T r.name)) hn (by simpa using hx) (by
  rcases xs with _|⟨x0,_|⟨x1,_|⟨x2,_|⟨x3,xs⟩⟩⟩⟩<;>simp at hx ho ⊢
  exact⟨rfl,ho.2.1,ho.2.2⟩) (by decide) (.inl rfl) i2 c2 (by omega) s5 fun h6 s6=>⟨fun _=>?_,fun h=>by cases h⟩
 rw[IK e3]at s6
 refine yV r.kinds _ _ h3 e5 ?_
 refine Im (xs:=(xs.set 0 (T r.name)).set 1 (T r.bits)) hn (by simpa using hx) (by
  rcases xs with _|⟨x0,_|⟨x1,_|⟨x2,_|⟨x3,xs⟩⟩⟩⟩<;>simp at hx ho ⊢
  exact⟨rfl,rfl,ho.2.2⟩) (by decide) (.inr rfl) i3 c3 (by omega) s6 fun h7 s7=>⟨fun h=>(by cases h),fun _=>?_⟩
 rw[IK e5,adr hx]at s7 ⊢
 refine⟨fun A B' C' hA=>?_,r.name,r.bits,r.kinds,rfl⟩
 have hA:r.name=A∧r.bits=B'∧r.kinds=C':=by simpa using hA
 obtain⟨rfl,rfl,rfl⟩:=hA
 refine⟨kf,fun hno=>?_⟩
 have:=kn hno h7 _ rfl rfl s7
 rw[hl,show p+(r.name.length+(1+(r.bits.length+(1+(r.kinds.length+1)))))=p+r.name.length+1+r.bits.length+1+r.kinds.length+1 by omega]at this
 exact this
def CI (op:Int) (name:Str):Nat→List R3→Option (Nat×R3)
 | _,[]=>none
 | n,r::l=>if (n:Int)=op∨r.name=name then some (n,r) else CI op name (n+1) l
def abI:Option (Nat×R3)→AV
 | some (n,r)=>.tup [.agg [T r.name,T r.bits,T r.kinds],I (n:Nat),B true]
 | none=>.tup [.agg [T [],T [],T []],I 0,B false]
theorem Oh:∀ (l:List R3) (n p:Nat) (xs:List AV) (h:ae),n+l.length<100000→(l.all fun r=>pg r.name&&(pg r.bits&&pg r.kinds))=true→tS.drop p=l.flatMap R3.enc→xs.length=3→xs.all AV.one=true→
  St h0 [] h [(q9,true,.cells xs),(q4,true,.cells [T [],T [],T []])]→(∀ h2,Fr [] h0 h2→Q (abI (CI op name n l)) h2)→LX (FB q9 q4 op name Q) (1+(l.flatMap R3.enc).length) (fvs n p 0 p) h
 | [],n,p,xs,h,hn,_,hd,hx,ho,s,k=>by
   have hl:=SR
   have hp:1212≤p:=by
    have:=congrArg List.length hd
    simp at this;omega
   refine rN ?_
   unfold FB kZ
   refine aJ (ah (fun h=>by simp at h;omega) (fun _=>?_))
   refine aD rfl ?_
   refine ax (o:=0) s (.tail .head) rfl rfl rfl (nle rfl) fun h2 s2=>?_
   refine aF s2 (.tail _ (.head _)) (nle rfl) ?_
   exact k h2 s2.fr
 | r::l,n,p,xs,h,hn,hp,hd,hx,ho,s,k=>by
   rw[List.all_cons,Bool.and_eq_true,Bool.and_eq_true,Bool.and_eq_true]at hp
   obtain⟨⟨h1,h2,h3⟩,hp⟩:=hp
   rw[List.flatMap_cons]at hd
   rw[List.flatMap_cons,List.length_append,show 1+(r.enc.length+(l.flatMap R3.enc).length)=(1+(l.flatMap R3.enc).length)+r.enc.length by omega]
   have hd2:tS.drop (p+r.enc.length)=l.flatMap R3.enc:=by rw[← List.drop_drop,hd,List.drop_left'];rfl
   refine YC (by simp at hn;omega) h1 h2 h3 hd hx ho s (fun hh h2 f2=>?_) (fun hh h' xs' hx' ho' s'=>?_)
   ·have:=k h2 f2
    unfold CI at this
    rw[if_pos hh]at this
    exact this
   ·refine Oh l (n+1) (p+r.enc.length) xs' h' (by simp at hn;omega) hp hd2 hx' ho' s' fun h2 f2=>?_
    have:=k h2 f2
    unfold CI at this
    rw[if_neg hh]at this
    exact this
theorem Wn:rowsR.length<1000:=of_decide_eq_true (by kernel_rfl)
theorem Lg (op:Int) (name:Str) (k:∀ h',Fr [] h h'→Q (abI (CI op name 0 rowsR)) h'):C qa [I op,T name] h Q:=by
 refine MV _ _ _ _ ?_
 unfold Kq
 refine aM (St.start h) fun q4 h1 s1=>?_
 refine aM s1 fun q9 h2 s2=>?_
 refine Cc _ (Oh rowsR 0 0 _ h2 (by have:=Wn;omega) Q1 (by rw[List.drop_zero];exact acZ) rfl rfl s2 k)
end
end
end Go.Proofs.YtgkmmcdhhkllnaaGreatDoor.AL
namespace Go.Proofs.YtgkmmcdhhkllnaaGreatDoor.AL
noncomputable section
variable [Tabs]
def JP:Way→Bool
 | .reg=>true
 | _=>false
def acz (kinds:List Str):Prop:=∀ k∈kinds,∀ (h:ae) (Q:QT),Q (B (JP (lP k))) h→C ko [T k] h Q
end
end Go.Proofs.YtgkmmcdhhkllnaaGreatDoor.AL
namespace Go.Proofs.YtgkmmcdhhkllnaaGreatDoor.AL
noncomputable section
section
variable [Tabs]
variable {h h0:ae}{Q:QT}{i D p:Nat}{s:Str}{b:Bool}
theorem H9:∀ (l:List Rw) (n j:Nat) (hj:j<l.length),(∀ r∈l,r.name≠[32])→CI ((n+j:Nat):Int) [32] n (Oe n l)=some (n+j,ab1 (n+j) l[j])
 | r::l,n,0,hj,hn=>by
   unfold Oe CI
   rw[if_pos (.inl (by simp))];rfl
 | r::l,n,j+1,hj,hn=>by
   unfold Oe CI
   rw[if_neg (by
    rintro (h|h)
    ·omega
    ·exact hn r (.head _) h)]
   have:=H9 l (n+1) j (by simpa using hj) fun x hx=>hn x (.tail _ hx)
   rw[show n+1+j=n+(j+1) by omega]at this
   simpa using this
theorem VK:∀ r∈tbl,r.name≠[32]:=by decide
theorem T7 {op:Nat}(ho:op<tbl.length):CI (op:Int) [32] 0 rowsR=some (op,ab1 op tbl[op]):=by
 have:=H9 tbl 0 op ho VK
 simp only[Nat.zero_add]at this
 exact this
theorem Nr {op:Nat}(ho:op<tbl.length) (k:∀ h',Fr [] h h'→Q (T (tbl[op]).kinds) h'):C oC [I (op:Nat)] h Q:=by
 refine I9 _ _ _ ?_
 unfold HO
 refine Lg (op:Int) [32] fun h1 f1=>?_
 rw[T7 ho]
 refine aG rfl (aG rfl (aG rfl ?_))
 refine aM ((St.start h).call f1) fun q h2 s2=>?_
 refine ax (o:=0) s2 .head rfl rfl rfl (nle rfl) fun h3 s3=>?_
 refine aj (ag s3 (.head _) (a:=T (tbl[op]).kinds) rfl ?_)
 exact k _ s3.fr
def uc:Prop:=∀ r∈tbl,∀ (h:ae) (Q:QT),Q (.snap (cV r.kinds).length ((cV r.kinds).flatMap sE)) h→C ot [T r.kinds] h Q
def yK:Prop:=∀ r∈tbl,acz (cV r.kinds)
end
end
end Go.Proofs.YtgkmmcdhhkllnaaGreatDoor.AL
namespace Go.Proofs.YtgkmmcdhhkllnaaGreatDoor.AL
noncomputable section
def okA (a:Ar):Prop:=(0≤a.reg∧a.reg≤31)∨(a.reg=-1∧okX a.e∧bo a.e≤60)
def B3 (rs:RS):Prop:=rs.lab.length≤5∧rs.text.length≤20∧rs.kind≤9∧(rs.kind=1→rs.op<66)∧(rs.kind=2→rs.op<3)∧rs.args.length≤100∧∀ a∈rs.args,okA a
section
variable [Tabs]
variable {h h0:ae}{Q:QT}{K:AV→Prop}{i:Nat}
def AccF (sz:Nat) (v:AV) (n:Nat) (cs:List AV) (E:Own):Prop:=cs.length=n*sz∧((v=.full n cs∧E=[])∨∃ j,v=.sl j 0 n sz∧E=[(j,true,.cells cs)])
theorem AccF.none (sz:Nat):AccF sz (.full 0 []) 0 [] []:=⟨by simp,.inl ⟨rfl,rfl⟩⟩
theorem AccF.rest {sz n:Nat}{v:AV}{cs:List AV}{E R:Own}(a:AccF sz v n cs E) (s:St h0 [] h (E++R)):St h0 [] h R:=s.sub (List.sublist_append_right _ _)
theorem AccF.one {sz n:Nat}{v:AV}{cs:List AV}{E:Own}(a:AccF sz v n cs E):v.one=true∧v.isTup=false∧v.cells=[v]:=by
 obtain⟨_,⟨rfl,_⟩|⟨j,rfl,_⟩⟩:=a<;>exact⟨rfl,rfl,rfl⟩
theorem AccF.app {sz n bytes m:Nat}{v x:AV}{cs xs:List AV}{E R:Own}{KH:QT}(a:AccF sz v n cs E) (s:St h0 [] h (E++R)) (r:Rd h sz x m xs) (h1:xs.all AV.one=true) (hb:(n+m)*bytes≤1099511627776)
  (k:∀ v' E' h',AccF sz v' (n+m) (cs++xs) E'→St h0 [] h' (E'++R)→KH v' h'):bg sz bytes v x h KH:=by
 have hx:=r.len
 obtain⟨hl,⟨rfl,rfl⟩|⟨j,rfl,rfl⟩⟩:=a
 ·refine⟨?_⟩
  simp only[eC,r.2]
  refine⟨⟨hl,hb⟩,?_⟩
  split
  ·rename_i hm
   subst hm
   have:xs=[]:=by simpa using hx
   subst this
   exact k _ [] _ ⟨by simpa using hl,.inl ⟨by simp,rfl⟩⟩ s
  ·exact k _ [(h.length,true,.cells (cs++xs))] _ ⟨by simp[hl,hx,Nat.add_mul],.inr ⟨_,rfl,rfl⟩⟩ (s.push _)
 ·refine T3 s r .head h1 (by omega) hb fun i h' s'=>?_
  exact k _ [(i,true,.cells (cs++xs))] h' ⟨by simp[hl,hx,Nat.add_mul],.inr ⟨i,rfl,rfl⟩⟩ s'
def WSt (h0 h:ae) (i:Nat) (rs:RS) (R:Own):Prop:=∃ v E,AccF 5 v rs.args.length (rs.args.flatMap arE) E∧St h0 [] h (E++((i,true,rdO rs v)::R))
theorem WSt.call {h':ae}{rs:RS}{R:Own}(r:WSt h0 h i rs R) (f:Fr [] h h'):WSt h0 h' i rs R:=by
 obtain⟨v,E,a,s⟩:=r
 exact⟨v,E,a,s.call f⟩
theorem WSt.rest {rs:RS}{R:Own}(r:WSt h0 h i rs R):St h0 [] h R:=by
 obtain⟨v,E,a,s⟩:=r
 exact (a.rest s).drop1
theorem WSt.put {rs rs':RS}{R:Own}(r:WSt h0 h i rs R) {o:Nat}{u:AV}{K:ae→Prop}(hu:u.isTup=false) (hc:u.cells.length=1) (h1:u.cells.all AV.one=true) (ho:o+1≤6) (ha:rs'.args=rs.args)
  (he:∀ v,splice [I 1,T rs.lab,I (rs.kind:Nat),I (rs.op:Nat),T rs.text,v] o u.cells=[I 1,T rs'.lab,I (rs'.kind:Nat),I (rs'.op:Nat),T rs'.text,v]) (k:∀ h',WSt h0 h' i rs' R→K h'):ak 1 (.ptr i o) u h K:=by
 obtain⟨v,E,a,s⟩:=r
 refine ax s (L':=E++((i,true,rdO rs' v)::R)) (cs:=[I 1,T rs.lab,I (rs.kind:Nat),I (rs.op:Nat),T rs.text,v]) (by rw[he];exact Sub.pre .head E) hu hc h1 ho fun h' s'=>?_
 exact k h' ⟨v,E,by rw[ha];exact a,s'⟩
theorem WSt.load {rs:RS}{R:Own}(r:WSt h0 h i rs R) {o:Nat}{a:AV}{K:AV→Prop}(ho:∀ v,[I 1,T rs.lab,I (rs.kind:Nat),I (rs.op:Nat),T rs.text,v][o]?=some a) (k:K a):af (.ptr i o) h K:=by
 obtain⟨v,E,a,s⟩:=r
 exact ag s (List.mem_append_right _ (.head _)) (ho v) k
theorem AccF.more {rs:RS}{R E:Own}{v x:AV}{m:Nat}{az:List Ar}(a:AccF 5 v rs.args.length (rs.args.flatMap arE) E) (s:St h0 [] h (E++((i,true,rdO rs v)::R))) (hx:Rd h 5 x m (az.flatMap arE)) (hm:az.length=m) (hn:rs.args.length+m≤1000)
  {K:ae→Prop} (k:∀ h',WSt h0 h' i { rs with args:=rs.args++az } R→K h'):bg 5 64 v x h fun t h'=>ab 5 (.ptr i 0) fun p=>ak 1 p t h' K:=by
 refine a.app s hx (T1 _) (by omega) fun v2 E2 h2 a2 s2=>?_
 refine aj (ax (cs:=[I 1,T rs.lab,I (rs.kind:Nat),I (rs.op:Nat),T rs.text,v]) (L':=E2++((i,true,rdO { rs with args:=rs.args++az } v2)::R)) s2 ?_ ?_ ?_ ?_ (nle rfl) fun h3 s3=>?_)
 ·rw[a2.one.2.2];exact Sub.pre .head E2
 ·exact a2.one.2.1
 ·rw[a2.one.2.2];rfl
 ·rw[a2.one.2.2];simp[a2.one.1]
 ·refine k h3 ⟨v2,E2,?_,s3⟩
  have:rs.args.length+m=(rs.args++az).length:=by simp[hm]
  rw[this,← List.flatMap_append]at a2
  exact a2
def WSg (h0 h:ae) (i:Nat) (rs:RS) (R:Own):Prop:=∃ v E,(AccF 5 v rs.args.length (rs.args.flatMap arE) E∨(v=.snap rs.args.length (rs.args.flatMap arE)∧E=[]))∧St h0 [] h (E++((i,true,rdO rs v)::R))
theorem WSt.g {rs:RS}{R:Own}(r:WSt h0 h i rs R):WSg h0 h i rs R:=by
 obtain⟨v,E,a,s⟩:=r
 exact⟨v,E,.inl a,s⟩
theorem WSg.rest {rs:RS}{R:Own}(r:WSg h0 h i rs R):St h0 [] h R:=by
 obtain⟨v,E,a,s⟩:=r
 exact (s.sub (List.sublist_append_right _ _)).drop1
theorem WSg.put {rs rs':RS}{R:Own}(r:WSg h0 h i rs R) {o:Nat}{u:AV}{K:ae→Prop}(hu:u.isTup=false) (hc:u.cells.length=1) (h1:u.cells.all AV.one=true) (ho:o+1≤6) (ha:rs'.args=rs.args)
  (he:∀ v,splice [I 1,T rs.lab,I (rs.kind:Nat),I (rs.op:Nat),T rs.text,v] o u.cells=[I 1,T rs'.lab,I (rs'.kind:Nat),I (rs'.op:Nat),T rs'.text,v]) (k:∀ h',WSg h0 h' i rs' R→K h'):ak 1 (.ptr i o) u h K:=by
 obtain⟨v,E,a,s⟩:=r
 refine ax s (L':=E++((i,true,rdO rs' v)::R)) (cs:=[I 1,T rs.lab,I (rs.kind:Nat),I (rs.op:Nat),T rs.text,v]) (by rw[he];exact Sub.pre .head E) hu hc h1 ho fun h' s'=>?_
 exact k h' ⟨v,E,by rw[ha];exact a,s'⟩
theorem WSg.load {rs:RS}{R:Own}(r:WSg h0 h i rs R) {o:Nat}{a:AV}{K:AV→Prop}(ho:∀ v,[I 1,T rs.lab,I (rs.kind:Nat),I (rs.op:Nat),T rs.text,v][o]?=some a) (k:K a):af (.ptr i o) h K:=by
 obtain⟨v,E,a,s⟩:=r
 exact ag s (List.mem_append_right _ (.head _)) (ho v) k
theorem WSg.told {rs:RS}{j2:Nat}{zs:List AV}{R:Own}(r:WSg h0 h i rs ((j2,true,.cells zs)::R)) (hz:zs.length=6) (k:∀ h',Fr [] h0 h'→Q (.agg (smE 1 rs)) h'):
  ap 6 (.ptr i 0) h fun t=>ak 6 (.ptr j2 0) t h fun h2=>ap 6 (.ptr j2 0) h2 fun r=>∃ r2 h3,Conv r h2 r2 h3∧Q r2 h3:=by
 obtain⟨v,E,a,s⟩:=r
 refine aF s (List.mem_append_right _ (.head _)) (nle rfl) ?_
 simp only[List.drop_zero]
 rw[List.take_of_length_le (by simp)]
 refine ax (cs:=zs) (o:=0) (L':=E++((i,true,rdO rs v)::(j2,true,rdO rs v)::R)) s (Sub.pre (.tail ?_) E) rfl rfl (by rcases a with ⟨_,⟨rfl,_⟩|⟨j,rfl,_⟩⟩|⟨rfl,_⟩<;>rfl) (by rw[hz];decide) fun h2 s2=>?_
 ·have:splice zs 0 (AV.agg [I 1,T rs.lab,I (rs.kind:Nat),I (rs.op:Nat),T rs.text,v]).cells=[I 1,T rs.lab,I (rs.kind:Nat),I (rs.op:Nat),T rs.text,v]:=by
   show splice zs 0 [_,_,_,_,_,_]=_
   simp[splice,hz]
  rw[this];exact .head
 refine aF s2 (List.mem_append_right _ (.tail _ (.head _))) (nle rfl) ?_
 simp only[List.drop_zero]
 rw[List.take_of_length_le (by simp)]
 rcases a with ⟨a1,⟨rfl,rfl⟩|⟨j,rfl,rfl⟩⟩|⟨rfl,rfl⟩
 ·refine⟨_,_,.wk (Wk.agg (.cons (.refl _) (.cons (.refl _) (.cons (.refl _) (.cons (.refl _) (.cons (.refl _) (.cons (.full _ _) .nil))))))) (.refl _ _),?_⟩
  exact k _ s2.fr
 ·refine⟨_,_,.frz j (rs.args.flatMap arE) (s2.get (.head _)) (.refl _ _),?_⟩
  have:=k _ (s2.kill .head).fr
  have e:fz j (rs.args.flatMap arE) (.agg [I 1,T rs.lab,I (rs.kind:Nat),I (rs.op:Nat),T rs.text,.sl j 0 rs.args.length 5])=.agg (smE 1 rs):=by
   simp[fz,fzL,smE,a1,List.take_of_length_le]
  rw[e];exact this
 ·exact⟨_,_,.refl _ _,k _ s2.fr⟩
theorem WSt.putA {rs:RS}{R:Own}(r:WSt h0 h i rs R) {az:List Ar}{n:Nat}{cs:List AV}(hn:az.length=n) (hc:cs=az.flatMap arE) {K:ae→Prop}(k:∀ h',WSt h0 h' i { rs with args:=az } R→K h'):ak 1 (.ptr i 5) (.full n cs) h K:=by
 subst hn;subst hc
 obtain⟨v,E,a,s⟩:=r
 refine ax (cs:=[I 1,T rs.lab,I (rs.kind:Nat),I (rs.op:Nat),T rs.text,v]) (L':=E++((i,true,rdO { rs with args:=az } (.full az.length (az.flatMap arE)))::R)) s (Sub.pre .head E) rfl rfl rfl (nle rfl) fun h3 s3=>?_
 exact k h3 ⟨_,[],⟨eP arE 5 bS az,.inl ⟨rfl,rfl⟩⟩,s3.sub (List.sublist_append_right _ _)⟩
end
end
end Go.Proofs.YtgkmmcdhhkllnaaGreatDoor.AL
namespace Go.Proofs.YtgkmmcdhhkllnaaGreatDoor.AL
noncomputable section
abbrev Oq (k:Str):Prop:=k=[88]∨k=[89]∨k=[68]∨k=[65]∨k=[66]
section
variable [Tabs]
variable {h h0:ae}{Q:QT}{K:AV→Prop}{i:Nat}
abbrev QN (x:Int):Prop:=-4294967295≤x∧x≤4294967295
theorem Bl (l:List Int) (hP:∀ x∈l,QN x) {n:Nat}(hn:l.length=n) {j:Int}(hj:0≤j∧j<n) (k:∀ x,QN x→K (I x)):an 1 (.full n (l.map I)) (I j) fun p=>af p h K:=yH l hP hn hj k
theorem abA {kind:Str}{b:Bool}{m n:Int}(hn:¬ Oq kind) (hm:0≤m∧m<(9:Nat)) (hi:inI n) (q:∀ x,QN x→Q (I x) h):lB (B b) (T kind) (I m) (I n) h Q:=by
 unfold lB
 refine ah (fun _=>?_) (fun _=>?_)
 ·refine fo (by decide) (by decide) hi ?_
  have:=cF (a:=n) (n:=4) (by decide)
  exact q _ (by omega)
 refine aU (ah (fun _=>?_) (fun _=>?_))
 ·refine fo (by decide) (by decide) hi ?_
  have:=cF (a:=n) (n:=256) (by decide)
  refine cD (by omega) (vp (by omega) ?_)
  exact q _ (by omega)
 refine aU (ah (fun _=>?_) (fun _=>?_))
 ·refine aB rfl rfl ?_
  exact Bl [0,32767,-32768,-1,1,255,-256,4660,-4660] (by decide) rfl hm q
 refine aU (ah (fun _=>?_) (fun _=>?_))
 ·refine fo (by decide) (by decide) hi ?_
  have:=cF (a:=n) (n:=1048576) (by decide)
  refine cD (by omega) ?_
  exact q _ (by omega)
 refine aU (ah (fun _=>?_) (fun _=>?_))
 ·refine fo (by decide) (by decide) hi ?_
  have:=cF (a:=n) (n:=32768) (by decide)
  refine cD (by omega) (vp (by omega) ?_)
  exact q _ (by omega)
 refine aU (ah (fun _=>?_) (fun _=>?_))
 ·refine fo (by decide) (by decide) hi ?_
  have:=cF (a:=n) (n:=16777216) (by decide)
  refine cD (by omega) (vp (by omega) ?_)
  exact q _ (by omega)
 refine aB rfl rfl ?_
 exact Bl [0,255,256,65280,-1,-2,16711680,-256,2130706432] (by decide) rfl hm q
theorem abv {kind:Str}{b:Bool}{m n:Int}(hn:¬ Oq kind) (hm:0≤m∧m<(9:Nat)) (hi:inI n) (q:∀ x,QN x→Q (I x) h):lw (B b) (T kind) (I m) (I n) h Q:=by
 unfold lw
 refine ah (fun _=>?_) (fun _=>?_)
 ·refine aB rfl rfl ?_
  exact Bl [0,15,1,7,8,4,12,3,14] (by decide) rfl hm q
 refine aU (ah (fun _=>?_) (fun _=>?_))
 ·refine aB rfl rfl ?_
  exact yH [0,15,1,7,8,4,12,3,14] (P:=fun x=>0≤x∧x≤15) (by decide) rfl hm fun x hx=>vp (by omega) (q _ (by omega))
 refine aU (ah (fun _=>?_) (fun _=>?_))
 ·refine aB rfl rfl ?_
  exact yH [0,15,1,7,8,4,12,3,14] (P:=fun x=>0≤x∧x≤15) (by decide) rfl hm fun x hx=>vp (by omega) (q _ (by omega))
 refine aU (ah (fun _=>?_) (fun _=>?_))
 ·refine fo (by decide) (by decide) hi ?_
  have:=cF (a:=n) (n:=2) (by decide)
  exact q _ (by omega)
 refine aU (ah (fun _=>?_) (fun _=>?_))
 ·exact abA hn hm hi q
 ·exact aU (abA hn hm hi q)
theorem TX {kind:Str}{b:Bool}{m n:Int}(hn:b=false→¬ Oq kind) (hm:0≤m∧m<(9:Nat)) (hi:inI n) (q:∀ x,QN x→(Oq kind→0≤x∧x≤31)→Q (I x) h):fQ (B b) (T kind) (I m) (I n) h Q:=by
 unfold fQ
 refine ah (fun _=>?_) (fun hb=>?_)
 ·refine aB rfl rfl ?_
  exact yH [0,31,1,15,16,7,30,12,3] (P:=fun x=>0≤x∧x≤31) (by decide) rfl hm fun x hx=>q _ (by omega) fun _=>hx
 have hn:=hn hb
 have q:∀ x,QN x→Q (I x) h:=fun x hx=>q x hx fun h=>absurd h hn
 refine aU (ah (fun _=>?_) (fun _=>?_))
 ·refine aB rfl rfl ?_
  exact Bl [0,127,64,1,63,100,7,15,16] (by decide) rfl hm q
 refine aU (ah (fun _=>?_) (fun _=>?_))
 ·refine aB rfl rfl ?_
  exact Bl [1,32,2,16,31,17,8,5,30] (by decide) rfl hm q
 refine aU (ah (fun _=>?_) (fun _=>?_))
 ·exact abv hn hm hi q
 ·exact aU (abv hn hm hi q)
theorem S2 {kind:Str}{b:Bool}{m n:Int}(hn:b=false→kind≠[88]∧kind≠[89]) (hm:0≤m∧m<(9:Nat)) (hi:inI n) (q:∀ x,QN x→(Oq kind→0≤x∧x≤31)→Q (I x) h):j9 (B b) (T kind) (I m) (I n) h Q:=by
 unfold j9
 refine ah (fun _=>?_) (fun hb=>?_)
 ·refine aB rfl rfl ?_
  exact yH [0,1,7,24,31,5,28,3,30] (P:=fun x=>0≤x∧x≤31) (by decide) rfl hm fun x hx=>q _ (by omega) fun _=>hx
 obtain⟨h1,h2⟩:=hn hb
 refine aU (ah (fun hb=>?_) (fun h3=>?_))
 ·rw[hb];exact TX (fun h=>by cases h) hm hi q
 refine aU (ah (fun hb=>?_) (fun h4=>?_))
 ·rw[hb];exact TX (fun h=>by cases h) hm hi q
 refine aU (ah (fun hb=>?_) (fun h5=>?_))
 ·rw[hb];exact TX (fun h=>by cases h) hm hi q
 refine aU (TX (fun _=>?_) hm hi q)
 rintro (h|h|h|h|h)
 ·exact h1 h
 ·exact h2 h
 ·exact of_decide_eq_false h3 h
 ·exact of_decide_eq_false h4 h
 ·exact of_decide_eq_false h5 h
theorem Hu {kind:Str}{n:Int}(hi:inI n) (q:∀ x,QN x→(Oq kind→0≤x∧x≤31)→Q (I x) h):C ly [T kind,I n] h Q:=by
 refine Fv _ _ _ _ ?_
 unfold Cg
 refine fo (by decide) (by decide) hi ?_
 have hm:=cF (a:=n) (n:=9) (by decide)
 refine aU (ah (fun hb=>?_) (fun hb=>?_))
 ·rw[hb];exact S2 (fun h=>by cases h) hm hi q
 ·refine aU ?_
  cases h2:decide (kind=[89]) with
  | true=>exact S2 (fun h=>by cases h) hm hi q
  | false=>exact S2 (fun _=>⟨of_decide_eq_false hb,of_decide_eq_false h2⟩) hm hi q
abbrev rwO (r:RW):AObj:=.cells [I r.K,I r.A,I r.B,.snap r.ns.length (r.ns.flatMap fun n=>[I n]),.snap r.E.length (xrL r.E),.lit (.bool r.L)]
theorem Ty {r:RW}{j:Nat}(ho:okW r) (hj:j<1000) (q:∀ x h',inI x→Fr [] h h'→Q (I x) h'):C iy [.agg (rwE r),I (j:Nat)] h Q:=by
 refine AR _ _ _ _ ?_
 unfold vS
 refine bB (St.start h) rfl fun j1 h1 s1=>?_
 have s1:St h [] h1 [(j1,true,rwO r)]:=s1
 refine aj (ag s1 (.head _) (a:=.snap r.ns.length (r.ns.flatMap fun n=>[I n])) rfl (cz ?_))
 refine aJ (ah (fun hb=>?_) (fun hb=>?_))
 ·have hj:j<r.ns.length:=by have:=of_decide_eq_true hb;omega
  refine aj (ag s1 (.head _) (a:=.snap r.ns.length (r.ns.flatMap fun n=>[I n])) rfl ?_)
  have R:Row (fun n:Int=>[I n]) 1 h1 (.snap r.ns.length (r.ns.flatMap fun n=>[I n])) r.ns:=Row.snap (enc:=fun n:Int=>[I n]) (sz:=1) (fun _=>rfl) _
  refine R.idx (fun _=>rfl) hj fun p t=>?_
  refine aK t ?_
  exact q _ _ (ho.2.2.2.1 _ (List.getElem_mem hj)) s1.fr
 ·refine aj (ag s1 (.head _) (a:=I r.A) rfl (Ub ?_))
  exact q _ _ (Ol _) s1.fr
def labels4:List Str:=[[97],[98,49],[108,111,111,112],[120]]
abbrev a0:List AV:=[I 0,I 0,I 0,S ⟨#[]⟩,.full 0 []]
theorem VX:∀ r∈tbl,∀ k∈cV r.kinds,k≠[]:=by decide
theorem V9:∀ r∈tbl,∀ k∈cV r.kinds,JP (lP k)=true→Oq k:=by decide
theorem yX (q:Q (.full 4 (labels4.map T)) h):C gZ [] h Q:=by
 refine Gy _ _ ?_
 unfold EO
 exact aB rfl rfl q
theorem XX {r:RW}{kind:Str}{n:Int}(ho:okW r) (hf:ML r) (hi:inI n) (hne:kind≠[]) (hrk:JP (lP kind)=true→Oq kind) (hR:∀ (h:ae) (Q:QT),Q (B (JP (lP kind))) h→C ko [T kind] h Q)
  (q:∀ a h',okA a→Fr [] h h'→Q (.agg (arE a)) h'):C mt [.agg (rwE r),T kind,I n] h Q:=by
 refine B8 _ _ _ _ _ ?_
 unfold yx
 refine bB (St.start h) rfl fun j1 h1 s1=>?_
 have s1:St h [] h1 [(j1,true,rwO r)]:=s1
 refine aM s1 fun j6 h2 s2=>?_
 refine Dv _ _ _ ?_
 unfold zB
 refine hR _ _ (ah (fun hb=>?_) (fun hb=>?_))
 ·refine Hu hi fun x hx hr=>?_
  have hx:=hr (hrk hb)
  refine aD rfl ?_
  refine ax (o:=0) s2 (L':=[(j6,true,.cells (arE ⟨x,.none⟩)),(j1,true,rwO r)]) .head rfl rfl rfl (nle rfl) fun h3 s3=>?_
  refine aF s3 (.head _) (nle rfl) ?_
  exact q ⟨x,.none⟩ _ (.inl hx) s3.fr
 ·refine aD rfl ?_
  refine aM s2 fun j7 h3 s3=>?_
  refine ax (o:=0) s3 (L':=[(j7,true,.cells (arE ⟨-1,.none⟩)),(j6,true,.cells a0),(j1,true,rwO r)]) .head rfl rfl rfl (nle rfl) fun h4 s4=>?_
  have fin:∀ (e:Ex) (h5:ae),okX e→bo e≤60→St h [] h5 [(j7,true,.cells (arE ⟨-1,.none⟩)),(j6,true,.cells a0),(j1,true,rwO r)]→
    ab 1 (.ptr j7 0) fun p=>ak 4 p (.agg (br e)) h5 fun h6=>ft (.ptr j7 0) (.ptr j6 0) h6 Q:=fun e h5 he hs s5=>by
   refine aj (ax (o:=1) (cs:=arE ⟨-1,.none⟩) (L':=[(j7,true,.cells (arE ⟨-1,e⟩)),(j6,true,.cells a0),(j1,true,rwO r)]) s5 ?_ rfl (aw e) (aV e) (nle rfl) fun h6 s6=>?_)
   ·have:splice (arE ⟨-1,.none⟩) 1 (AV.agg (br e)).cells=arE ⟨-1,e⟩:=by
     obtain⟨a,b,c,d,hx⟩:=aaQ (aw e)
     show splice (arE ⟨-1,.none⟩) 1 (br e)=I (-1)::br e
     rw[hx];rfl
    rw[this];exact .head
   unfold ft qG
   refine aF s6 (.head _) (by rw[bS];exact Nat.le_refl 5) ?_
   rw[List.drop_zero,List.take_of_length_le (by rw[bS];exact Nat.le_refl 5)]
   refine ax (o:=0) (cs:=a0) (L':=[(j7,true,.cells (arE ⟨-1,e⟩)),(j6,true,.cells (arE ⟨-1,e⟩)),(j1,true,rwO r)]) s6 (.tail ?_) rfl (bS _) (Ce _) (nle rfl) fun h7 s7=>?_
   ·have:splice a0 0 (AV.agg (arE ⟨-1,e⟩)).cells=arE ⟨-1,e⟩:=by
     have:=bS ⟨-1,e⟩
     show splice _ 0 (arE _)=_
     simp[splice,this]
    rw[this];exact .head
   refine aF s7 (.tail _ (.head _)) (by rw[bS];exact Nat.le_refl 5) ?_
   rw[List.drop_zero,List.take_of_length_le (by rw[bS];exact Nat.le_refl 5)]
   exact q _ _ (.inr ⟨rfl,he,hs⟩) s7.fr
  refine bn (by decide) (by decide) hi ?_
  have c1:∀ h5,St h [] h5 [(j7,true,.cells (arE ⟨-1,.none⟩)),(j6,true,.cells a0),(j1,true,rwO r)]→ji (T kind) h5 (I n) (.ptr j7 0) (.ptr j6 0) Q:=fun h5 s5=>by
   unfold ji
   have hl:0<kind.length:=List.length_pos_iff.2 hne
   refine bR (i:=0) hl (aA (ah (fun _=>?_) (fun _=>?_)))
   ·refine yX ?_
    refine bn (by decide) (by decide) hi ?_
    refine yQ labels4 (P:=fun x=>x.length≤5) (by decide) rfl (cF (by decide)) fun x hx=>?_
    refine aD rfl ?_
    exact fin (.name x) _ (by show x.length≤12;omega) (by simp[bo]) s5
   ·refine Hu hi fun x hx hr=>?_
    refine Ls hx fun s h6 hl6 ⟨e,he,hok,hsz⟩ f6=>?_
    have s6:=s5.call f6
    refine Ma s (by omega) (fun e' he' h7 f7=>?_) (fun h0=>by rw[he]at h0;cases h0)
    rw[he]at he'
    cases he'
    refine aG rfl (aG rfl ?_)
    exact fin e _ hok (by omega) (s6.call f7)
  refine aA (ah (fun _=>?_) (fun _=>c1 _ s4))
  refine aj (ag s4 (.tail _ (.tail _ (.head _))) (a:=.snap r.E.length (xrL r.E)) rfl (cz ?_))
  refine bD (ah (fun _=>?_) (fun _=>c1 _ s4))
  refine aj (ag s4 (.tail _ (.tail _ (.head _))) (a:=.snap r.E.length (xrL r.E)) rfl ?_)
  refine L1 ho.2.2.2.2.2.2 (Vk _) fun e h5 he hs f5=>?_
  exact fin e _ he (by have:=hf.1;omega) (s4.call f5)
end
end
end Go.Proofs.YtgkmmcdhhkllnaaGreatDoor.AL
namespace Go.Proofs.YtgkmmcdhhkllnaaGreatDoor.AL
noncomputable section
section
variable [Tabs]
variable {h h0:ae}{Q:QT}{K:AV→Prop}{i:Nat}
theorem aaN (e:Ex):splice (arE ⟨-1,.none⟩) 1 (AV.agg (br e)).cells=arE ⟨-1,e⟩:=by
 obtain⟨a,b,c,d,hx⟩:=aaQ (aw e)
 show splice (arE ⟨-1,.none⟩) 1 (br e)=I (-1)::br e
 rw[hx];rfl
theorem CC (e:Ex):EN a0 [(0,1,I (-1)),(1,4,.agg (br e))]=some (arE ⟨-1,e⟩):=by
 obtain⟨a,b,c,d,hx⟩:=aaQ (aw e)
 show _=some (I (-1)::br e)
 rw[hx];rfl
theorem JV {e:Ex}(he:okX e) (hs:bo e≤60):okA ⟨-1,e⟩:=.inr ⟨rfl,he,hs⟩
abbrev z6:List AV:=[I 0,S ⟨#[]⟩,I 0,I 0,S ⟨#[]⟩,.full 0 []]
theorem Vm {r:RW}{kind:Nat}(ho:okW r) (hf:ML r) (q:∀ az h',az.length≤10→(∀ a∈az,okA a)→Fr [] h h'→Q (.agg (smE 1 ⟨[],kind,0,[],az⟩)) h'):C nc [.agg (rwE r),I (kind:Nat)] h Q:=by
 refine ACall.conv ?_
 refine Cl _ _ _ _ ?_
 unfold xQ
 refine bB (St.start h) rfl fun j2 h1 s1=>?_
 have s1:St h [] h1 [(j2,true,rwO r)]:=s1
 refine aM s1 fun j4 h2 s2=>?_
 refine aD rfl ?_
 refine aM s2 fun j5 h3 s3=>?_
 refine ax (o:=0) s3 (L':=[(j5,true,rdO ⟨[],kind,0,[],[]⟩ (.full 0 [])),(j4,true,.cells z6),(j2,true,rwO r)]) .head rfl rfl rfl (nle rfl) fun h4 s4=>?_
 have hB:=cF (a:=r.B) (n:=4) (by decide)
 refine aQ (fun n vs h'=>∃ (j:Nat) (az:List Ar),vs=[I (j:Nat)]∧n+j=5∧az.length=j∧(∀ a∈az,okA a)∧WSt h h' j5 ⟨[],kind,0,[],az⟩ [(j4,true,.cells z6),(j2,true,rwO r)]) 5 ⟨0,[],rfl,rfl,rfl,by simp,.full 0 [],[],AccF.none 5,s4⟩ ?_
 rintro n vs h5 ⟨j,az,rfl,hn,hz,hok,w5⟩
 unfold qX
 refine aj (ag w5.rest (.tail _ (.head _)) (a:=I r.B) rfl ?_)
 refine bn (by decide) (by decide) ho.2.2.1 ?_
 refine fK (ah (fun hb=>?_) (fun hb=>?_))
 ·have hj:j<4:=by have:=of_decide_eq_true hb;omega
  refine aD rfl ?_
  obtain⟨v,E,a,s5⟩:=w5
  refine aM s5 fun j7 h6 s6=>?_
  refine ax (o:=0) s6 (L':=(j7,true,.cells (arE ⟨-1,.none⟩))::(E++((j5,true,rdO ⟨[],kind,0,[],az⟩ v)::[(j4,true,.cells z6),(j2,true,rwO r)]))) .head rfl rfl rfl (nle rfl) fun h7 s7=>?_
  have fin:∀ (e:Ex) (h8:ae),okX e→bo e≤60→Fr [] h7 h8→ab 1 (.ptr j7 0) fun p=>ak 4 p (.agg (br e)) h8 fun h9=>fh (.ptr j7 0) (I (j:Nat)) (.ptr j5 0) h9
    (fun vs' h'=>∃ m,m<n∧∃ (j:Nat) (az:List Ar),vs'=[I (j:Nat)]∧m+j=5∧az.length=j∧(∀ a∈az,okA a)∧WSt h h' j5 ⟨[],kind,0,[],az⟩ [(j4,true,.cells z6),(j2,true,rwO r)]):=fun e h8 he hs f8=>by
   have s8:=s7.call f8
   refine aj (ax (o:=1) (cs:=arE ⟨-1,.none⟩) (L':=(j7,true,.cells (arE ⟨-1,e⟩))::(E++((j5,true,rdO ⟨[],kind,0,[],az⟩ v)::[(j4,true,.cells z6),(j2,true,rwO r)]))) s8 ?_ rfl (aw e) (aV e) (nle rfl) fun h9 s9=>?_)
   ·rw[aaN];exact .head
   unfold fh ri
   refine aj (ag s9 (.tail _ (List.mem_append_right _ (.head _))) (a:=v) rfl ?_)
   refine aF s9 (.head _) (by rw[bS];exact Nat.le_refl 5) ?_
   rw[List.drop_zero,List.take_of_length_le (by rw[bS];exact Nat.le_refl 5)]
   refine aB rfl (by simp[AV.isTup,AV.cells,bS]) ?_
   rw[J1]
   refine AccF.more (rs:=⟨[],kind,0,[],az⟩) (az:=[⟨-1,e⟩]) (m:=1) a s9.drop1 (by rw[List.flatMap_cons,List.flatMap_nil,List.append_nil];exact Rd.full (bS _)) rfl (by simp;omega) fun h10 w10=>?_
   refine aI (by omega) ?_
   refine⟨n-1,by omega,j+1,az++[⟨-1,e⟩],rfl,by omega,by simp[hz],fun x hx=>?_,w10⟩
   rcases List.mem_append.1 hx with hx|hx
   ·exact hok x hx
   ·simp at hx;subst hx;exact JV he hs
  refine aF s7 (.tail _ (List.mem_append_right _ (.tail _ (.tail _ (.head _))))) (nle rfl) ?_
  refine Ty (r:=r) ho (by omega) fun x h8 hx f8=>?_
  refine bn (by decide) (by decide) hx ?_
  have c1:∀ h9,Fr [] h7 h9→jo (I x) h9 (.ptr j7 0) [I (j:Nat)] (.ptr j5 0)
    (fun vs' h'=>∃ m,m<n∧∃ (j:Nat) (az:List Ar),vs'=[I (j:Nat)]∧m+j=5∧az.length=j∧(∀ a∈az,okA a)∧WSt h h' j5 ⟨[],kind,0,[],az⟩ [(j4,true,.cells z6),(j2,true,rwO r)]):=fun h9 f9=>by
   unfold jo
   refine bn (by decide) (by decide) hx ?_
   refine aA (ah (fun _=>?_) (fun _=>?_))
   ·refine yX ?_
    have hq:inI (x.tdiv 6):=by
     have:(x.tdiv 6).natAbs=x.natAbs / 6:=by rw[Int.natAbs_tdiv];rfl
     unfold inI at hx ⊢;omega
    refine nY (by decide) hq ?_
    refine bn (by decide) (by decide) hq ?_
    refine yQ labels4 (P:=fun x=>x.length≤5) (by decide) rfl (cF (by decide)) fun x hx=>?_
    refine aD rfl ?_
    exact fin (.name x) _ (by show x.length≤12;omega) (by simp[bo]) f9
   ·refine bn (by decide) (by decide) hx ?_
    have hm:=cF (a:=x) (n:=256) (by decide)
    obtain⟨m,hmm⟩:=Int.eq_ofNat_of_zero_le hm.1
    rw[hmm]
    refine aD rfl ?_
    exact fin (.num m) _ (by show m<_;omega) (by simp[bo]) f9
  refine aA (ah (fun _=>?_) (fun _=>c1 _ f8))
  have s8:=s7.call f8
  refine aj (ag s8 (.tail _ (List.mem_append_right _ (.tail _ (.tail _ (.head _))))) (a:=.snap r.E.length (xrL r.E)) rfl (cz ?_))
  refine bD (ah (fun _=>?_) (fun _=>c1 _ f8))
  refine aj (ag s8 (.tail _ (List.mem_append_right _ (.tail _ (.tail _ (.head _))))) (a:=.snap r.E.length (xrL r.E)) rfl ?_)
  refine L1 ho.2.2.2.2.2.2 (Vk _) fun e h9 he hs f9=>?_
  exact fin e _ he (by have:=hf.1;omega) (f8.trans f9 (by simp))
 ·exact w5.g.told rfl fun h' f'=>q az h' (by omega) hok f'
theorem XO:∀ r∈tbl,(cV r.kinds).length≤10:=by decide
abbrev wsO (r:RW) (j1 j2:Nat):Own:=[(j2,true,.cells z6),(j1,true,rwO r)]
theorem D2 {r:RW}{rs:RS}{j1 j2 j3:Nat}{h1:ae}(ho:okW r) (hg:B3 rs) (hl:rs.lab=[]) (w:WSg h h1 j3 rs (wsO r j1 j2)) (q:∀ rs h',B3 rs→Fr [] h h'→Q (.agg (smE 1 rs)) h'):
  cU (.ptr j3 0) (.ptr j2 0) (.ptr j1 0) h1 (fun r h'=>∃ r2 h2,Conv r h' r2 h2∧Q r2 h2):=by
 have c1:ka (.ptr j1 0) h1 (.ptr j3 0) (.ptr j2 0) (fun r h'=>∃ r2 h2,Conv r h' r2 h2∧Q r2 h2):=by
  unfold ka
  refine aj (ag w.rest (.tail _ (.head _)) (a:=I r.B) rfl ?_)
  refine yX ?_
  refine⟨ag w.rest (.tail _ (.head _)) (a:=I r.B) rfl rfl,?_⟩
  refine bn (by decide) (by decide) ho.2.2.1 ?_
  refine yQ labels4 (P:=fun x=>x.length≤5) (by decide) rfl (cF (by decide)) fun x hx=>?_
  refine aj (w.put (rs':={ rs with lab:=x }) rfl rfl rfl (nle rfl) rfl (fun v=>rfl) fun h2 w2=>?_)
  unfold jb
  exact w2.told rfl fun h' f'=>q _ h' ⟨hx,hg.2⟩ f'
 unfold cU sb
 refine aj (ag w.rest (.tail _ (.head _)) (a:=.lit (.bool r.L)) rfl ?_)
 refine ah (fun _=>c1) (fun _=>?_)
 refine aj (w.load (fun v=>rfl) ?_)
 refine aA (ah (fun _=>c1) (fun _=>?_))
 unfold jb
 exact w.told rfl fun h' f'=>q _ h' hg f'
end
end
end Go.Proofs.YtgkmmcdhhkllnaaGreatDoor.AL
namespace Go.Proofs.YtgkmmcdhhkllnaaGreatDoor.AL
noncomputable section
section
variable [Tabs]
variable {h h0:ae}{Q:QT}{K:AV→Prop}{i:Nat}
theorem YL:tbl.length=66:=by decide
abbrev CV2 (Q:QT):QT:=fun r h'=>∃ r2 h2,Conv r h' r2 h2∧Q r2 h2
theorem ZY (hW:uc) (hR:yK) {r:RW}{j1 j2 j3:Nat}{h4:ae}(ho:okW r) (hf:ML r) (w:WSt h h4 j3 ⟨[],0,0,[],[]⟩ (wsO r j1 j2)) (q:∀ rs h',B3 rs→Fr [] h h'→Q (.agg (smE 1 rs)) h') {op:Nat}(hop:op<66):
  ab 2 (.ptr j3 0) fun t31=>ak 1 t31 (I 1) h4 fun h6=>ab 3 (.ptr j3 0) fun t32=>ak 1 t32 (I (op:Nat)) h6 fun h7=>ab 3 (.ptr j3 0) fun t33=>af t33 h7 fun t34=>
   C oC [t34] h7 fun t35 h8=>C ot [t35] h8 fun t36 h9=>cc [(I 0)] h9 fun vs10 h next10=>mu t36 (.ptr j3 0) (.ptr j2 0) (.ptr j1 0) (CV2 Q) vs10 h next10:=by
 refine aj (w.put (rs':=⟨[],1,0,[],[]⟩) rfl rfl rfl (nle rfl) rfl (fun v=>rfl) fun h6 w6=>?_)
 refine aj (w6.put (rs':=⟨[],1,op,[],[]⟩) rfl rfl rfl (nle rfl) rfl (fun v=>rfl) fun h7 w7=>?_)
 refine aj (w7.load (a:=I (op:Nat)) (fun v=>rfl) ?_)
 have ht:op<tbl.length:=by rw[YL];exact hop
 have hm:tbl[op]∈tbl:=List.getElem_mem ht
 refine Nr ht fun h8 f8=>?_
 refine hW _ hm _ _ ?_
 have w8:=w7.call f8
 have hL:=XO _ hm
 have hne:=VX _ hm
 have hrk:=V9 _ hm
 have hRk:=hR _ hm
 generalize cV tbl[op].kinds=ks at hL hne hrk hRk
 have RK:∀ h,Row sE 1 h (.snap ks.length (ks.flatMap sE)) ks:=fun h=>Row.snap (enc:=sE) (fun _=>rfl) _
 refine aQ (fun n vs h'=>∃ (j:Nat) (az:List Ar),vs=[I (j:Nat)]∧n+j=ks.length∧az.length=j∧(∀ a∈az,okA a)∧WSt h h' j3 ⟨[],1,op,[],az⟩ (wsO r j1 j2)) ks.length ⟨0,[],rfl,by omega,rfl,by simp,w8⟩ ?_
 rintro n vs h5 ⟨j,az,rfl,hn,hz,hok,w5⟩
 unfold mu
 refine (RK h5).len (aJ (ah (fun hb=>?_) (fun hb=>?_)))
 ·have hj:j<ks.length:=by have:=of_decide_eq_true hb;omega
  have hmem:=List.getElem_mem hj
  obtain⟨v,E,a,s5⟩:=w5
  have hr:(j1,true,rwO r)∈E++((j3,true,rdO ⟨[],1,op,[],az⟩ v)::wsO r j1 j2):=List.mem_append_right _ (.tail _ (.tail _ (.head _)))
  have hs:(j3,true,rdO ⟨[],1,op,[],az⟩ v)∈E++((j3,true,rdO ⟨[],1,op,[],az⟩ v)::wsO r j1 j2):=List.mem_append_right _ (.head _)
  refine aj (ag s5 hs (a:=v) rfl ?_)
  refine aF s5 hr (nle rfl) ?_
  refine (RK h5).idx (fun _=>rfl) hj fun p t=>?_
  refine aK t ?_
  refine aF s5 hr (nle rfl) ?_
  refine Ty (r:=r) ho (by omega) fun x h6 hx f6=>?_
  have s6:=s5.call f6
  refine⟨aK (t.fr f6) rfl,aF s6 hr (nle rfl) rfl,ag s6 hs (a:=v) rfl rfl,?_⟩
  refine XX (r:=r) ho hf hx (hne _ hmem) (hrk _ hmem) (hRk _ hmem) fun ar h7 har f7=>?_
  have s7:=s6.call f7
  refine⟨ag s7 hs (a:=v) rfl rfl,?_⟩
  refine aB rfl (by simp[AV.isTup,AV.cells,bS]) ?_
  rw[J1]
  refine AccF.more (rs:=⟨[],1,op,[],az⟩) (az:=[ar]) (m:=1) a s7 (by rw[List.flatMap_cons,List.flatMap_nil,List.append_nil];exact Rd.full (bS _)) rfl (by simp;omega) fun h10 w10=>?_
  refine aI (by omega) ?_
  refine⟨n-1,by omega,j+1,az++[ar],rfl,by omega,by simp[hz],fun x hx=>?_,w10⟩
  rcases List.mem_append.1 hx with hx|hx
  ·exact hok x hx
  ·simp at hx;subst hx;exact har
 ·exact D2 ho ⟨by simp,by simp,(by show 1≤9;decide),fun _=>hop,(fun h=>by cases h),(by show az.length≤100;omega),hok⟩ rfl w5.g q
theorem Xp {r:RW}{j1 j2 j3:Nat}{h4:ae}{op:Nat}{az:List Ar}(ho:okW r) (hop:op<3) (hz:az.length≤10) (hok:∀ a∈az,okA a) (w:WSt h h4 j3 ⟨[],2,op,[],az⟩ (wsO r j1 j2)) (q:∀ rs h',B3 rs→Fr [] h h'→Q (.agg (smE 1 rs)) h'):
  i7 (.ptr j3 0) (.ptr j2 0) (.ptr j1 0) h4 (CV2 Q):=by
 unfold i7
 obtain⟨v,E,a,s5⟩:=w
 have hr:(j1,true,rwO r)∈E++((j3,true,rdO ⟨[],2,op,[],az⟩ v)::wsO r j1 j2):=List.mem_append_right _ (.tail _ (.tail _ (.head _)))
 have hs:(j3,true,rdO ⟨[],2,op,[],az⟩ v)∈E++((j3,true,rdO ⟨[],2,op,[],az⟩ v)::wsO r j1 j2):=List.mem_append_right _ (.head _)
 refine aj (ag s5 hs (a:=v) rfl ?_)
 refine aj (ag s5 hr (a:=I r.B) rfl ?_)
 refine yX ?_
 refine⟨ag s5 hr (a:=I r.B) rfl rfl,ag s5 hs (a:=v) rfl rfl,?_⟩
 refine bn (by decide) (by decide) ho.2.2.1 ?_
 refine⟨ag s5 hs (a:=v) rfl rfl,?_⟩
 refine yQ labels4 (P:=fun x=>x.length≤5) (by decide) rfl (cF (by decide)) fun x hx=>?_
 refine aD (cs:=br (.name x)) rfl ?_
 refine aD (CC _) ?_
 refine aB rfl (by simp[AV.isTup,AV.cells,bS]) ?_
 rw[J1]
 refine AccF.more (rs:=⟨[],2,op,[],az⟩) (az:=[⟨-1,.name x⟩]) (m:=1) a s5 (by rw[List.flatMap_cons,List.flatMap_nil,List.append_nil];exact Rd.full (bS _)) rfl (by simp;omega) fun h10 w10=>?_
 refine D2 ho ⟨by simp,by simp,(by show 2≤9;decide),(fun h=>by cases h),fun _=>hop,(by simp;omega),fun y hy=>?_⟩ rfl w10.g q
 rcases List.mem_append.1 hy with hy|hy
 ·exact hok y hy
 ·simp at hy;subst hy;exact JV (show x.length≤12 by omega) (by simp[bo])
end
end
end Go.Proofs.YtgkmmcdhhkllnaaGreatDoor.AL
namespace Go.Proofs.YtgkmmcdhhkllnaaGreatDoor.AL
noncomputable section
section
variable [Tabs]
variable {h h0:ae}{Q:QT}{K:AV→Prop}{i:Nat}
theorem FT {α:Type}{f:α→AV}{l:List α}{P:α→Prop}(hP:∀ x∈l,P x) {n:Nat}(hn:l.length=n) {j:Int}(hj:0≤j∧j<n) {K:AV→Prop}(k:∀ p x,P x→(∀ (h:ae) (K:AV→Prop),K (f x)→af p h K)→K p):an 1 (.full n (l.map f)) (I j) K:=by
 obtain⟨i,rfl⟩:=Int.eq_ofNat_of_zero_le hj.1
 have hi:i<l.length:=by omega
 refine⟨?_⟩
 simp only[dB,asI,Int.toNat_natCast,Nat.mul_one]
 refine⟨⟨by omega,by omega⟩,k _ l[i] (hP _ (List.getElem_mem hi)) fun h K kk=>?_⟩
 rw[List.drop_eq_getElem_cons (by simpa using hi)]
 rw[List.getElem_map]
 exact U0 kk
theorem X0 {r:RW}{j1 j2 j3:Nat}{h4:ae}{kd:Nat}{l:List Int}{n:Nat}(hk:kd≤9∧3≤kd) (ho:okW r) (hl:∀ x∈l,0≤x∧x≤1000) (hn:l.length=n) (h0:0<n) (hn2:n<1000) (w:WSt h h4 j3 ⟨[],0,0,[],[]⟩ (wsO r j1 j2)) (q:∀ rs h',B3 rs→Fr [] h h'→Q (.agg (smE 1 rs)) h'):
  ab 1 (.ptr j1 0) fun t117=>af t117 h4 fun t118=>ab 2 (.ptr j3 0) fun t125=>C aW [t118,I (n:Nat)] h4 fun t119 h43=>an 1 (.full n (l.map I)) t119 fun t120=>af t120 h43 fun t121=>
   ay [(I 0),(I 0),(S ⟨#[]⟩),(.full 0 [])] [(0,1,(I 1)),(1,1,t121)] fun t122=>ay [(I 0),(I 0),(I 0),(S ⟨#[]⟩),(.full 0 [])] [(0,1,(I (-1))),(1,4,t122)] fun t123=>ao 1 5 [t123] fun t124=>
   ak 1 t125 (I (kd:Nat)) h43 fun h44=>ku t120 h44 t121 (.ptr j3 0) t124 (.ptr j2 0) (.ptr j1 0) (CV2 Q):=by
 refine aj (ag w.rest (.tail _ (.head _)) (a:=I r.A) rfl (aj ?_))
 refine bn (by omega) (by omega) ho.2.1 ?_
 refine FT (f:=I) hl hn (cF (by omega)) fun p x hx hp=>?_
 refine hp _ _ ?_
 obtain⟨m,rfl⟩:=Int.eq_ofNat_of_zero_le hx.1
 refine aD (cs:=br (.num m)) rfl (aD (CC _) ?_)
 refine aB rfl (by simp[AV.isTup,AV.cells,bS]) ?_
 rw[J1]
 refine w.put (rs':=⟨[],kd,0,[],[]⟩) rfl rfl rfl (nle rfl) rfl (fun v=>rfl) fun h6 w6=>?_
 unfold ku
 refine⟨hp _ _ rfl,aj ?_⟩
 refine w6.putA (az:=[⟨-1,.num m⟩]) rfl (by simp) fun h7 w7=>?_
 refine D2 ho ⟨by simp,by simp,hk.1,(fun h=>by simp at h;omega),(fun h=>by simp at h;omega),by simp,fun y hy=>?_⟩ rfl w7.g q
 simp at hy;subst hy;exact JV (show m<4294967296 by omega) (by simp[bo])
def abW:List Str:=[[],[104,105],[97,32,35,32,98,44,32,99],[48,49,50,51,52,53,54,55,56,57],[116,97,98]]
def acm:List Str:=[[107],[115,105,122,101],[120]]
theorem Zn (hW:uc) (hR:yK) {r:RW}(ho:okW r) (hf:ML r) (q:∀ rs h',B3 rs→Fr [] h h'→Q (.agg (smE 1 rs)) h'):C nC [.agg (rwE r)] h Q:=by
 refine ACall.conv ?_
 refine CX _ _ _ ?_
 unfold Ah
 refine bB (St.start h) rfl fun j1 h1 s1=>?_
 have s1:St h [] h1 [(j1,true,rwO r)]:=s1
 refine aM s1 fun j2 h2 s2=>?_
 refine aD rfl ?_
 refine aM s2 fun j3 h3 s3=>?_
 refine ax (o:=0) s3 (L':=[(j3,true,rdO ⟨[],0,0,[],[]⟩ (.full 0 [])),(j2,true,.cells z6),(j1,true,rwO r)]) .head rfl rfl rfl (nle rfl) fun h4 s4=>?_
 have w:WSt h h4 j3 ⟨[],0,0,[],[]⟩ (wsO r j1 j2):=⟨.full 0 [],[],AccF.none 5,s4⟩
 have hr:(j1,true,rwO r)∈wsO r j1 j2:=.tail _ (.head _)
 refine aj (ag w.rest hr (a:=I r.K) rfl ?_)
 refine bn (by decide) (by decide) ho.1 ?_
 have hk:=cF (a:=r.K) (n:=16) (by decide)
 obtain⟨c,hc⟩:=Int.eq_ofNat_of_zero_le hk.1
 rw[hc]at hk ⊢
 refine aJ (ah (fun _=>?_) (fun hb1=>?_))
 ·refine aj (ag w.rest hr (a:=I r.A) rfl ?_)
  refine bn (by decide) (by decide) ho.2.1 ?_
  have hm:=cF (a:=r.A) (n:=66) (by decide)
  obtain⟨m,hmm⟩:=Int.eq_ofNat_of_zero_le hm.1
  rw[hmm]
  exact ZY hW hR ho hf w q (by omega)
 refine aJ (ah (fun _=>?_) (fun hb2=>?_))
 ·refine aj (ag w.rest hr (a:=I r.A) rfl ?_)
  refine bn (by decide) (by decide) ho.2.1 ?_
  have hm:=cF (a:=r.A) (n:=3) (by decide)
  obtain⟨m,hmm⟩:=Int.eq_ofNat_of_zero_le hm.1
  rw[hmm]at hm ⊢
  refine aj (w.put (rs':=⟨[],2,0,[],[]⟩) rfl rfl rfl (nle rfl) rfl (fun v=>rfl) fun h6 w6=>?_)
  refine aj (w6.put (rs':=⟨[],2,m,[],[]⟩) rfl rfl rfl (nle rfl) rfl (fun v=>rfl) fun h7 w7=>?_)
  refine aj (w7.load (a:=I (m:Nat)) (fun v=>rfl) ?_)
  refine aA (ah (fun _=>?_) (fun _=>Xp ho (by omega) (by simp) (by simp) w7 q))
  refine aj (ag w7.rest hr (a:=I r.B) rfl ?_)
  refine aj (ag w7.rest hr (a:=I r.B) rfl ?_)
  have hB:=ho.2.2.1
  have hq:inI (r.B.tdiv 2):=by
   have:(r.B.tdiv 2).natAbs=r.B.natAbs / 2:=by rw[Int.natAbs_tdiv];rfl
   unfold inI at hB ⊢;omega
  refine nY (by decide) hq ?_
  refine bn (by decide) (by decide) hB ?_
  refine⟨ag w7.rest hr (a:=I r.B) rfl rfl,?_⟩
  have h2:=cF (a:=r.B) (n:=2) (by decide)
  obtain⟨x,hx⟩:=Int.eq_ofNat_of_zero_le h2.1
  rw[hx]at h2 ⊢
  refine aD (cs:=br (.num x)) rfl (aD (CC _) ?_)
  refine bn (by decide) (by decide) hq ?_
  have h3:=cF (a:=r.B.tdiv 2) (n:=4) (by decide)
  obtain⟨y,hy⟩:=Int.eq_ofNat_of_zero_le h3.1
  rw[hy]at h3 ⊢
  refine aD (cs:=br (.num y)) rfl (aD (CC _) ?_)
  refine aB rfl (by simp[AV.isTup,AV.cells,bS]) ?_
  rw[abp]
  refine aj (w7.putA (az:=[⟨-1,.num x⟩,⟨-1,.num y⟩]) rfl (by simp) fun h8 w8=>?_)
  refine Xp (op:=m) ho (by omega) (by simp) (fun a ha=>?_) w8 q
  simp at ha
  rcases ha with rfl|rfl
  ·exact JV (show x<4294967296 by omega) (by simp[bo])
  ·exact JV (show y<4294967296 by omega) (by simp[bo])
 refine aJ (ah (fun hb3=>?_) (fun hb3=>?_))
 ·have h9:9≤c:=by have:=of_decide_eq_false hb2;omega
  have h12:c<12:=by have:=of_decide_eq_true hb3;omega
  refine aF w.rest hr (nle rfl) ?_
  refine aI (by omega) (cD (by omega) ?_)
  rw[show (3:Int)+(c:Nat)-9=((c-6:Nat):Int) by omega]
  refine Vm (r:=r) ho hf fun az h5 hz hok f5=>?_
  have w5:=w.call f5
  obtain⟨v,E,a,s5⟩:=w5
  refine ax (o:=0) (cs:=[I 1,T [],I 0,I 0,T [],v]) (L':=E++((j3,true,.cells (smE 1 ⟨[],c-6,0,[],az⟩))::wsO r j1 j2)) s5 (Sub.pre .head E) rfl rfl rfl (nle rfl) fun h6 s6=>?_
  refine D2 (rs:=⟨[],c-6,0,[],az⟩) ho ⟨by simp,by simp,(by show c-6≤9;omega),(fun h=>by simp at h;omega),(fun h=>by simp at h;omega),(by show az.length≤100;omega),hok⟩ rfl ⟨_,[],.inr ⟨rfl,rfl⟩,s6.sub (List.sublist_append_right _ _)⟩ q
 refine aA (ah (fun hb4=>?_) (fun hb4=>?_))
 ·refine aB rfl rfl ?_
  refine aj (ag w.rest hr (a:=I r.A) rfl (aj ?_))
  refine bn (by decide) (by decide) ho.2.1 ?_
  refine FT (f:=T) (l:=abW) (P:=fun x=>x.length≤20) (by decide) rfl (cF (by decide)) fun p x hx hp=>?_
  refine hp _ _ ?_
  refine w.put (rs':=⟨[],6,0,[],[]⟩) rfl rfl rfl (nle rfl) rfl (fun v=>rfl) fun h6 w6=>?_
  refine⟨hp _ _ rfl,aj ?_⟩
  refine w6.put (rs':=⟨[],6,0,x,[]⟩) rfl rfl rfl (nle rfl) rfl (fun v=>rfl) fun h7 w7=>?_
  exact D2 ho ⟨by simp,hx,(by show 6≤9;decide),(fun h=>by cases h),(fun h=>by cases h),by simp,by simp⟩ rfl w7.g q
 refine aA (ah (fun hb5=>?_) (fun hb5=>?_))
 ·refine aB rfl rfl ?_
  exact X0 (l:=[1,2,4,8,16,3]) (kd:=7) (by decide) ho (by decide) rfl (by decide) (by decide) w q
 refine aA (ah (fun hb6=>?_) (fun hb6=>?_))
 ·refine aB rfl rfl ?_
  exact X0 (l:=[0,2,100,250,252,254,256,7]) (kd:=8) (by decide) ho (by decide) rfl (by decide) (by decide) w q
 ·refine aB rfl rfl ?_
  refine aj (ag w.rest hr (a:=I r.A) rfl ?_)
  refine aj (ag w.rest hr (a:=.snap r.E.length (xrL r.E)) rfl (aj ?_))
  refine bn (by decide) (by decide) ho.2.1 ?_
  refine⟨ag w.rest hr (a:=.snap r.E.length (xrL r.E)) rfl rfl,?_⟩
  refine FT (f:=T) (l:=acm) (P:=fun x=>x.length≤20) (by decide) rfl (cF (by decide)) fun p x hx hp=>?_
  refine hp _ _ ?_
  refine L1 ho.2.2.2.2.2.2 (Vk _) fun e h5 he hs f5=>?_
  have w5:=w.call f5
  refine⟨hp _ _ rfl,?_⟩
  refine aD (CC _) ?_
  refine aB rfl (by simp[AV.isTup,AV.cells,bS]) ?_
  rw[J1]
  refine w5.put (rs':=⟨[],9,0,[],[]⟩) rfl rfl rfl (nle rfl) rfl (fun v=>rfl) fun h6 w6=>?_
  refine⟨hp _ _ rfl,aj ?_⟩
  refine w6.put (rs':=⟨[],9,0,x,[]⟩) rfl rfl rfl (nle rfl) rfl (fun v=>rfl) fun h7 w7=>?_
  refine aj (w7.putA (az:=[⟨-1,e⟩]) rfl (by simp) fun h8 w8=>?_)
  refine D2 ho ⟨by simp,hx,(by show 9≤9;decide),(fun h=>by cases h),(fun h=>by cases h),by simp,fun y hy=>?_⟩ rfl w8.g q
  simp at hy;subst hy;exact JV he (by have:=hf.1;omega)
end
end
end Go.Proofs.YtgkmmcdhhkllnaaGreatDoor.AL
namespace Go.Proofs.YtgkmmcdhhkllnaaGreatDoor.AL
noncomputable section
section
variable [Tabs]
variable {h h0:ae}{Q:QT}{K:AV→Prop}{i:Nat}
theorem Vq:∀ r∈tbl,r.name.length≤20:=by decide
theorem QM {op:Nat}(ho:op<tbl.length) (k:∀ h',Fr [] h h'→Q (T (tbl[op]).name) h'):C uO [I (op:Nat)] h Q:=by
 refine MZ _ _ _ ?_
 unfold J4
 refine Lg (op:Int) [32] fun h1 f1=>?_
 rw[T7 ho]
 refine aG rfl (aG rfl (aG rfl ?_))
 refine aM ((St.start h).call f1) fun q h2 s2=>?_
 refine ax (o:=0) s2 .head rfl rfl rfl (nle rfl) fun h3 s3=>?_
 refine aj (ag s3 (.head _) (a:=T (tbl[op]).name) rfl ?_)
 exact k _ s3.fr
theorem XB {rs:RS}(hg:B3 rs) (q:∀ s h',s.length≤20→Fr [] h h'→Q (T s) h'):C vP [.agg (smE 1 rs)] h Q:=by
 refine L3 _ _ _ ?_
 unfold KJ
 refine bB (St.start h) rfl fun j1 h1 s1=>?_
 have s1:St h [] h1 [(j1,true,.cells (smE 1 rs))]:=s1
 refine aj (ag s1 (.head _) (a:=I (rs.kind:Nat)) rfl ?_)
 refine aA (ah (fun hb=>?_) (fun _=>?_))
 ·have hk:rs.kind=1:=by have:=of_decide_eq_true hb;omega
  have ho:=hg.2.2.2.1 hk
  refine aj (ag s1 (.head _) (a:=I (rs.op:Nat)) rfl ?_)
  refine QM (by rw[YL];exact ho) fun h2 f2=>?_
  exact q _ _ (Vq _ (List.getElem_mem _)) (s1.call f2).fr
 refine aA (ah (fun hb=>?_) (fun _=>?_))
 ·have hk:rs.kind=2:=by have:=of_decide_eq_true hb;omega
  have ho:=hg.2.2.2.2.1 hk
  refine aB rfl rfl ?_
  refine aj (ag s1 (.head _) (a:=I (rs.op:Nat)) rfl ?_)
  exact yQ [[98],[98,108],[98,99]] (P:=fun x=>x.length≤20) (by decide) (n:=3) rfl (by omega) fun x hx=>q _ _ hx s1.fr
 refine aA (ah (fun _=>q _ _ (by decide) s1.fr) (fun _=>?_))
 refine aA (ah (fun _=>q _ _ (by decide) s1.fr) (fun _=>?_))
 refine aA (ah (fun _=>q _ _ (by decide) s1.fr) (fun _=>?_))
 refine aA (ah (fun _=>q _ _ (by decide) s1.fr) (fun _=>?_))
 refine aA (ah (fun _=>q _ _ (by decide) s1.fr) (fun _=>?_))
 refine aA (ah (fun _=>q _ _ (by decide) s1.fr) (fun _=>?_))
 exact q _ _ (by decide) s1.fr
abbrev okO (out:List Str):Prop:=∀ s∈out,s.length≤130000
theorem Lq {rs:RS}{v:AV}{s:Str}{out:List Str}{E:Own}{j1:Nat}{h1:ae}(hg:B3 rs) (hs:s.length≤100) (ho:okO out) (hn:out.length≤2) (a:AccF 1 v out.length (out.flatMap sE) E) (s1:St h [] h1 (E++[(j1,true,.cells (smE 1 rs))]))
  (q:∀ s h',s.length≤20000000→Fr [] h h'→Q (T s) h'):oB v (T s) (.ptr j1 0) h1 Q:=by
 unfold oB
 refine aQ (fun n vs h'=>∃ (j:Nat) (v:AV) (out:List Str) (E:Own),vs=[v,I (j:Nat)]∧n+j=rs.args.length∧okO out∧out.length≤2+j∧AccF 1 v out.length (out.flatMap sE) E∧St h [] h' (E++[(j1,true,.cells (smE 1 rs))])) rs.args.length ⟨0,v,out,E,rfl,by omega,ho,by omega,a,s1⟩ ?_
 rintro n vs h2 ⟨j,v,out,E,rfl,hm,ho,hn,a,s2⟩
 unfold zQ
 have hmem:(j1,true,.cells (smE 1 rs))∈E++[(j1,true,.cells (smE 1 rs))]:=List.mem_append_right _ (.head _)
 have RA:∀ h,Row arE 5 h (.snap rs.args.length (rs.args.flatMap arE)) rs.args:=fun h=>Row.snap bS _
 have hal:=hg.2.2.2.2.2.1
 refine aj (ag s2 hmem (a:=.snap rs.args.length (rs.args.flatMap arE)) rfl ?_)
 refine (RA h2).len (aJ (ah (fun hb=>?_) (fun hb=>?_)))
 ·have hj:j<rs.args.length:=by have:=of_decide_eq_true hb;omega
  have hok:=hg.2.2.2.2.2.2 _ (List.getElem_mem hj)
  have go:∀ (x:Str) (h3:ae),x.length≤130000→Fr [] h2 h3→ao 1 1 [T x] fun t66=>bg 1 16 v t66 h3 fun t67 h6=>iB t67 (I (j:Nat)) h6 (fun vs' h'=>∃ m,m<n∧∃ (j:Nat) (v:AV) (out:List Str) (E:Own),vs'=[v,I (j:Nat)]∧m+j=rs.args.length∧okO out∧out.length≤2+j∧AccF 1 v out.length (out.flatMap sE) E∧St h [] h' (E++[(j1,true,.cells (smE 1 rs))])):=fun x h3 hx f3=>by
   have s3:=s2.call f3
   refine aB rfl rfl ?_
   refine a.app s3 (xs:=[T x]) (m:=1) (Rd.full rfl) rfl (by omega) fun v3 E3 h8 a3 s8=>?_
   unfold iB pT
   refine aI (by omega) ?_
   refine⟨n-1,by omega,j+1,v3,out++[x],E3,rfl,by omega,fun y hy=>?_,by simp;omega,by simpa using a3,s8⟩
   rcases List.mem_append.1 hy with hy|hy
   ·exact ho y hy
   ·simp at hy;subst hy;exact hx
  refine aj (ag s2 hmem (a:=.snap rs.args.length (rs.args.flatMap arE)) rfl ?_)
  refine (RA h2).idx bS hj fun p t=>?_
  refine x5 t (by rw[bS];decide) fun p t=>?_
  refine aK t ?_
  refine bz (ah (fun hc=>?_) (fun hc=>?_))
  ·have hc:=of_decide_eq_true hc
   refine aj (ag s2 hmem (a:=.snap rs.args.length (rs.args.flatMap arE)) rfl ?_)
   refine (RA h2).idx bS hj fun p t=>?_
   refine x5 t (by rw[bS];decide) fun p t=>?_
   refine aK t ?_
   refine Ls (by rcases hok with hok|hok<;>omega) fun x h3 hl _ f3=>?_
   refine d3 (by simp;omega) ?_
   exact go _ _ (by simp;omega) f3
  ·have hc:=of_decide_eq_false hc
   refine aj (ag s2 hmem (a:=.snap rs.args.length (rs.args.flatMap arE)) rfl ?_)
   refine (RA h2).idx bS hj fun p t=>?_
   refine x5 t (by rw[bS];decide) fun p t=>?_
   have t:Pt h2 p (br rs.args[j].e):=t
   refine bq t (aw _).symm ?_
   obtain⟨_,he,hs⟩:=hok.resolve_left (fun h=>hc h.1)
   refine PX 60 (by decide) _ hs he _ _ fun x h3 hl f3=>?_
   exact go _ _ (by omega) f3
 ·refine aQ (fun n vs h'=>∃ (j:Nat) (z:Str),vs=[T z,I (j:Nat)]∧n+j=out.length∧z.length≤100+j*130002∧h'=h2) out.length ⟨0,s,rfl,by omega,by omega,rfl⟩ ?_
  rintro m vs h' ⟨j',z,rfl,hm',hz,rfl⟩
  have RO:Row sE 1 h' v out:=by
   obtain⟨hl,⟨rfl,rfl⟩|⟨j,rfl,rfl⟩⟩:=a
   ·exact Row.full (enc:=sE) (sz:=1) (fun _=>rfl) _
   ·exact Row.sl (enc:=sE) (sz:=1) (fun _=>rfl) (s2.get (.head _))
  unfold zu
  refine RO.len (aJ (ah (fun hb=>?_) (fun hb=>?_)))
  ·have hj:j'<out.length:=by have:=of_decide_eq_true hb;omega
   have hx:=ho _ (List.getElem_mem hj)
   refine aA (ah (fun _=>?_) (fun _=>?_))
   ·refine d3 (by simp;omega) ?_
    unfold qn
    refine RO.idx (fun _=>rfl) hj fun p t=>?_
    refine aK t (d3 (by simp;omega) ?_)
    unfold iB pT
    refine aI (by omega) ?_
    exact⟨m-1,by omega,j'+1,_,rfl,by omega,by simp;omega,rfl⟩
   ·refine d3 (by simp;omega) ?_
    unfold qn
    refine RO.idx (fun _=>rfl) hj fun p t=>?_
    refine aK t (d3 (by simp;omega) ?_)
    unfold iB pT
    refine aI (by omega) ?_
    exact⟨m-1,by omega,j'+1,_,rfl,by omega,by simp;omega,rfl⟩
  ·exact q _ _ (by omega) s2.fr
theorem Xj {rs:RS}(hg:B3 rs) (q:∀ s h',s.length≤20000000→Fr [] h h'→Q (T s) h'):C vj [.agg (smE 1 rs)] h Q:=by
 refine LU _ _ _ ?_
 unfold Kx
 refine bB (St.start h) rfl fun j1 h1 s1=>?_
 have s1:St h [] h1 [(j1,true,.cells (smE 1 rs))]:=s1
 have j17:∀ (s:Str) (v:AV) (out:List Str) (E:Own) (h2:ae),s.length≤100→okO out→out.length≤1→AccF 1 v out.length (out.flatMap sE) E→St h [] h2 (E++[(j1,true,.cells (smE 1 rs))])→oA v (T s) (.ptr j1 0) h2 Q:=fun s v out E h2 hs ho hn a s2=>by
  unfold oA
  have hmem:(j1,true,.cells (smE 1 rs))∈E++[(j1,true,.cells (smE 1 rs))]:=List.mem_append_right _ (.head _)
  refine aj (ag s2 hmem (a:=I (rs.kind:Nat)) rfl ?_)
  refine aA (ah (fun _=>?_) (fun _=>?_))
  ·refine aj (ag s2 hmem (a:=T rs.text) rfl (aB rfl rfl ?_))
   refine a.app s2 (xs:=[T rs.text]) (m:=1) (Rd.full rfl) rfl (by omega) fun v3 E3 h8 a3 s8=>?_
   refine Lq (out:=out++[rs.text]) hg hs (fun y hy=>?_) (by simp;omega) (by simpa using a3) s8 q
   rcases List.mem_append.1 hy with hy|hy
   ·exact ho y hy
   ·simp at hy;subst hy;have:=hg.2.1;omega
  ·exact Lq hg hs ho (by omega) a s2 q
 have j18:∀ (s:Str),s.length≤10→ow (T s) (.ptr j1 0) h1 Q:=fun s hs=>by
  unfold ow
  refine aF s1 (.head _) (nle rfl) ?_
  refine XB hg fun n h2 hn f2=>?_
  have s2:=s1.call f2
  refine d3 (by omega) ?_
  refine aj (ag s2 (.head _) (a:=I (rs.kind:Nat)) rfl ?_)
  refine aA (ah (fun _=>?_) (fun _=>?_))
  ·have ht:=hg.2.1
   refine aj (ag s2 (.head _) (a:=T rs.text) rfl (d3 (by simp;omega) (d3 (by simp;omega) ?_)))
   refine aB rfl rfl ?_
   refine (AccF.none 1).app (E:=[]) s2 (xs:=[T _]) (m:=1) (Rd.full rfl) rfl (by omega) fun v3 E3 h8 a3 s8=>?_
   refine j17 (s++n) v3 [[34]++rs.text++[34]] E3 h8 (by simp;omega) (fun y hy=>?_) (by simp) a3 s8
   simp at hy;subst hy;simp;omega
  ·exact j17 (s++n) _ [] [] _ (by rw[List.length_append];omega) (fun y hy=>by cases hy) (by simp) (.none 1) s2
 have j19:∀ (s:Str),s.length≤9→ox (T s) (.ptr j1 0) h1 Q:=fun s hs=>by
  unfold ox
  refine aj (ag s1 (.head _) (a:=I (rs.kind:Nat)) rfl ?_)
  refine aA (ah (fun _=>q _ _ (by omega) s1.fr) (fun _=>?_))
  refine nD (ah (fun _=>?_) (fun _=>j18 _ (by omega)))
  refine d3 (by simp;omega) (j18 (s++[32]) (by simp;omega))
 have hl:=hg.1
 refine aj (ag s1 (.head _) (a:=T rs.lab) rfl ?_)
 refine nD (ah (fun _=>?_) (fun _=>j19 [] (by simp)))
 refine aj (ag s1 (.head _) (a:=T rs.lab) rfl (d3 (by simp;omega) (j19 _ (by simp;omega))))
theorem Yy (hW:uc) (hR:yK) {l:List RW}{ns:List Int}{v1 v2:AV}{most:Nat}(ho:∀ r∈l,okW r∧ML r) (hi:∀ n∈ns,inI n) (hl:l.length≤9223372036854775807) (hm:most≤1000000) (r1:∀ h,Row rwE 6 h v1 l) (r2:∀ h,Row (fun n:Int=>[I n]) 1 h v2 ns)
  (q:∀ s h',s.length≤most→Fr [] h h'→Q (T s) h'):C uV [v1,v2,I (most:Nat)] h Q:=by
 refine Nm _ _ _ _ _ ?_
 unfold Kf
 refine aQ (fun n vs h'=>∃ (j:Nat) (s:Str),vs=[T s,I (j:Nat)]∧n+j=l.length∧s.length≤most∧Fr [] h h') l.length ⟨0,[],rfl,by omega,by simp,Fr.refl _ _⟩ ?_
 rintro n vs h1 ⟨j,s,rfl,hn,hs,f1⟩
 unfold Bk
 have j8:j<l.length→∀ k:Int,p7 (I k) (T s) (I (j:Nat)) v1 (I (most:Nat)) h1 (fun vs' h'=>∃ m,m<n∧∃ (j:Nat) (s:Str),vs'=[T s,I (j:Nat)]∧m+j=l.length∧s.length≤most∧Fr [] h h') Q:=fun hj k=>by
  unfold p7
  refine (r1 h1).idx rK hj fun p t=>?_
  refine bq t (rK _).symm ?_
  obtain⟨hw,hf⟩:=ho _ (List.getElem_mem hj)
  refine Zn hW hR hw hf fun rs h2 hg f2=>?_
  refine Xj hg fun x h3 hx f3=>?_
  have f:=f1.trans (f2.trans f3 (by simp)) (by simp)
  have b7:∀ x:Str,x.length≤20000100→ki (T x) (T s) (I (j:Nat)) (I (most:Nat)) h3 (fun vs' h'=>∃ m,m<n∧∃ (j:Nat) (s:Str),vs'=[T s,I (j:Nat)]∧m+j=l.length∧s.length≤most∧Fr [] h h') Q:=fun x hx=>by
   unfold ki Be
   refine aZ (aZ (aI (by omega) (aI (by omega) ?_)))
   refine bD (ah (fun _=>?_) (fun hb=>?_))
   ·unfold qk uR
    exact q _ _ hs f
   ·have hb:=of_decide_eq_false hb
    refine d3 (by omega) (d3 (by simp;omega) ?_)
    refine aI (by omega) ?_
    exact⟨n-1,by omega,j+1,_,rfl,by omega,by simp;omega,f⟩
  refine aA (ah (fun _=>b7 [] (by simp)) (fun _=>?_))
  refine aA (ah (fun _=>?_) (fun _=>?_))
  ·exact d3 (by simp;omega) (b7 _ (by simp;omega))
  refine aA (ah (fun _=>?_) (fun _=>b7 _ (by omega)))
  exact d3 (by simp;omega) (d3 (by simp;omega) (b7 _ (by simp;omega)))
 refine (r1 h1).len (aJ (ah (fun hb=>?_) (fun hb=>?_)))
 ·have hj:j<l.length:=by have:=of_decide_eq_true hb;omega
  refine (r2 h1).len (aJ (ah (fun hc=>?_) (fun _=>j8 hj _)))
  have hj2:j<ns.length:=by have:=of_decide_eq_true hc;omega
  refine (r2 h1).idx (fun _=>rfl) hj2 fun p t=>?_
  refine aK t ?_
  refine bn (by decide) (by decide) (hi _ (List.getElem_mem hj2)) ?_
  exact j8 hj _
 ·unfold qk uR
  exact q _ _ hs f1
end
end
end Go.Proofs.YtgkmmcdhhkllnaaGreatDoor.AL
namespace Go.Proofs.YtgkmmcdhhkllnaaGreatDoor.AL
noncomputable section
section
variable [Tabs]
variable {h0 h:ae}{M:List Nat}{L R:Own}{K:AV→Prop}{Q:QT}{i:Nat}{w:WkM}
theorem vd {i6 i4:Nat}{r z:Rq}(s:St h0 M h [(i6,true,.cells (rqL r)),(i4,true,.cells (rqL z))]) (k:∀ h',Fr M h0 h'→Q (rqE r) h'):d8 (.ptr i6 0) (.ptr i4 0) h Q:=by
 unfold d8 zA
 refine aF s (.head _) (nle rfl) ?_
 refine ax s (.tail .head) rfl rfl rfl (nle rfl) fun h s=>?_
 refine aF s (.tail _ (.head _)) (nle rfl) ?_
 exact k _ s.fr
theorem FC {a n:Int}(hn:0<n) (hn2:n≤9223372036854775807) (ha:inI a) (k:Q (I (a%n)) h):C ej [I a,I n] h Q:=by
 refine xp _ _ _ _ ?_
 unfold xt
 refine mJ (by omega) ?_
 refine aJ (ah (fun hb=>?_) (fun hb=>?_))
 ·have hb:=of_decide_eq_true hb
  refine aI (by have:=FK ha hn;omega) ?_
  rw[(pZ a hn).1 hb];exact k
 ·have hb:=of_decide_eq_false hb
  rw[(pZ a hn).2 hb];exact k
def TS (r:Rq):Prop:=ml r=true∧r.name.length≤4∧r.text.length≤300
theorem B4 {n d:Int}(hn:0≤n) (hd:0<d):0≤n.tdiv d∧n.tdiv d≤n:=by
 rw[Int.tdiv_eq_ediv_of_nonneg hn]
 exact⟨Int.ediv_nonneg hn (by omega),Int.ediv_le_self _ hn⟩
theorem Lj {i6 i4:Nat}{m n:Int}{nm t:Str}(hn:0≤n∧n≤1152921504606846976) (hm:0≤m∧m≤n) (hw:eH nm=true) (hl:nm.length≤4) (ht:t.length≤300) (s:St h0 [] h [(i6,true,.cells (rqL ⟨0,nm,[],0⟩)),(i4,true,.cells (rqL ⟨0,[],[],0⟩))])
  (k:∀ r h',Fr [] h0 h'→TS r→Q (rqE r) h'):oo (T t) (.ptr i6 0) (I m) (.ptr i4 0) (I n) h Q:=by
 unfold oo
 refine mz (by decide) (by decide) (by omega) ?_
 have wd:∀ c:Int,1≤c→c≤6→TS ⟨c,nm,[],0⟩:=fun c h1 h6=>⟨yc ⟨h1,h6⟩ hw (by simp) (.inl rfl) (.inl rfl),hl,by simp⟩
 have wt:∀ c:Int,1≤c→c≤6→mI c=true→TS ⟨c,nm,t,0⟩:=fun c h1 h6 hc=>⟨yc ⟨h1,h6⟩ hw (by omega) (.inr hc) (.inl rfl),hl,ht⟩
 (repeat refine aJ ?_)
 refine ah (fun b1=>?_) (fun b1=>?_)<;>simp only[za,zb,zc,zd,ze,zf,zg,zh,zi,u8i,zj,zk,zl]at b1
 ·(refine aj ?_;refine ax s .head rfl rfl rfl (nle rfl) fun h s=>?_)
  (refine aj ?_;refine ax s .head rfl rfl rfl (nle rfl) fun h s=>?_)
  (refine vd (r:=⟨_,_,_,_⟩) (z:=⟨0,[],[],0⟩) s fun h f=>?_;refine k _ _ f ?_)
  exact wt 1 (by decide) (by decide) (by decide)
 ·(repeat refine aJ ?_)
  refine ah (fun b2=>?_) (fun b2=>?_)<;>simp only[za,zb,zc,zd,ze,zf,zg,zh,zi,u8i,zj,zk,zl]at b2
  ·(refine aj ?_;refine ax s .head rfl rfl rfl (nle rfl) fun h s=>?_)
   (refine vd (r:=⟨_,_,_,_⟩) (z:=⟨0,[],[],0⟩) s fun h f=>?_;refine k _ _ f ?_)
   exact wd 2 (by decide) (by decide)
  ·(repeat refine aJ ?_)
   refine ah (fun b3=>?_) (fun b3=>?_)<;>simp only[za,zb,zc,zd,ze,zf,zg,zh,zi,u8i,zj,zk,zl]at b3
   ·(refine aj ?_;refine ax s .head rfl rfl rfl (nle rfl) fun h s=>?_)
    (refine aj ?_;refine ax s .head rfl rfl rfl (nle rfl) fun h s=>?_)
    (refine vd (r:=⟨_,_,_,_⟩) (z:=⟨0,[],[],0⟩) s fun h f=>?_;refine k _ _ f ?_)
    exact wt 3 (by decide) (by decide) (by decide)
   ·(repeat refine aJ ?_)
    refine ah (fun b4=>?_) (fun b4=>?_)<;>simp only[za,zb,zc,zd,ze,zf,zg,zh,zi,u8i,zj,zk,zl]at b4
    ·(refine aj ?_;refine ax s .head rfl rfl rfl (nle rfl) fun h s=>?_)
     (refine vd (r:=⟨_,_,_,_⟩) (z:=⟨0,[],[],0⟩) s fun h f=>?_;refine k _ _ f ?_)
     exact wd 4 (by decide) (by decide)
    ·(repeat refine aJ ?_)
     refine ah (fun b5=>?_) (fun b5=>?_)<;>simp only[za,zb,zc,zd,ze,zf,zg,zh,zi,u8i,zj,zk,zl]at b5
     ·refine aB rfl rfl ?_
      have hq2:=B4 (d:=12) hm.1 (by decide)
      refine nY (by decide) (by omega) ?_
      refine aj ?_
      refine mz (by decide) (by decide) (by omega) ?_
      refine FT (f:=I) (l:=[0,1,7,300,-1,1099511627776,-1099511627776]) (P:=fun x=>-1099511627776≤x∧x≤(1099511627776:Int)) (by decide) rfl (cF (by decide)) fun p x hx hp=>?_
      refine hp _ _ ?_
      refine ax s .head rfl rfl rfl (nle rfl) fun h s=>?_
      refine⟨hp _ _ rfl,?_⟩
      (refine aj ?_;refine ax s .head rfl rfl rfl (nle rfl) fun h s=>?_)
      (refine vd (r:=⟨_,_,_,_⟩) (z:=⟨0,[],[],0⟩) s fun h f=>?_;refine k _ _ f ?_)
      exact⟨yc ⟨by decide,by decide⟩ hw (by simp) (.inl rfl) (.inr ⟨rfl,hx⟩),hl,by simp⟩
     ·(repeat refine aJ ?_)
      refine ah (fun b6=>?_) (fun b6=>?_)<;>simp only[za,zb,zc,zd,ze,zf,zg,zh,zi,u8i,zj,zk,zl]at b6
      ·(refine aj ?_;refine ax s .head rfl rfl rfl (nle rfl) fun h s=>?_)
       (refine vd (r:=⟨_,_,_,_⟩) (z:=⟨0,[],[],0⟩) s fun h f=>?_;refine k _ _ f ?_)
       exact wd 6 (by decide) (by decide)
      ·(refine aj ?_;refine ax s .head rfl rfl rfl (nle rfl) fun h s=>?_)
       (refine aj ?_;refine ax s .head rfl rfl rfl (nle rfl) fun h s=>?_)
       (refine vd (r:=⟨_,_,_,_⟩) (z:=⟨0,[],[],0⟩) s fun h f=>?_;refine k _ _ f ?_)
       exact⟨by decide,by simp,by simp⟩
theorem RD {α:Type}{enc:α→List AV}{sz:Nat}(hs:∀ x,(enc x).length=sz) {l:List α}{j:Int}(h0:0≤j) (h1:j≤l.length) (k:K (.snap (l.drop j.toNat).length ((l.drop j.toNat).flatMap enc))):lu sz (.snap l.length (l.flatMap enc)) (some (I j)) none K:=⟨by
 simp only[iC,lk,asI]
 refine⟨⟨h0,h1,Int.le_refl _⟩,?_⟩
 have e1:((l.length:Nat):Int).toNat-j.toNat=(l.drop j.toNat).length:=by simp
 have e2:((l.flatMap enc).drop (j.toNat*sz)).take ((((l.length:Nat):Int).toNat-j.toNat)*sz)=(l.drop j.toNat).flatMap enc:=by
  have hj:j.toNat≤l.length:=by omega
  generalize j.toNat=q at hj
  have hq:=eP enc sz hs (l.take q)
  rw[List.length_take,Nat.min_eq_left hj]at hq
  have e3:(l.flatMap enc).drop (q*sz)=(l.drop q).flatMap enc:=by
   have e4:l.flatMap enc=(l.take q).flatMap enc++(l.drop q).flatMap enc:=by rw[← List.flatMap_append,List.take_append_drop]
   rw[e4,← hq,List.drop_left]
  rw[e3,List.take_of_length_le]
  rw[eP enc sz hs];simp
 rw[e2,e1];exact k⟩
theorem W4 (hW:uc) (hR:yK) {n:Int}(hn:0≤n) (hn2:n≤1152921504606846976) {l:List RW}(ho:∀ r∈l,okW r∧ML r) (hl:l.length≤9223372036854775807) (k:∀ r h',Fr [] h h'→TS r→Q (rqE r) h'):C vC [I n,.snap l.length (l.flatMap rwE)] h Q:=by
 refine MJ _ _ _ _ ?_
 unfold KY
 refine aM (St.start h) fun i4 h s=>?_
 have hq:=B4 (d:=16) hn (by decide)
 refine nY (by decide) (by omega) ?_
 refine MT (by omega) ?_
 obtain⟨hw,hl4⟩:=Rf (n.tdiv 16)
 generalize K7 (n.tdiv 16)=nm at hw hl4 ⊢
 generalize n.tdiv 16=m at hq ⊢
 refine aD rfl ?_
 refine aM s fun i6 h s=>?_
 refine ax s .head rfl rfl rfl (nle rfl) fun h s=>?_
 refine cz (bD (ah (fun hb=>?_) (fun hb=>?_)))
 ·have hpos:0<l.length:=by have:=of_decide_eq_true hb;omega
  have h12:=B4 (d:=12) hq.1 (by decide)
  refine nY (by decide) (by omega) ?_
  refine cz ?_
  refine FC (by omega) (by omega) (by unfold inI;omega) ?_
  have hj:=cF (a:=m.tdiv 12) (n:=(l.length:Nat)) (by omega)
  refine RD rK hj.1 (by omega) ?_
  have h5:=B4 (d:=5) hq.1 (by decide)
  have h7:=B4 (d:=7) hq.1 (by decide)
  refine nY (by decide) (by omega) (nY (by decide) (by omega) ?_)
  refine aB rfl rfl ?_
  refine Yy hW hR (l:=l.drop (m.tdiv 12%(l.length:Nat)).toNat) (ns:=[m,m.tdiv 5,m.tdiv 7]) (most:=300) (fun r hr=>ho r (List.mem_of_mem_drop hr)) (fun x hx=>?_) (by simp;omega) (by decide) (fun h=>Row.snap rK _) (fun h=>Row.full (enc:=fun n:Int=>[I n]) (sz:=1) (fun _=>rfl) [m,m.tdiv 5,m.tdiv 7]) fun t h2 ht f2=>?_
  ·unfold inI
   simp at hx
   rcases hx with rfl|rfl|rfl<;>omega
  ·exact Lj ⟨hn,hn2⟩ hq hw hl4 ht (s.call f2) k
 ·exact Lj ⟨hn,hn2⟩ hq hw hl4 (t:=[]) (by simp) s k
end
end
end Go.Proofs.YtgkmmcdhhkllnaaGreatDoor.AL
namespace Go.Proofs.YtgkmmcdhhkllnaaGreatDoor.AL
noncomputable section
section
variable [Tabs]
variable {h0 h:ae}{M:List Nat}{L R:Own}{K:AV→Prop}{Q:QT}{i:Nat}{w:WkM}
structure ado (w:WkM) (r:Rq) (e:Int) (t:Str) (a b:AV) (la lb:Nat):Prop where
 eq:GB w r=[I e,T t,a,b]
 one:(a.one&&b.one)=true
 lenA:∀ K:AV→Prop,K (I (la:Nat))→aX a K
 lenB:∀ K:AV→Prop,K (I (lb:Nat))→aX b K
 same:e≠0→doG w r=w
 text:t≠[]→r.kind=4∧e=0
 image:0<la→r.kind=7∧e=0
 diags:0<lb↔e=14
 errs:e=14→r.kind=7
theorem aaZ (w:WkM) {r:Rq}(hr:ml r=true):∃ e t a b la lb,ado w r e t a b la lb:=by
 by_cases h7:r.kind=7
 ·by_cases hd:kB w.f w.s=[]
  ·refine⟨0,[],.snap (vI w.f w.s).length ((vI w.f w.s).flatMap bE),.full 0 [],(vI w.f w.s).length,0,?_,rfl,fun K k=>cz k,fun K k=>ef k,fun h=>absurd rfl h,fun h=>absurd rfl h,fun _=>⟨h7,rfl⟩,⟨fun h=>by omega,fun h=>by cases h⟩,fun h=>by cases h⟩
   unfold GB yf;rw[if_pos h7,if_pos hd]
  ·refine⟨14,[],.full 0 [],.snap (kB w.f w.s).length ((kB w.f w.s).flatMap dE),0,(kB w.f w.s).length,?_,rfl,fun K k=>ef k,fun K k=>cz k,fun h=>?_,fun h=>absurd rfl h,fun h=>by omega,⟨fun _=>rfl,fun _=>List.length_pos_iff.2 hd⟩,fun _=>h7⟩
   ·unfold GB yf;rw[if_pos h7,if_neg hd]
   ·unfold doG;rw[if_pos h7]
 ·have key:∃ e t,(doW w r).2.1=e∧(doW w r).2.2=t∧e≠14∧(e≠0→(doW w r).1=w)∧(t≠[]→r.kind=4∧e=0):=by
   refine⟨_,_,rfl,rfl,?_⟩
   unfold doW
   rw[if_neg (by simp[hr])]
   unfold PA P0 O0 EU EX O7 xr
   repeat' split
   all_goals (refine⟨by simp,fun h=>?_,fun h=>?_⟩<;>simp_all)
  obtain⟨e,t,h1,h2,h3,h4,h5⟩:=key
  refine⟨e,t,.full 0 [],.full 0 [],0,0,?_,rfl,fun K k=>ef k,fun K k=>ef k,fun h=>?_,h5,fun h=>by omega,⟨fun h=>by omega,fun h=>absurd h h3⟩,fun h=>absurd h h3⟩
  ·unfold GB;rw[if_neg h7,h1,h2]
  ·unfold doG;rw[if_neg h7];exact h4 h
abbrev rqO (r:Rq):AObj:=.cells (rqL r)
end
end
end Go.Proofs.YtgkmmcdhhkllnaaGreatDoor.AL
namespace Go.Proofs.YtgkmmcdhhkllnaaGreatDoor.AL
noncomputable section
section
variable [Tabs]
variable {h0 h:ae}{M:List Nat}{L R:Own}{K:AV→Prop}{Q:QT}{i:Nat}{w:WkM}
theorem acv {a b:Bool}(k:K (B (a != b))):Ef .neq (B a) (B b) K:=⟨k⟩
theorem SO (hk:Zj) (hF:cB) (hI:gH) (hA:ju) (hL:dz) (hks:Md) (hW:uc) (hR:yK) {ns:List Int}(hi:∀ x∈ns,inI x) {l:List RW}(hl:l.length≤9223372036854775807) (ho:∀ r∈l,okW r) (k:∀ h',Q (B true) h'):
  C mH [.snap ns.length (ns.flatMap fun n=>[I n]),.snap l.length (l.flatMap rwE)] h Q:=by
 refine BF _ _ _ _ ?_
 unfold xR
 refine hk _ _ (bm (ah (fun h=>by cases h) (fun _=>?_)))
 refine aas hl ho (Row.snap rK l) (fun hf=>?_) (bm (ah (fun _=>k _) (fun h=>by cases h)))
 have ho:∀ r∈l,okW r∧ML r:=fun r hr=>⟨ho r hr,hf r hr⟩
 refine bm (ah (fun h=>by cases h) (fun _=>?_))
 refine abf (St.start h) fun i hh s=>?_
 refine W6 (ah (fun h=>by cases h) (fun _=>?_))
 refine aQ (fun n vs h'=>∃ (w:WkM) (j:Nat) (x:AV),vs=[x,I (j:Nat)]∧n+j=41∧WkG w∧WkS h [] h' i w []) 41 ⟨⟨[],[]⟩,0,_,rfl,rfl,.nil,s⟩ ?_
 rintro n vs h1 ⟨w,j,x,rfl,hn,o,s⟩
 unfold qU
 have RNs:∀ h,Row (fun n:Int=>[I n]) 1 h (.snap ns.length (ns.flatMap fun n=>[I n])) ns:=fun h=>Row.snap (enc:=fun n:Int=>[I n]) (sz:=1) (fun _=>rfl) _
 refine (RNs h1).len (aJ (ah (fun hb=>?_) (fun _=>k _)))
 have hj:j<ns.length:=by have:=of_decide_eq_true hb;omega
 refine aJ (ah (fun hb2=>?_) (fun _=>k _))
 have hj40:j<40:=by have:=of_decide_eq_true hb2;omega
 have fn8:=o.ok.fn
 have sn8:=o.ok.sn
 refine (RNs h1).idx (fun _=>rfl) hj fun p t=>?_
 refine aK t ?_
 have hm:=cF (a:=ns[j]) (n:=1073741824) (by decide)
 refine mz (by decide) (by decide) (hi _ (List.getElem_mem hj)) ?_
 refine W4 hW hR hm.1 (by omega) ho hl fun r h4 f4 ⟨hr,hnl,htl⟩=>?_
 have s4:=s.after f4
 refine Xl s4 fun p9 h5 s5=>?_
 refine ye (o:=0) (R':=[(p9,true,rqO r)]) s5 .head rfl rfl rfl (nle rfl) fun h6 s6=>?_
 refine BC s6 (.head _) (nle rfl) ?_
 refine aa7 hF hI hA hL hks hr (by omega) o s6 fun h7 s7=>?_
 have o7:=o.doG r
 obtain⟨e,t,a,b,la,lb,T⟩:=aaZ w hr
 have ho1:=T.one
 simp only[Bool.and_eq_true]at ho1
 rw[T.eq]
 refine Xl s7 fun p10 h8 s8=>?_
 refine ye (o:=0) (R':=[(p10,true,.cells [I e,AL.T t,a,b]),(p9,true,rqO r)]) s8 .head rfl rfl (by show (true&&(true&&(a.one&&(b.one&&true))))=true;rw[ho1.1,ho1.2];rfl) (nle rfl) fun h9 s9=>?_
 have hk9:(p9,true,rqO r)∈[(p10,true,AObj.cells [I e,AL.T t,a,b]),(p9,true,rqO r)]:=.tail _ (.head _)
 have nxt:ai .add (aq [x,I (j:Nat)] 1) (I 1) fun t28=>(fun vs' h'=>∃ m,m<n∧∃ (w:WkM) (j:Nat) (x:AV),vs'=[x,I (j:Nat)]∧m+j=41∧WkG w∧WkS h [] h' i w []) [(aq [x,I (j:Nat)] 0),t28] h9:=by
  refine aI (by omega) ?_
  obtain⟨jf,js,xf,xs,mf,ms,s9⟩:=s9
  exact⟨n-1,by omega,doG w r,j+1,x,rfl,by omega,o7,jf,js,xf,xs,mf,ms,s9.sub (by exact ((((List.nil_sublist _).cons_cons _).cons_cons _).cons_cons _))⟩
 have c1:fW (.ptr p10 0) h9 Q (.ptr p9 0) [x,I (j:Nat)] (fun vs' h'=>∃ m,m<n∧∃ (w:WkM) (j:Nat) (x:AV),vs'=[x,I (j:Nat)]∧m+j=41∧WkG w∧WkS h [] h' i w []):=by
  unfold fW
  refine aj (ld s9 (.head _) (a:=b) rfl (T.lenB _ ?_))
  refine bD (aj (ld s9 (.head _) (a:=I e) rfl (aA ?_)))
  refine acv ?_
  have hd:decide ((0:Int)<(lb:Nat))=decide (e=14):=by
   rw[Bool.eq_iff_iff,decide_eq_true_eq,decide_eq_true_eq,← T.diags];omega
  rw[hd]
  refine ah (fun h=>by simp at h) (fun _=>?_)
  refine aj (ld s9 (.head _) (a:=I e) rfl (aA ?_))
  refine m5 (ah (fun hb=>?_) (fun _=>nxt)) ⟨_,rfl⟩
  have he:=of_decide_eq_true hb
  refine aj (ld s9 hk9 (a:=I r.kind) rfl (bU ?_))
  exact ah (fun h=>absurd (T.errs he) (of_decide_eq_true h)) (fun _=>nxt)
 have c2:jd (.ptr p10 0) h9 (.ptr p9 0) Q [x,I (j:Nat)] (fun vs' h'=>∃ m,m<n∧∃ (w:WkM) (j:Nat) (x:AV),vs'=[x,I (j:Nat)]∧m+j=41∧WkG w∧WkS h [] h' i w []):=by
  unfold jd
  refine aj (ld s9 (.head _) (a:=a) rfl (T.lenA _ ?_))
  refine bD (m5 (ah (fun hb=>?_) (fun _=>c1)) ⟨_,rfl⟩)
  obtain⟨h7,he⟩:=T.image (by have:=of_decide_eq_true hb;omega)
  refine aj (ld s9 hk9 (a:=I r.kind) rfl (bU ?_))
  refine m5 (ah (fun h=>absurd h7 (of_decide_eq_true h)) (fun _=>?_)) ⟨_,rfl⟩
  refine aj (ld s9 (.head _) (a:=I e) rfl (bU ?_))
  exact ah (fun h=>absurd he (of_decide_eq_true h)) (fun _=>c1)
 refine aj (ld s9 (.head _) (a:=AL.T t) rfl (nD ?_))
 refine ah (fun hb=>?_) (fun _=>c2)
 obtain⟨h4,he⟩:=T.text (of_decide_eq_true hb)
 refine aj (ld s9 hk9 (a:=I r.kind) rfl (bU ?_))
 refine m5 (ah (fun h=>absurd h4 (of_decide_eq_true h)) (fun _=>?_)) ⟨_,rfl⟩
 refine aj (ld s9 (.head _) (a:=I e) rfl (bU ?_))
 exact ah (fun h=>absurd he (of_decide_eq_true h)) (fun _=>c2)
end
end
end Go.Proofs.YtgkmmcdhhkllnaaGreatDoor.AL
namespace Go.Proofs.YtgkmmcdhhkllnaaGreatDoor.AL
noncomputable section
theorem Vc [Tabs]:(tbl.all fun r=>L8 Pg tb5 W3 100 ot [T r.kinds] .leaf 0 fun v t _=>Nw (.snap (cV r.kinds).length ((cV r.kinds).flatMap sE)) v t)=true:=by kernel_rfl
theorem XC [Tabs]:(tbl.all fun r=>(cV r.kinds).all fun k=>L8 Pg tb5 W3 100 ko [T k] .leaf 0 fun v t _=>Nw (B (JP (lP k))) v t)=true:=by kernel_rfl
theorem abt:∀ l:List Str,clL (l.flatMap sE)=true
 | []=>rfl
 | a::l=>by show (cl (T a)&&clL (l.flatMap sE))=true;rw[abt l];rfl
variable [Tabs5]
theorem ZO:uc:=fun r hr h Q q=>lZ Tabs5.tb ut (d:=100) (.snap (cV r.kinds).length ((cV r.kinds).flatMap sE)) rfl (abt _) (List.all_eq_true.1 Vc r hr) q
theorem ZZ:yK:=fun r hr k hk h Q q=>lZ Tabs5.tb ut (d:=100) (B (JP (lP k))) rfl rfl (List.all_eq_true.1 (List.all_eq_true.1 XC r hr) k hk) q
