import Derived.Test.YtgkmmcdhhkllnaaGreatDoorAE5toAN4
import Derived.Test.YtgkmmcdhhkllnaaGreatDoorAA11toW8
import Derived.Test.YtgkmmcdhhkllnaaGreatDoorF9
set_option linter.all false
set_option autoImplicit true
set_option relaxedAutoImplicit true
set_option maxRecDepth 100000
namespace Go.Proofs.YtgkmmcdhhkllnaaGreatDoor.AL
noncomputable section
theorem Tj {c:UInt8}{n:Nat}(hn:n<256):((c.toNat:Int)=(n:Int))↔c=UInt8.ofNat n:=by
 constructor
 ·intro h
  have:c.toNat=n:=by omega
  rw[← this,UInt8.ofNat_toNat]
 ·rintro rfl
  have:(UInt8.ofNat n).toNat=n:=by simp;omega
  rw[this]
theorem BQ {s:Str}{p:Nat}(h:p<s.length):s.drop p=s[p]::s.drop (p+1):=List.drop_eq_getElem_cons h
section
variable [Tabs]
abbrev rO (s:Str) (p d:Nat) (b:Bool):AObj:=.cells [T s,I (p:Nat),I (d:Nat),B b]
variable {h:ae}{Q:QT}{i d p:Nat}{s:Str}{b:Bool}
theorem LI (hs:s.length<1000000000) (e:h[i]?=some (rO s p d b)) (hp:p≤s.length) (k:∀ p' h',p'≤s.length→s.drop p'=blk (s.drop p)→Fr [i] h h'→h'[i]?=some (rO s p' d b)→Q (.tup []) h'):C gp [.ptr i 0] h Q:=by
 refine yN _ _ _ ?_
 unfold uj
 refine aP (fun n vs h'=>∃ q,vs=[]∧n+q=s.length∧blk (s.drop q)=blk (s.drop p)∧Fr [i] h h'∧h'[i]?=some (rO s q d b)) (s.length-p) ⟨p,rfl,by omega,rfl,Fr.refl _ _,e⟩ ?_
 rintro n vs h1 ⟨q,rfl,hn,hq,f1,e1⟩
 unfold pg
 have st:=St.start1 e1
 (repeat (first|refine au ?_|refine aj ?_|refine be ?_|refine aJ ?_|refine af ‹_› (.head _) rfl ?_))
 refine ah (fun b1=>?_) (fun b1=>?_)<;>simp only[za,zb,zc,zd,ze,zf,zg,zh,zi,u8i,zj,zk,zl]at b1
 ·(repeat (first|refine au ?_|refine aj ?_|refine af ‹_› (.head _) rfl ?_))
  refine bO (by omega) ?_
  refine aA ?_
  have hd:=BQ (s:=s) (p:=q) (by omega)
  refine ah (fun b2=>?_) (fun b2=>?_)
  ·have b2:s[q]=32:=(Tj (n:=32) (by decide)).1 (of_decide_eq_true b2)
   (repeat (first|refine au ?_|refine aj ?_|refine aH (by omega) ?_|refine af ‹_› (.head _) rfl ?_))
   refine ay st .head rfl rfl rfl (nle rfl) fun h2 s2=>?_
   refine⟨n-1,by omega,q+1,rfl,by omega,?_,f1.trans s2.fr (by simp),s2.get (.head _)⟩
   rw[← hq,hd,b2];rfl
  ·have b2:¬ s[q]=32:=fun h=>of_decide_eq_false b2 ((Tj (n:=32) (by decide)).2 h)
   refine k q h1 (by omega) ?_ f1 e1
   rw[← hq,hd]
   show _=iC 32 _
   unfold iC
   rw[if_neg b2]
 ·refine k q h1 (by omega) ?_ f1 e1
  rw[← hq,List.drop_of_length_le (by omega)];rfl
theorem FI {m:Str}(hm:m.length<1000) (hs:s.length<1000000000) (e:h[i]?=some (rO s p d b)) (hp:p≤s.length)
  (k1:m.isPrefixOf (blk (s.drop p))=true→∀ p' h',p'≤s.length→s.drop p'=(blk (s.drop p)).drop m.length→Fr [i] h h'→h'[i]?=some (rO s p' d b)→Q (B true) h')
  (k0:m.isPrefixOf (blk (s.drop p))=false→∀ p' h',p'≤s.length→s.drop p'=blk (s.drop p)→Fr [i] h h'→h'[i]?=some (rO s p' d b)→Q (B false) h'):C cS [.ptr i 0,T m] h Q:=by
 refine Bg _ _ _ _ ?_
 unfold xN
 refine LI hs e hp fun q h1 hq hd f1 e1=>?_
 have st:=St.start1 e1
 rw[← hd]at k1 k0
 have hlen:(s.drop q).length=s.length-q:=List.length_drop
 (repeat (first|refine au ?_|refine aj ?_|refine be ?_|refine bU ?_|refine aH (by omega) ?_|refine af ‹_› (.head _) rfl ?_))
 refine ah (fun b1=>?_) (fun b1=>?_)<;>simp only[za,zb,zc,zd,ze,zf,zg,zh,zi,u8i,zj,zk,zl]at b1
 ·refine k0 ?_ q h1 hq rfl f1 e1
  cases hx:m.isPrefixOf (s.drop q) with
  | false=>rfl
  | true=>
    have:=(List.isPrefixOf_iff_prefix.1 hx).length_le
    omega
 ·(repeat (first|refine au ?_|refine aj ?_|refine be ?_|refine aH (by omega) ?_|refine af ‹_› (.head _) rfl ?_))
  refine Hx (by omega) (by omega) (by omega) ?_
  have ht:(s.drop ((q:Int)).toNat).take (((q:Int)+(m.length:Nat)).toNat-((q:Int)).toNat)=(s.drop q).take m.length:=by
   rw[Int.toNat_natCast,show ((q:Int)+(m.length:Nat)).toNat-q=m.length by omega]
  rw[ht]
  refine qq ?_
  refine ah (fun b2=>?_) (fun b2=>?_)
  ·refine k0 ?_ q h1 hq rfl f1 e1
   cases hx:m.isPrefixOf (s.drop q) with
   | false=>rfl
   | true=>
     have:=List.isPrefixOf_iff_prefix.1 hx
     rw[List.prefix_iff_eq_take]at this
     simp[← this]at b2
  ·have hx:m.isPrefixOf (s.drop q)=true:=by
    rw[List.isPrefixOf_iff_prefix,List.prefix_iff_eq_take]
    exact (by simpa using b2:_=_).symm
   (repeat (first|refine au ?_|refine aj ?_|refine be ?_|refine aH (by omega) ?_|refine af ‹_› (.head _) rfl ?_))
   refine ay st .head rfl rfl rfl (nle rfl) fun h2 s2=>?_
   refine k1 hx (q+m.length) h2 (by omega) (by rw[List.drop_drop]) (f1.trans s2.fr (by simp)) ?_
   have:=s2.get (.head _)
   rw[this]
   show some (AObj.cells [T s,I ((q:Int)+(m.length:Nat)),I (d:Nat),B b])=_
   rw[show ((q:Int)+(m.length:Nat))=((q+m.length:Nat):Int) by omega]
def ml (base:Nat) (c:UInt8):Bool:=if base=16 then vX c.toNat else bt c.toNat
theorem Ak {base:Nat}(hb:base=10∨base=16) (c:UInt8) (k:Q (I (if ml base c=true then (oU c:Nat) else -1)) h):C kK [U8 c,I (base:Nat)] h Q:=by
 refine IE _ _ _ _ ?_
 unfold Hk
 have hc:=c.toNat_lt
 have cv97:97≤c.toNat→IntKind.i64.wrap (IntKind.u8.wrap ((c.toNat:Int)-97))=((c.toNat-97:Nat):Int):=fun hm=>by
  have:IntKind.u8.wrap ((c.toNat:Int)-97)=((c.toNat-97:Nat):Int):=by rw[IntKind.wrap_u8];omega
  rw[this];exact uo (by omega)
 have cv48:48≤c.toNat→IntKind.i64.wrap (IntKind.u8.wrap ((c.toNat:Int)-48))=((c.toNat-48:Nat):Int):=fun hm=>by
  have:IntKind.u8.wrap ((c.toNat:Int)-48)=((c.toNat-48:Nat):Int):=by rw[IntKind.wrap_u8];omega
  rw[this];exact uo (by omega)
 have let16:base=16→¬ (48≤c.toNat∧c.toNat≤57)→(ai .geq (U8 c) (.lit (.int .u8 97)) fun t20=>ifB t20 (ai .leq (U8 c) (.lit (.int .u8 102)) fun t24=>ifB t24 (
   ai .sub (U8 c) (.lit (.int .u8 97)) fun t27=>ci .i64 t27 fun t28=>ai .add t28 (I 10) fun t29=>Q t29 h) (Q (I (-1)) h)) (Q (I (-1)) h)):=fun h16 hnd=>by
  refine bL ?_
  refine ah (fun b1=>?_) (fun b1=>?_)<;>simp only[za,zb,zc,zd,ze,zf,zg,zh,zi,u8i,zj,zk,zl]at b1
  ·refine eT ?_
   refine ah (fun b2=>?_) (fun b2=>?_)<;>simp only[za,zb,zc,zd,ze,zf,zg,zh,zi,u8i,zj,zk,zl]at b2
   ·refine Ft (ef ?_)
    rw[cv97 (by omega)]
    refine aH (by omega) ?_
    have hp:ml base c=true:=by unfold ml vX bt;rw[if_pos h16];simp;omega
    rw[if_pos hp]at k
    have hv:oU c=c.toNat-97+10:=by unfold oU;rw[if_pos (by omega)]
    rw[hv]at k
    rw[show ((c.toNat-97:Nat):Int)+10=((c.toNat-97+10:Nat):Int) by omega]
    exact k
   ·have hp:¬ ml base c=true:=by unfold ml vX bt;rw[if_pos h16];simp;omega
    rw[if_neg hp]at k
    exact k
  ·have hp:¬ ml base c=true:=by unfold ml vX bt;rw[if_pos h16];simp;omega
   rw[if_neg hp]at k
   exact k
 have rest:¬ (48≤c.toNat∧c.toNat≤57)→(ai .eql (I (base:Nat)) (I 16) fun t17=>ifB t17 (ai .geq (U8 c) (.lit (.int .u8 97)) fun t20=>ifB t20 (ai .leq (U8 c) (.lit (.int .u8 102)) fun t24=>ifB t24 (
   ai .sub (U8 c) (.lit (.int .u8 97)) fun t27=>ci .i64 t27 fun t28=>ai .add t28 (I 10) fun t29=>Q t29 h) (Q (I (-1)) h)) (Q (I (-1)) h)) (Q (I (-1)) h)):=fun hnd=>by
  refine aA ?_
  refine ah (fun b0=>?_) (fun b0=>?_)<;>simp only[za,zb,zc,zd,ze,zf,zg,zh,zi,u8i,zj,zk,zl]at b0
  ·exact let16 (by omega) hnd
  ·have hp:¬ ml base c=true:=by unfold ml bt;rw[if_neg (by omega)];simp;omega
   rw[if_neg hp]at k
   exact k
 refine bL ?_
 refine ah (fun b1=>?_) (fun b1=>?_)<;>simp only[za,zb,zc,zd,ze,zf,zg,zh,zi,u8i,zj,zk,zl]at b1
 ·refine eT ?_
  refine ah (fun b2=>?_) (fun b2=>?_)<;>simp only[za,zb,zc,zd,ze,zf,zg,zh,zi,u8i,zj,zk,zl]at b2
  ·refine Ft (ef ?_)
   rw[cv48 (by omega)]
   have hp:ml base c=true:=by unfold ml vX bt;split<;>simp<;>omega
   rw[if_pos hp]at k
   have hv:oU c=c.toNat-48:=by unfold oU;rw[if_neg (by omega)]
   rw[hv]at k
   exact k
  ·exact rest (by omega)
 ·exact rest (by omega)
end
end
end Go.Proofs.YtgkmmcdhhkllnaaGreatDoor.AL
namespace Go.Proofs.YtgkmmcdhhkllnaaGreatDoor.AL
noncomputable section
section
variable [Tabs]
variable {h:ae}{Q:QT}{i D p:Nat}{s:Str}{b:Bool}
structure RRes (i:Nat) (s:Str) (D:Nat) (m:Option (Ex×Str)) (h:ae) (Q:QT):Prop where
 good:∀ x p' h',p'≤s.length→m=some (x,s.drop p')→Fr [i] h h'→h'[i]?=some (rO s p' D false)→Q (.agg (bq x)) h'
 bad:∀ cs p' h',p'≤s.length→m=none→Fr [i] h h'→h'[i]?=some (rO s p' D true)→cs.length=4→cs.all AV.one=true→Q (.agg cs) h'
def vb (base:Nat) (l:Str):Str:=l.takeWhile (ml base)
def Au (base:Nat):PF:=fun l=>if vb base l=[] then none else match qA base (vb base l) 0 with
 | none=>none
 | some n=>some (.num n,l.drop (vb base l).length)
theorem S4 {base q:Nat}(hq:q<s.length):vb base (s.drop q)=if ml base s[q]=true then s[q]::vb base (s.drop (q+1)) else []:=by
 unfold vb
 rw[BQ hq,List.takeWhile_cons]
theorem DL {base:Nat}(hb:base=10∨base=16) (hs:s.length<1000000000) (hp:p≤s.length) (e:h[i]?=some (rO s p D false)) (r:RRes i s D (Au base (s.drop p)) h Q):C fl [.ptr i 0,I (base:Nat)] h Q:=by
 refine vW _ _ _ _ ?_
 unfold qK
 refine aQ (St.start1 e) fun q4 h1 s1=>?_
 (repeat (first|refine au ?_|refine aj ?_|refine af ‹_› (by first|exact .head _|exact .tail _ (.head _)) rfl ?_))
 refine aP (fun n vs h'=>∃ (q m:Nat),vs=[I (m:Nat)]∧m<4294967296∧n+q=s.length∧p≤q∧(vb base (s.drop q)).length+q=(vb base (s.drop p)).length+p∧qA base (vb base (s.drop q)) m=qA base (vb base (s.drop p)) 0∧St h [i] h' [(q4,true,.cells zE),(i,true,rO s q D false)]) (s.length-p) ⟨p,0,rfl,by omega,by omega,Nat.le_refl _,rfl,rfl,s1⟩ ?_
 rintro n vs h2 ⟨q,m,rfl,hm,hn,hpq,hlen,hnum,s2⟩
 unfold mB
 have fin:vb base (s.drop q)=[]→fj (.ptr i 0) h2 (I (p:Nat)) [I (m:Nat)] (.ptr q4 0) Q:=fun hd=>by
  unfold fj
  rw[hd]at hlen hnum
  have hnum:qA base (vb base (s.drop p)) 0=some m:=hnum.symm
  simp only[List.length_nil,Nat.zero_add]at hlen
  have hq:q≤s.length:=by omega
  refine au (aj (af s2 (.tail _ (.head _)) rfl (aA ?_)))
  refine ah (fun b1=>?_) (fun b1=>?_)<;>simp only[za,zb,zc,zd,ze,zf,zg,zh,zi,u8i,zj,zk,zl]at b1
  ·have he:vb base (s.drop p)=[]:=List.length_eq_zero_iff.1 (by omega)
   have hm0:Au base (s.drop p)=none:=by unfold Au;rw[if_pos he]
   refine au (aj ?_)
   refine ay (o:=0+3) s2 (.tail .head) rfl rfl rfl (nle rfl) fun h3 s3=>?_
   unfold eI
   refine aD rfl ?_
   refine aM s3 aZ rfl rfl .head fun h4 s4=>?_
   refine aL s4 rfl (.head _) ?_
   exact r.bad _ q _ hq hm0 s4.fr (s4.get (.tail _ (.head _))) rfl rfl
  ·have he:¬ vb base (s.drop p)=[]:=fun h=>by rw[h]at hlen;simp at hlen;omega
   have hm0:Au base (s.drop p)=some (.num m,s.drop q):=by
    unfold Au;rw[if_neg he,hnum,List.drop_drop]
    simp only;congr 3;omega
   unfold eI
   refine aD rfl ?_
   refine aM s2 aZ rfl rfl .head fun h4 s4=>?_
   refine aL s4 rfl (.head _) ?_
   exact r.good (.num m) q _ hq hm0 s4.fr (s4.get (.tail _ (.head _)))
 (repeat (first|refine au ?_|refine aj ?_|refine be ?_|refine aJ ?_|refine af ‹_› (by first|exact .head _|exact .tail _ (.head _)) rfl ?_))
 refine ah (fun b1=>?_) (fun b1=>?_)<;>simp only[za,zb,zc,zd,ze,zf,zg,zh,zi,u8i,zj,zk,zl]at b1
 ·have hq:q<s.length:=by omega
  have hd:=S4 (base:=base) hq
  refine au (aj (af s2 (.tail _ (.head _)) rfl (au (aj (af s2 (.tail _ (.head _)) rfl (bO hq ?_))))))
  refine Ak hb s[q] ?_
  refine bL ?_
  refine ah (fun b2=>?_) (fun b2=>?_)<;>simp only[za,zb,zc,zd,ze,zf,zg,zh,zi,u8i,zj,zk,zl]at b2
  ·have hpb:ml base s[q]=true:=by
    cases hx:ml base s[q] with
    | true=>rfl
    | false=>rw[hx]at b2;simp at b2
   rw[if_pos hpb]at hd
   rw[hd,List.length_cons]at hlen
   rw[hd,qA]at hnum
   have hbm:((base:Nat):Int)*(m:Nat)=((m*base:Nat):Int):=by rw[Int.mul_comm];simp
   have hdv:=F8 (base:=base) (by omega) s[q] m hm
   have hdl:oU s[q]<1000:=by have:=s[q].toNat_lt;unfold oU;split<;>omega
   refine u9 (by rw[hbm];omega) ?_
   rw[hbm]
   refine au (aj (af s2 (.tail _ (.head _)) rfl (au (aj (af s2 (.tail _ (.head _)) rfl (bO hq ?_))))))
   refine Ak hb s[q] ?_
   rw[if_pos hpb]
   refine aH (by omega) ?_
   rw[show ((m*base:Nat):Int)+(oU s[q]:Nat)=((m*base+oU s[q]:Nat):Int) by omega]
   refine au (aj (af s2 (.tail _ (.head _)) rfl (aH (by omega) (au (aj ?_)))))
   refine ay (o:=0+1) s2 (.tail .head) rfl rfl rfl (nle rfl) fun h3 s3=>?_
   have s3:St h [i] h3 [(q4,true,.cells zE),(i,true,rO s (q+1) D false)]:=s3
   refine bL ?_
   refine ah (fun b3=>?_) (fun b3=>?_)<;>simp only[za,zb,zc,zd,ze,zf,zg,zh,zi,u8i,zj,zk,zl]at b3
   ·rw[if_pos (by omega)]at hnum
    have hm0:Au base (s.drop p)=none:=by
     unfold Au;rw[← hnum];split<;>rfl
    refine au (aj ?_)
    refine ay (o:=0+3) s3 (.tail .head) rfl rfl rfl (nle rfl) fun h4 s4=>?_
    refine aD rfl ?_
    refine aM s4 aZ rfl rfl .head fun h5 s5=>?_
    refine aL s5 rfl (.head _) ?_
    exact r.bad _ (q+1) _ (by omega) hm0 s5.fr (s5.get (.tail _ (.head _))) rfl rfl
   ·rw[if_neg (by omega)]at hnum
    exact⟨n-1,by omega,q+1,m*base+oU s[q],rfl,by omega,by omega,by omega,by omega,hnum,s3⟩
  ·have hpb:¬ ml base s[q]=true:=fun h=>by rw[if_pos h]at b2;omega
   rw[if_neg hpb]at hd
   exact fin hd
 ·refine fin ?_
  rw[List.drop_of_length_le (by omega)];rfl
def HQ:PF:=fun l=>if jv (gc l)=true then some (.name (gc l),l.drop (gc l).length) else none
theorem S5 {q:Nat}(hq:q<s.length):gc (s.drop q)=if dl s[q].toNat=true then s[q]::gc (s.drop (q+1)) else []:=by
 unfold gc
 rw[BQ hq,List.takeWhile_cons]
theorem Kw (hs:s.length<1000000000) (hp:p≤s.length) (e:h[i]?=some (rO s p D false)) (r:RRes i s D (HQ (s.drop p)) h Q):C gA [.ptr i 0] h Q:=by
 refine yL _ _ _ ?_
 unfold tF
 refine aQ (St.start1 e) fun q4 h1 s1=>?_
 (repeat (first|refine au ?_|refine aj ?_|refine af ‹_› (by first|exact .head _|exact .tail _ (.head _)) rfl ?_))
 refine aP (fun n vs h'=>∃ q:Nat,vs=[]∧n+q=s.length∧p≤q∧(gc (s.drop q)).length+q=(gc (s.drop p)).length+p∧St h [i] h' [(q4,true,.cells zE),(i,true,rO s q D false)]) (s.length-p) ⟨p,rfl,by omega,Nat.le_refl _,rfl,s1⟩ ?_
 rintro n vs h2 ⟨q,rfl,hn,hpq,hlen,s2⟩
 unfold m8
 have fin:gc (s.drop q)=[]→gu (.ptr i 0) h2 (I (p:Nat)) (.ptr q4 0) Q:=fun hd=>by
  unfold gu
  rw[hd]at hlen
  simp only[List.length_nil,Nat.zero_add]at hlen
  have hq:q≤s.length:=by omega
  have hw:(s.drop ((p:Nat):Int).toNat).take (((q:Nat):Int).toNat-((p:Nat):Int).toNat)=gc (s.drop p):=by
   simp only[Int.toNat_natCast]
   have hpre:gc (s.drop p) <+: s.drop p:=List.takeWhile_prefix _
   rw[List.prefix_iff_eq_take]at hpre
   rw[hpre];congr 1;omega
  refine au (aj (af s2 (.tail _ (.head _)) rfl (au (aj (af s2 (.tail _ (.head _)) rfl (Hx (by omega) (by omega) (by omega) ?_))))))
  rw[hw]
  refine Nt _ (by have:=(List.takeWhile_sublist (fun c:UInt8=>dl c.toNat) (l:=s.drop p)).length_le;unfold gc;simp at this ⊢;omega) ?_
  refine bP ?_
  have tail:∀ (b:Bool) (h3:ae),St h [i] h3 [(q4,true,.cells zE),(i,true,rO s q D b)]→(∀ h',St h [i] h' [(q4,true,.cells (bq (.name (gc (s.drop p))))),(i,true,rO s q D b)]→Q (.agg (bq (.name (gc (s.drop p))))) h')→cn (I (p:Nat)) (.ptr q4 0) (.ptr i 0) h3 Q:=fun b h3 s3 k=>by
   unfold cn
   refine au (aj (af s3 (.tail _ (.head _)) rfl (au (aj (af s3 (.tail _ (.head _)) rfl (Hx (by omega) (by omega) (by omega) ?_))))))
   rw[hw]
   refine aD rfl ?_
   refine aM s3 aZ rfl rfl .head fun h4 s4=>?_
   refine aL s4 rfl (.head _) ?_
   exact k _ s4
  refine ah (fun b1=>?_) (fun b1=>?_)<;>simp only[za,zb,zc,zd,ze,zf,zg,zh,zi,u8i,zj,zk,zl]at b1
  ·have hm0:HQ (s.drop p)=none:=by unfold HQ;rw[if_neg (by rw[b1];simp)]
   refine au (aj ?_)
   refine ay (o:=0+3) s2 (.tail .head) rfl rfl rfl (nle rfl) fun h3 s3=>?_
   refine tail true h3 s3 fun h' s'=>?_
   exact r.bad _ q _ hq hm0 s'.fr (s'.get (.tail _ (.head _))) rfl rfl
  ·have hm0:HQ (s.drop p)=some (.name (gc (s.drop p)),s.drop q):=by
    unfold HQ;rw[if_pos b1,List.drop_drop];congr 3;omega
   refine tail false h2 s2 fun h' s'=>?_
   exact r.good _ q _ hq hm0 s'.fr (s'.get (.tail _ (.head _)))
 have next:q<s.length→dl (s[q]?.getD 0).toNat=true→dG (.ptr i 0) h2 (fun vs' h'=>∃ m,m<n∧∃ q:Nat,vs'=[]∧m+q=s.length∧p≤q∧(gc (s.drop q)).length+q=(gc (s.drop p)).length+p∧St h [i] h' [(q4,true,.cells zE),(i,true,rO s q D false)]):=fun hq hi=>by
  unfold dG
  have hd:=S5 hq
  rw[List.getElem?_eq_getElem hq]at hi
  have hi:dl s[q].toNat=true:=hi
  rw[if_pos hi]at hd
  rw[hd,List.length_cons]at hlen
  refine au (aj (af s2 (.tail _ (.head _)) rfl (aH (by omega) (au (aj ?_)))))
  refine ay (o:=0+1) s2 (.tail .head) rfl rfl rfl (nle rfl) fun h3 s3=>?_
  exact⟨n-1,by omega,q+1,rfl,by omega,by omega,by omega,s3⟩
 (repeat (first|refine au ?_|refine aj ?_|refine be ?_|refine aJ ?_|refine af ‹_› (by first|exact .head _|exact .tail _ (.head _)) rfl ?_))
 refine ah (fun b1=>?_) (fun b1=>?_)
 ·have hq:q<s.length:=by have:=of_decide_eq_true b1;omega
  have hd:=S5 hq
  have hg:s[q]?.getD 0=s[q]:=by rw[List.getElem?_eq_getElem hq];rfl
  rw[hg]at next
  have next:=next hq
  have hin:dl s[q].toNat=(decide (97≤s[q].toNat)&&decide (s[q].toNat≤122)||decide (s[q].toNat=95)||(decide (48≤s[q].toNat)&&decide (s[q].toNat≤57))):=rfl
  have c2:¬ (97≤s[q].toNat∧s[q].toNat≤122)→¬ (48≤s[q].toNat∧s[q].toNat≤57)→eB (.ptr i 0) h2 (fun vs' h'=>∃ m,m<n∧∃ q:Nat,vs'=[]∧m+q=s.length∧p≤q∧(gc (s.drop q)).length+q=(gc (s.drop p)).length+p∧St h [i] h' [(q4,true,.cells zE),(i,true,rO s q D false)]) (I (p:Nat)) (.ptr q4 0) Q:=fun h1 h2'=>by
   unfold eB
   refine au (aj (af s2 (.tail _ (.head _)) rfl (au (aj (af s2 (.tail _ (.head _)) rfl (bO hq ?_))))))
   refine aA ?_
   refine ah (fun b5=>?_) (fun b5=>?_)<;>simp only[za,zb,zc,zd,ze,zf,zg,zh,zi,u8i,zj,zk,zl]at b5
   ·exact next (by rw[hin];simp;omega)
   ·refine fin ?_
    rw[hd,if_neg (by rw[hin];simp;omega)]
  have c1:¬ (97≤s[q].toNat∧s[q].toNat≤122)→eA (.ptr i 0) h2 (fun vs' h'=>∃ m,m<n∧∃ q:Nat,vs'=[]∧m+q=s.length∧p≤q∧(gc (s.drop q)).length+q=(gc (s.drop p)).length+p∧St h [i] h' [(q4,true,.cells zE),(i,true,rO s q D false)]) (I (p:Nat)) (.ptr q4 0) Q:=fun h1=>by
   unfold eA
   refine au (aj (af s2 (.tail _ (.head _)) rfl (au (aj (af s2 (.tail _ (.head _)) rfl (bO hq ?_))))))
   refine bL ?_
   refine ah (fun b3=>?_) (fun b3=>?_)<;>simp only[za,zb,zc,zd,ze,zf,zg,zh,zi,u8i,zj,zk,zl]at b3
   ·refine au (aj (af s2 (.tail _ (.head _)) rfl (au (aj (af s2 (.tail _ (.head _)) rfl (bO hq ?_))))))
    refine eT ?_
    refine ah (fun b4=>?_) (fun b4=>?_)<;>simp only[za,zb,zc,zd,ze,zf,zg,zh,zi,u8i,zj,zk,zl]at b4
    ·exact next (by rw[hin];simp;omega)
    ·exact c2 h1 (by omega)
   ·exact c2 h1 (by omega)
  refine au (aj (af s2 (.tail _ (.head _)) rfl (au (aj (af s2 (.tail _ (.head _)) rfl (bO hq ?_))))))
  refine bL ?_
  refine ah (fun b2=>?_) (fun b2=>?_)<;>simp only[za,zb,zc,zd,ze,zf,zg,zh,zi,u8i,zj,zk,zl]at b2
  ·refine au (aj (af s2 (.tail _ (.head _)) rfl (au (aj (af s2 (.tail _ (.head _)) rfl (bO hq ?_))))))
   refine eT ?_
   refine ah (fun b3=>?_) (fun b3=>?_)<;>simp only[za,zb,zc,zd,ze,zf,zg,zh,zi,u8i,zj,zk,zl]at b3
   ·exact next (by rw[hin];simp;omega)
   ·exact c1 (by omega)
  ·exact c1 (by omega)
 ·refine fin ?_
  have:=of_decide_eq_false b1
  rw[List.drop_of_length_le (by omega)];rfl
end
end
end Go.Proofs.YtgkmmcdhhkllnaaGreatDoor.AL
namespace Go.Proofs.YtgkmmcdhhkllnaaGreatDoor.AL
noncomputable section
section
variable [Tabs]
variable {h:ae}{Q:QT}{i D p:Nat}{s:Str}{b:Bool}
def Ko:PF:=fun l=>if ([48,120]:Str).isPrefixOf l=true then Au 16 (l.drop 2) else if vb 10 l≠[] then Au 10 l else HQ l
def D3 (group minus:PF):PF:=fun l=>
 if ([40]:Str).isPrefixOf (blk l)=true then group ((blk l).drop 1)
 else if ([45]:Str).isPrefixOf (blk l)=true then minus ((blk l).drop 1)
 else if ([46]:Str).isPrefixOf (blk l)=true then some (.here,(blk l).drop 1)
 else Ko (blk l)
def NM:Nat→PF
 | 0=>D3 (fun _=>none) fun _=>none
 | d+1=>D3 (gS (gD (NM d) 5)) (eJ (NM d))
def Dd (l:Str):Option Ex:=match gD (NM 12) 5 l with
 | none=>none
 | some (x,l')=>if blk l'=[] then some x else none
def lvl (k:Nat):Nat:=if k=5 then 3 else if k=6 then 3 else if k=7 then 4 else if k=8 then 1 else if k=9 then 0 else 2
def wi (L k:Nat):List Nat:=(List.range' k (12-k)).filter fun j=>decide (lvl j=L)
theorem Ss:∀ L,L<5→wi L 5=(levelsL[L]?).getD []:=by decide
theorem Qr {L k:Nat}(hk:k<12):wi L k=if lvl k=L then k::wi L (k+1) else wi L (k+1):=by
 unfold wi
 rw[show 12-k=(12-(k+1))+1 by omega,List.range'_succ,List.filter_cons]
 by_cases h:lvl k=L<;>simp[h]
theorem JL {k:Nat}(hk:5≤k∧k<12) (q:Q (.tup [T (sg k),I (lvl k:Nat)]) h):C pZ [I (k:Nat)] h Q:=by
 refine Bb _ _ _ ?_
 unfold Du
 rcases (show k=5∨k=6∨k=7∨k=8∨k=9∨k=10∨k=11 by omega) with e|e|e|e|e|e|e<;>subst e<;>
  (repeat (first|exact q|refine aA ?_|refine ah (fun hb=>?_) (fun _=>?_)|(exact absurd hb (by decide))))
theorem Vk {L:Nat}(hL:L<5) (hs:s.length<1000000000) (hp:p≤s.length) (e:h[i]?=some (rO s p D false))
  (k:∀ c p' h',p'≤s.length→dA ((levelsL[L]?).getD []) (s.drop p)=(c,s.drop p')→Fr [i] h h'→h'[i]?=some (rO s p' D false)→Q (I (c:Nat)) h'):C gz [.ptr i 0,I (L:Nat)] h Q:=by
 refine pr _ _ _ _ ?_
 unfold nQ
 refine aP (fun n vs h'=>∃ c q:Nat,vs=[I 0,I (c:Nat)]∧5≤c∧n+c=12∧q≤s.length∧dA (wi L c) (s.drop q)=dA (wi L 5) (s.drop p)∧Fr [i] h h'∧h'[i]?=some (rO s q D false)) 7 ⟨5,p,rfl,Nat.le_refl _,rfl,hp,rfl,Fr.refl _ _,e⟩ ?_
 rintro n vs h1 ⟨c,q,rfl,hc,hn,hq,hk,f1,e1⟩
 rw[Ss L hL]at hk
 unfold kD
 (repeat refine eT ?_)
 refine ah (fun b1=>?_) (fun b1=>?_)<;>simp only[za,zb,zc,zd,ze,zf,zg,zh,zi,u8i,zj,zk,zl]at b1
 ·refine JL ⟨hc,by omega⟩ ?_
  have hst:=Qr (L:=L) (k:=c) (by omega)
  refine aF rfl (aF rfl (aA ?_))
  have go:∀ (h':ae) (q':Nat),q'≤s.length→dA (wi L (c+1)) (s.drop q')=dA ((levelsL[L]?).getD []) (s.drop p)→Fr [i] h h'→h'[i]?=some (rO s q' D false)→(ai .add (I (c:Nat)) (I 1) fun t11=>(fun vs' h'=>∃ m,m<n∧∃ c q:Nat,vs'=[I 0,I (c:Nat)]∧5≤c∧m+c=12∧q≤s.length∧dA (wi L c) (s.drop q)=dA (wi L 5) (s.drop p)∧Fr [i] h h'∧h'[i]?=some (rO s q D false)) [I 0,t11] h'):=fun h' q' hq' hk' f' e'=>by
   refine aH (by omega) ?_
   exact⟨n-1,by omega,c+1,q',rfl,by omega,by omega,hq',by rw[Ss L hL];exact hk',f',e'⟩
  refine ah (fun b2=>?_) (fun b2=>?_)<;>simp only[za,zb,zc,zd,ze,zf,zg,zh,zi,u8i,zj,zk,zl]at b2
  ·have b2:lvl c=L:=by omega
   rw[if_pos b2]at hst
   have st:=St.start1 e1
   refine au (aj (af st (.head _) rfl (bP (ah (fun _=>?_) (fun h=>by cases h)))))
   rw[hst,dA]at hk
   refine FI (by have:∀ x∈signsL,x.length<1000:=by decide
                 have h:=List.getElem?_eq_getElem (l:=signsL) (show c<12 by omega)
                 show ((signsL[c]?).getD []).length<1000
                 rw[h];exact this _ (List.getElem_mem _)) hs e1 hq (fun hx p' h2 hp' hd f2 e2=>?_) (fun hx p' h2 hp' hd f2 e2=>?_)
   ·rw[if_pos hx]at hk
    refine ah (fun _=>?_) (fun h=>by cases h)
    exact k c p' h2 hp' (by rw[← hk,hd]) (f1.trans f2 (by simp)) e2
   ·rw[if_neg (by rw[hx];simp)]at hk
    refine ah (fun h=>by cases h) (fun _=>?_)
    exact go h2 p' hp' (by rw[hd];exact hk) (f1.trans f2 (by simp)) e2
  ·have b2:¬ lvl c=L:=by omega
   rw[if_neg b2]at hst
   rw[hst]at hk
   exact go h1 q hq hk f1 e1
 ·have hc12:c=12:=by omega
  subst hc12
  have:wi L 12=[]:=rfl
  rw[this,dA]at hk
  exact k 0 q h1 hq hk.symm f1 e1
theorem Cl {L:Nat}(e:h[i]?=some (rO s p D true)) (k:Q (I 0) h):C gz [.ptr i 0,I (L:Nat)] h Q:=by
 refine pr _ _ _ _ ?_
 unfold nQ
 refine aP (fun n vs h'=>∃ c:Nat,vs=[I 0,I (c:Nat)]∧5≤c∧n+c=12∧h'=h) 7 ⟨5,rfl,Nat.le_refl _,rfl,rfl⟩ ?_
 rintro n vs h1 ⟨c,rfl,hc,hn,rfl⟩
 unfold kD
 (repeat refine eT ?_)
 refine ah (fun b1=>?_) (fun b1=>?_)<;>simp only[za,zb,zc,zd,ze,zf,zg,zh,zi,u8i,zj,zk,zl]at b1
 ·refine JL ⟨hc,by omega⟩ ?_
  refine aF rfl (aF rfl (aA ?_))
  refine ah (fun b2=>?_) (fun b2=>?_)<;>simp only[za,zb,zc,zd,ze,zf,zg,zh,zi,u8i,zj,zk,zl]at b2
  ·have st:=St.start1 e
   refine au (aj (af st (.head _) rfl (bP (ah (fun h=>by cases h) (fun _=>?_)))))
   refine aH (by omega) ?_
   exact⟨n-1,by omega,c+1,rfl,by omega,by omega,rfl⟩
  ·refine aH (by omega) ?_
   exact⟨n-1,by omega,c+1,rfl,by omega,by omega,rfl⟩
 ·exact k
def vQ (f:FuncId) (args:List AV) (D:Nat) (m:PF):Prop:=∀ (s:Str) (p:Nat) (h:ae) (Q:QT) (i:Nat),s.length<1000000000→p≤s.length→h[i]?=some (rO s p D false)→RRes i s D (m (s.drop p)) h Q→C f (.ptr i 0::args) h Q
theorem RRes.after {m:Option (Ex×Str)}{h1:ae}(r:RRes i s D m h Q) (f:Fr [i] h h1):RRes i s D m h1 Q:=
 ⟨fun x p' h' hp e f'=>r.good x p' h' hp e (f.trans f' (by simp)),fun cs p' h' hp e f'=>r.bad cs p' h' hp e (f.trans f' (by simp))⟩
theorem qf {D:Nat}{b:Bool}{q5 q4 p:Nat}{cs:List AV}{h1:ae}(hD:D<1000) (hc:cs.length=4) (ho:cs.all AV.one=true) (s1:St h [i] h1 [(q5,true,.cells cs),(q4,true,.cells zE),(i,true,rO s p (D+1) b)])
  (k:∀ h',Fr [i] h h'→h'[i]?=some (rO s p D b)→Q (.agg cs) h'):dS (.ptr q5 0) (.ptr q4 0) (.ptr i 0) h1 Q:=by
 unfold dS
 refine au (aj (af s1 (.tail _ (.tail _ (.head _))) rfl (cH (by omega) ?_)))
 rw[show ((D+1:Nat):Int)-1=(D:Nat) by omega]
 refine au (aj ?_)
 refine ay (o:=0+2) s1 (.tail (.tail .head)) rfl rfl rfl (nle rfl) fun h2 s2=>?_
 refine aL s2 hc (.head _) ?_
 refine aM s2 aZ hc ho (.tail .head) fun h3 s3=>?_
 refine aL s3 hc (.tail _ (.head _)) ?_
 exact k _ s3.fr (s3.get (.tail _ (.tail _ (.head _))))
theorem HE (bb:Bool):vQ cf [B bb] 12 fun _=>none:=fun s p h Q i hs hp e r=>by
 refine jC _ _ _ _ ?_
 unfold iL
 refine aQ (St.start1 e) fun q h1 s1=>?_
 (repeat (first|refine au ?_|refine aj ?_|refine bL ?_|refine af ‹_› (by first|exact .head _|exact .tail _ (.head _)) rfl ?_))
 refine ay (o:=0+3) s1 (.tail .head) rfl rfl rfl (nle rfl) fun h2 s2=>?_
 refine aD rfl ?_
 refine aM s2 aZ rfl rfl .head fun h3 s3=>?_
 refine aL s3 rfl (.head _) ?_
 exact r.bad _ p _ hp rfl s3.fr (s3.get (.tail _ (.head _))) rfl rfl
theorem UY {two:PF}(ht:vQ cB [I 0] (D+1) two) (hD:D<12):vQ cf [B true] D (gS two):=fun s p h Q i hs hp e r=>by
 refine jC _ _ _ _ ?_
 unfold iL
 refine aQ (St.start1 e) fun q h1 s1=>?_
 (repeat (first|refine au ?_|refine aj ?_|refine bL ?_|refine af ‹_› (by first|exact .head _|exact .tail _ (.head _)) rfl ?_))
 refine ah (fun hb=>absurd hb (by simp;omega)) (fun _=>?_)
 (repeat (first|refine au ?_|refine aj ?_|refine aH (by omega) ?_|refine af ‹_› (by first|exact .head _|exact .tail _ (.head _)) rfl ?_))
 refine ay (o:=0+2) s1 (.tail .head) rfl rfl rfl (nle rfl) fun h2 s2=>?_
 have s2:St h [i] h2 [(q,true,.cells zE),(i,true,rO s p (D+1) false)]:=s2
 refine aQ s2 fun q5 h3 s3=>?_
 refine ah (fun _=>?_) (fun h=>by cases h)
 refine ht s p h3 _ i hs hp (s3.get (.tail _ (.tail _ (.head _)))) ⟨fun x p' h4 hp' hm f4 e4=>?_,fun cs p' h4 hp' hm f4 e4 hc ho=>?_⟩
 ·have s4:=s3.call1 f4 e4 (.tail (.tail .head))
  have hm2:gS two (s.drop p)=if ([41]:Str).isPrefixOf (blk (s.drop p'))=true then some (x,(blk (s.drop p')).drop 1) else none:=by unfold gS;rw[hm]
  refine aM s4 aZ (aq _) (aV _) .head fun h5 s5=>?_
  refine FI (m:=[41]) (by decide) hs (s5.get (.tail _ (.tail _ (.head _)))) hp' (fun hx p2 h6 hp2 hd f6 e6=>?_) (fun hx p2 h6 hp2 hd f6 e6=>?_)
  ·have s6:=s5.call1 f6 e6 (.tail (.tail .head))
   rw[if_pos hx]at hm2
   refine bP (ah (fun h=>by cases h) (fun _=>?_))
   refine qf (by omega) (aq _) (aV _) s6 fun h7 f7 e7=>?_
   exact r.good x p2 _ hp2 (by rw[hm2,hd];rfl) f7 e7
  ·have s6:=s5.call1 f6 e6 (.tail (.tail .head))
   rw[if_neg (by rw[hx];simp)]at hm2
   refine bP (ah (fun _=>?_) (fun h=>by cases h))
   refine au (aj ?_)
   refine ay (o:=0+3) s6 (.tail (.tail .head)) rfl rfl rfl (nle rfl) fun h7 s7=>?_
   refine qf (b:=true) (by omega) (aq _) (aV _) s7 fun h8 f8 e8=>?_
   exact r.bad _ p2 _ hp2 hm2 f8 e8 (aq _) (aV _)
 ·have s4:=s3.call1 f4 e4 (.tail (.tail .head))
  have hm2:gS two (s.drop p)=none:=by unfold gS;rw[hm]
  refine aM s4 aZ hc ho .head fun h5 s5=>?_
  refine FI (m:=[41]) (by decide) hs (s5.get (.tail _ (.tail _ (.head _)))) hp' (fun hx p2 h6 hp2 hd f6 e6=>?_) (fun hx p2 h6 hp2 hd f6 e6=>?_)
  ·have s6:=s5.call1 f6 e6 (.tail (.tail .head))
   refine bP (ah (fun h=>by cases h) (fun _=>?_))
   refine qf (by omega) hc ho s6 fun h7 f7 e7=>?_
   exact r.bad _ p2 _ hp2 hm2 f7 e7 hc ho
  ·have s6:=s5.call1 f6 e6 (.tail (.tail .head))
   refine bP (ah (fun _=>?_) (fun h=>by cases h))
   refine au (aj ?_)
   refine ay (o:=0+3) s6 (.tail (.tail .head)) rfl rfl rfl (nle rfl) fun h7 s7=>?_
   refine qf (b:=true) (by omega) hc ho s7 fun h8 f8 e8=>?_
   exact r.bad _ p2 _ hp2 hm2 f8 e8 hc ho
theorem UF {one:PF}(ht:vQ c6 [] (D+1) one) (hD:D<12):vQ cf [B false] D (eJ one):=fun s p h Q i hs hp e r=>by
 refine jC _ _ _ _ ?_
 unfold iL
 refine aQ (St.start1 e) fun q h1 s1=>?_
 (repeat (first|refine au ?_|refine aj ?_|refine bL ?_|refine af ‹_› (by first|exact .head _|exact .tail _ (.head _)) rfl ?_))
 refine ah (fun hb=>absurd hb (by simp;omega)) (fun _=>?_)
 (repeat (first|refine au ?_|refine aj ?_|refine aH (by omega) ?_|refine af ‹_› (by first|exact .head _|exact .tail _ (.head _)) rfl ?_))
 refine ay (o:=0+2) s1 (.tail .head) rfl rfl rfl (nle rfl) fun h2 s2=>?_
 have s2:St h [i] h2 [(q,true,.cells zE),(i,true,rO s p (D+1) false)]:=s2
 refine aQ s2 fun q5 h3 s3=>?_
 refine ah (fun h=>by cases h) (fun _=>?_)
 refine ht s p h3 _ i hs hp (s3.get (.tail _ (.tail _ (.head _)))) ⟨fun x p' h4 hp' hm f4 e4=>?_,fun cs p' h4 hp' hm f4 e4 hc ho=>?_⟩
 ·have s4:=s3.call1 f4 e4 (.tail (.tail .head))
  have hm2:eJ one (s.drop p)=some (.neg x,s.drop p'):=by unfold eJ;rw[hm]
  refine aB rfl (by simp[AV.isTup,AV.cells,aq]) ?_
  rw[show ([AV.agg (bq x)].flatMap fun x=>x.cells)=bq x by simp[AV.cells]]
  refine aD rfl ?_
  refine aM s4 aZ (aq (.neg x)) (aV (.neg x)) .head fun h5 s5=>?_
  refine qf (cs:=bq (.neg x)) (by omega) (aq _) (aV _) s5 fun h6 f6 e6=>?_
  exact r.good _ p' _ hp' hm2 f6 e6
 ·have s4:=s3.call1 f4 e4 (.tail (.tail .head))
  have hm2:eJ one (s.drop p)=none:=by unfold eJ;rw[hm]
  refine aB rfl (by simp[AV.isTup,AV.cells,hc]) ?_
  refine aD rfl ?_
  refine aM s4 aZ rfl rfl .head fun h5 s5=>?_
  refine qf (by omega) rfl rfl s5 fun h6 f6 e6=>?_
  exact r.bad _ p' _ hp' hm2 f6 e6 rfl rfl
end
end
end Go.Proofs.YtgkmmcdhhkllnaaGreatDoor.AL
namespace Go.Proofs.YtgkmmcdhhkllnaaGreatDoor.AL
noncomputable section
section
variable [Tabs]
variable {h:ae}{Q:QT}{i D p:Nat}{s:Str}{b:Bool}
theorem Kp {group minus:PF}(hG:vQ cf [B true] D group) (hM:vQ cf [B false] D minus):vQ c6 [] D (D3 group minus):=fun s p h Q i hs hp e r=>by
 refine An _ _ _ ?_
 unfold vK
 refine aQ (St.start1 e) fun q h1 s1=>?_
 refine au (aj (af s1 (.tail _ (.head _)) rfl (ah (fun h=>by cases h) (fun _=>?_))))
 unfold D3 at r
 have put:∀ {m:Option (Ex×Str)} {h2:ae} {p2:Nat},St h [i] h2 [(q,true,.cells zE),(i,true,rO s p2 D false)]→RRes i s D m h Q→RRes i s D m h2 (fun t12 h4=>ak 4 (.ptr q 0) t12 h4 fun h5=>aw 4 (.ptr q 0) h5 fun r6=>Q r6 h5):=fun s2 r=>⟨fun x p' h3 hp' hm f3 e3=>by
   have s3:=s2.call1 f3 e3 (.tail .head)
   refine aM s3 aZ (aq _) (aV _) .head fun h4 s4=>?_
   refine aL s4 (aq _) (.head _) ?_
   exact r.good x p' _ hp' hm s4.fr (s4.get (.tail _ (.head _))),fun cs p' h3 hp' hm f3 e3 hc ho=>by
   have s3:=s2.call1 f3 e3 (.tail .head)
   refine aM s3 aZ hc ho .head fun h4 s4=>?_
   refine aL s4 hc (.head _) ?_
   exact r.bad cs p' _ hp' hm s4.fr (s4.get (.tail _ (.head _))) hc ho⟩
 have idem:∀ l:Str,blk (blk l)=blk l:=nz 32
 refine FI (m:=[40]) (by decide) hs (s1.get (.tail _ (.head _))) hp (fun hx p2 h2 hp2 hd f2 e2=>?_) (fun hx p2 h2 hp2 hd f2 e2=>?_)
 ·have s2:=s1.call1 f2 e2 (.tail .head)
  rw[if_pos hx,show (blk (s.drop p)).drop 1=s.drop p2 from hd.symm]at r
  refine ah (fun _=>?_) (fun h=>by cases h)
  exact hG s p2 h2 _ i hs hp2 (s2.get (.tail _ (.head _))) (put s2 r)
 have s2:=s1.call1 f2 e2 (.tail .head)
 rw[if_neg (by rw[hx];simp)]at r
 refine ah (fun h=>by cases h) (fun _=>?_)
 refine FI (m:=[45]) (by decide) hs (s2.get (.tail _ (.head _))) hp2 (fun hx p3 h3 hp3 hd3 f3 e3=>?_) (fun hx p3 h3 hp3 hd3 f3 e3=>?_)
 ·have s3:=s2.call1 f3 e3 (.tail .head)
  rw[hd,idem]at hx hd3
  rw[if_pos hx,show (blk (s.drop p)).drop 1=s.drop p3 from hd3.symm]at r
  refine ah (fun _=>?_) (fun h=>by cases h)
  exact hM s p3 h3 _ i hs hp3 (s3.get (.tail _ (.head _))) (put s3 r)
 have s3:=s2.call1 f3 e3 (.tail .head)
 rw[hd,idem]at hx hd3
 rw[if_neg (by rw[hx];simp)]at r
 refine ah (fun h=>by cases h) (fun _=>?_)
 refine FI (m:=[46]) (by decide) hs (s3.get (.tail _ (.head _))) hp3 (fun hx p4 h4 hp4 hd4 f4 e4=>?_) (fun hx p4 h4 hp4 hd4 f4 e4=>?_)
 ·have s4:=s3.call1 f4 e4 (.tail .head)
  rw[hd3,idem]at hx hd4
  rw[if_pos hx,show (blk (s.drop p)).drop 1=s.drop p4 from hd4.symm]at r
  refine ah (fun _=>?_) (fun h=>by cases h)
  refine aD rfl ?_
  refine aM s4 aZ rfl rfl .head fun h5 s5=>?_
  refine aL s5 rfl (.head _) ?_
  exact r.good .here p4 _ hp4 rfl s5.fr (s5.get (.tail _ (.head _)))
 have s4:=s3.call1 f4 e4 (.tail .head)
 rw[hd3,idem]at hx hd4
 rw[if_neg (by rw[hx];simp)]at r
 refine ah (fun h=>by cases h) (fun _=>?_)
 unfold Ko at r
 refine FI (m:=[48,120]) (by decide) hs (s4.get (.tail _ (.head _))) hp4 (fun hx p5 h5 hp5 hd5 f5 e5=>?_) (fun hx p5 h5 hp5 hd5 f5 e5=>?_)
 ·have s5:=s4.call1 f5 e5 (.tail .head)
  rw[hd4,idem]at hx hd5
  rw[if_pos hx,show (blk (s.drop p)).drop 2=s.drop p5 from hd5.symm]at r
  refine ah (fun _=>?_) (fun h=>by cases h)
  exact DL (.inr rfl) hs hp5 (s5.get (.tail _ (.head _))) (put s5 r)
 have s5:=s4.call1 f5 e5 (.tail .head)
 rw[hd4,idem]at hx hd5
 rw[if_neg (by rw[hx];simp),← hd5]at r
 refine ah (fun h=>by cases h) (fun _=>?_)
 (repeat (first|refine au ?_|refine aj ?_|refine be ?_|refine aJ ?_|refine af ‹_› (by first|exact .head _|exact .tail _ (.head _)) rfl ?_))
 refine ah (fun b1=>?_) (fun b1=>?_)<;>simp only[za,zb,zc,zd,ze,zf,zg,zh,zi,u8i,zj,zk,zl]at b1
 ·have hq:p5<s.length:=by omega
  have hdg:=S4 (base:=10) hq
  refine au (aj (af s5 (.tail _ (.head _)) rfl (au (aj (af s5 (.tail _ (.head _)) rfl (bO hq ?_))))))
  refine Ak (base:=10) (.inl rfl) s[p5] ?_
  refine bL ?_
  refine ah (fun b2=>?_) (fun b2=>?_)<;>simp only[za,zb,zc,zd,ze,zf,zg,zh,zi,u8i,zj,zk,zl]at b2
  ·have hpb:ml 10 s[p5]=true:=by
    cases hx:ml 10 s[p5] with
    | true=>rfl
    | false=>rw[hx]at b2;simp at b2
   rw[if_pos hpb]at hdg
   rw[if_pos (by rw[hdg];simp)]at r
   exact DL (base:=10) (.inl rfl) hs hp5 (s5.get (.tail _ (.head _))) (put s5 r)
  ·have hpb:¬ ml 10 s[p5]=true:=fun h=>by rw[if_pos h]at b2;omega
   rw[if_neg hpb]at hdg
   rw[if_neg (by rw[hdg];simp)]at r
   exact Kw hs hp5 (s5.get (.tail _ (.head _))) (put s5 r)
 ·have hdg:vb 10 (s.drop p5)=[]:=by rw[List.drop_of_length_le (by omega)];rfl
  rw[if_neg (by rw[hdg];simp)]at r
  exact Kw hs hp5 (s5.get (.tail _ (.head _))) (put s5 r)
theorem FC {one:PF}(ho:vQ c6 [] D one) (hsh:jb one):∀ R,R≤5→vQ cB [I ((5-R:Nat):Int)] D (gD one R)
 | 0,_=>fun s p h Q i hs hp e r=>by
   refine qJ _ _ _ _ ?_
   unfold oW
   refine aQ (St.start1 e) fun q h1 s1=>?_
   refine bU (ah (fun _=>?_) (fun h=>absurd h (by decide)))
   refine ho s p h1 _ i hs hp (s1.get (.tail _ (.head _))) ⟨fun x p' h2 hp' hm f2 e2=>?_,fun cs p' h2 hp' hm f2 e2 hc ho=>?_⟩
   ·have s2:=s1.call1 f2 e2 (.tail .head)
    refine aM s2 aZ (aq _) (aV _) .head fun h3 s3=>?_
    refine aL s3 (aq _) (.head _) ?_
    exact r.good x p' _ hp' hm s3.fr (s3.get (.tail _ (.head _)))
   ·have s2:=s1.call1 f2 e2 (.tail .head)
    refine aM s2 aZ hc ho .head fun h3 s3=>?_
    refine aL s3 hc (.head _) ?_
    exact r.bad cs p' _ hp' hm s3.fr (s3.get (.tail _ (.head _))) hc ho
 | R+1,hR=>fun s p h Q i hs hp e r=>by
   have ih:=FC ho hsh R (by omega)
   have ihs:=qT hsh R (by omega)
   have hL:4-R<5:=by omega
   have hlv:(5-(R+1):Nat)=4-R:=by omega
   have hnx:(((4-R:Nat):Int)+1)=((5-R:Nat):Int):=by omega
   have hmem:levelsL[4-R]'hL∈levelsL:=List.getElem_mem _
   obtain⟨hk1,hk2,hk3⟩:=yA _ hmem
   have hks:(levelsL[4-R]?).getD []=levelsL[4-R]'hL:=by rw[List.getElem?_eq_getElem (show 4-R<levelsL.length from hL)];rfl
   rw[← hks]at hk1
   refine qJ _ _ _ _ ?_
   unfold oW
   rw[hlv]
   refine aQ (St.start1 e) fun q h1 s1=>?_
   refine bU (ah (fun h=>by simp at h;omega) (fun _=>?_))
   refine aH (by omega) ?_
   rw[hnx]
   refine ih s p h1 _ i hs hp (s1.get (.tail _ (.head _))) ⟨fun x p1 h2 hp1 hm f2 e2=>?_,fun cs p1 h2 hp1 hm f2 e2 hc ho2=>?_⟩
   ·have s2:=s1.call1 f2 e2 (.tail .head)
    have hm2:gD one (R+1) (s.drop p)=eO (gD one R) ((levelsL[4-R]?).getD []) (s.drop p1).length x (s.drop p1):=by
     conv=>lhs;unfold gD
     rw[hm]
    rw[hm2]at r
    generalize hkse:(levelsL[4-R]?).getD []=ks at hk1 r
    refine aQ s2 fun q5 h3 s3=>?_
    refine aM s3 aZ (aq _) (aV _) .head fun h4 s4=>?_
    generalize htot:eO (gD one R) ks (s.drop p1).length x (s.drop p1)=tot at r
    refine aP (fun n vs h'=>∃ (cs:List AV) (p2:Nat) (b:Bool),vs=[]∧cs.length=4∧cs.all AV.one=true∧p2≤s.length∧St h [i] h' [(q5,true,.cells cs),(q,true,.cells zE),(i,true,rO s p2 D b)]∧
     ((b=false∧∃ y,cs=bq y∧(s.drop p2).length≤n∧eO (gD one R) ks n y (s.drop p2)=tot)∨(b=true∧tot=none))) (s.drop p1).length
     ⟨bq x,p1,false,rfl,aq _,aV _,hp1,s4,.inl ⟨rfl,x,rfl,Nat.le_refl _,htot⟩⟩ ?_
    rintro n vs h5 ⟨cs,p2,b,rfl,hc,ho3,hp2,s5,hcase⟩
    unfold ko
    rcases hcase with ⟨rfl,y,rfl,hl2,hlp⟩|⟨rfl,hno⟩
    ·refine Vk hL hs hp2 (s5.get (.tail _ (.tail _ (.head _)))) fun c p3 h6 hp3 hkm f6 e6=>?_
     rw[hkse]at hkm
     have s6:=s5.call1 f6 e6 (.tail (.tail .head))
     obtain⟨hl4,hl5⟩:=qh ks hk1 (s.drop p2)
     rw[hkm]at hl4 hl5
     refine aA ?_
     refine ah (fun b1=>?_) (fun b1=>?_)<;>simp only[za,zb,zc,zd,ze,zf,zg,zh,zi,u8i,zj,zk,zl]at b1
     ·have hc0:c=0:=by omega
      subst hc0
      refine aL s6 (aq _) (.head _) ?_
      refine aM s6 aZ (aq _) (aV _) (.tail .head) fun h7 s7=>?_
      refine aL s7 (aq _) (.tail _ (.head _)) ?_
      refine r.good y p3 _ hp3 ?_ s7.fr (s7.get (.tail _ (.tail _ (.head _))))
      rw[← hlp]
      cases n with
      | zero=>rw[eO,hkm];simp
      | succ n=>rw[eO,hkm];simp
     ·have hc0:c≠0:=by omega
      have hl5:=hl5 hc0
      simp only at hl5
      obtain⟨n',rfl⟩:∃ m,n=m+1:=⟨n-1,by omega⟩
      rw[eO,hkm]at hlp
      simp only[if_neg hc0]at hlp
      refine aL s6 (aq _) (.head _) ?_
      refine aH (by omega) ?_
      rw[hnx]
      refine ih s p3 h6 _ i hs hp3 (s6.get (.tail _ (.tail _ (.head _)))) ⟨fun z p4 h7 hp4 hm3 f7 e7=>?_,fun cs2 p4 h7 hp4 hm3 f7 e7 hc2 ho4=>?_⟩
      ·have s7:=s6.call1 f7 e7 (.tail (.tail .head))
       rw[hm3]at hlp
       refine⟨aL s7 (aq _) (.head _) rfl,?_⟩
       refine aB rfl (by simp[AV.isTup,AV.cells,aq]) ?_
       rw[show ([AV.agg (bq y),AV.agg (bq z)].flatMap fun x=>x.cells)=bq y++bq z by simp[AV.cells]]
       refine aD rfl ?_
       refine aM s7 (aq _) (aq (.bin c y z)) (aV (.bin c y z)) .head fun h8 s8=>?_
       have hsh2:=ihs _ _ _ hm3
       exact⟨n',by omega,_,p4,false,rfl,aq (.bin c y z),aV (.bin c y z),hp4,s8,.inl ⟨rfl,.bin c y z,rfl,by omega,hlp⟩⟩
      ·have s7:=s6.call1 f7 e7 (.tail (.tail .head))
       rw[hm3]at hlp
       refine⟨aL s7 (aq _) (.head _) rfl,?_⟩
       refine aB rfl (by simp[AV.isTup,AV.cells,aq,hc2]) ?_
       refine aD rfl ?_
       refine aM s7 (aq _) rfl rfl .head fun h8 s8=>?_
       exact⟨n',by omega,_,p4,true,rfl,rfl,rfl,hp4,s8,.inr ⟨rfl,hlp.symm⟩⟩
    ·refine Cl (s5.get (.tail _ (.tail _ (.head _)))) ?_
     refine aA (ah (fun _=>?_) (fun h=>by cases h))
     refine aL s5 hc (.head _) ?_
     refine aM s5 aZ hc ho3 (.tail .head) fun h6 s6=>?_
     refine aL s6 hc (.tail _ (.head _)) ?_
     exact r.bad cs p2 _ hp2 hno s6.fr (s6.get (.tail _ (.tail _ (.head _)))) hc ho3
   ·have s2:=s1.call1 f2 e2 (.tail .head)
    have hm2:gD one (R+1) (s.drop p)=none:=by
     conv=>lhs;unfold gD
     rw[hm]
    refine aQ s2 fun q5 h3 s3=>?_
    refine aM s3 aZ hc ho2 .head fun h4 s4=>?_
    refine A7 1 (rC ?_)
    unfold ko
    refine Cl (s4.get (.tail _ (.tail _ (.head _)))) ?_
    refine aA (ah (fun _=>?_) (fun h=>by cases h))
    refine aL s4 hc (.head _) ?_
    refine aM s4 aZ hc ho2 (.tail .head) fun h5 s5=>?_
    refine aL s5 hc (.tail _ (.head _)) ?_
    exact r.bad cs p1 _ hp1 hm2 s5.fr (s5.get (.tail _ (.tail _ (.head _)))) hc ho2
end
end
end Go.Proofs.YtgkmmcdhhkllnaaGreatDoor.AL
namespace Go.Proofs.YtgkmmcdhhkllnaaGreatDoor.AL
noncomputable section
section
variable [Tabs]
variable {h:ae}{Q:QT}{i D p:Nat}{s:Str}{b:Bool}
def Rl (a r:Option (Ex×Str)):Prop:=a=r∨(a=none∧∃ x l,r=some (x,l)∧gc l≠[])
theorem C4 {l:Str}(h:gc l≠[]):∃ c t,l=c::t∧dl c.toNat=true:=by
 cases l with
 | nil=>exact absurd rfl h
 | cons c t=>
   refine⟨c,t,rfl,?_⟩
   unfold gc at h
   rw[List.takeWhile_cons]at h
   cases hp:dl c.toNat with
   | true=>rfl
   | false=>rw[hp]at h;simp at h
theorem GH:∀ n:Nat,n<256→dl n=true→n≠32∧n≠41∧n≠43∧n≠45∧n≠42∧n≠38∧n≠124∧n≠60∧n≠62:=by decide
theorem C5 {l:Str}(h:gc l≠[]):blk l=l:=by
 obtain⟨c,t,rfl,hc⟩:=C4 h
 have:=(GH c.toNat c.toNat_lt hc).1
 show iC 32 (c::t)=c::t
 unfold iC
 rw[if_neg (fun e=>by subst e;exact this rfl)]
theorem Ry {l:Str}(h:gc l≠[]) {k:Nat}(hk:5≤k∧k<12):(sg k).isPrefixOf l=false:=by
 obtain⟨c,t,rfl,hc⟩:=C4 h
 obtain⟨h1,h2,h3,h4,h5,h6,h7,h8,h9⟩:=GH c.toNat c.toNat_lt hc
 have hh:∀ d:UInt8,c.toNat≠d.toNat→∀ m:Str,(d::m).isPrefixOf (c::t)=false:=fun d hd m=>by
  simp only[List.isPrefixOf,Bool.and_eq_false_iff,beq_eq_false_iff_ne]
  exact .inl fun e=>hd (by rw[e])
 rcases (show k=5∨k=6∨k=7∨k=8∨k=9∨k=10∨k=11 by omega) with e|e|e|e|e|e|e<;>subst e
 ·exact hh 43 h3 []
 ·exact hh 45 h4 []
 ·exact hh 42 h5 []
 ·exact hh 38 h6 []
 ·exact hh 124 h7 []
 ·exact hh 60 h8 [60]
 ·exact hh 62 h9 [62]
theorem AF {l:Str}(h:gc l≠[]):∀ {ks:List Nat},(∀ k∈ks,5≤k∧k<12)→dA ks l=(0,l)
 | [],_=>rfl
 | k::ks,hk=>by
   unfold dA
   rw[C5 h,if_neg (by rw[Ry h (hk k (.head _))];simp)]
   exact AF h fun x hx=>hk x (.tail _ hx)
theorem VN:∀ r,r<5→∀ k∈(levelsL[4-r]?).getD [],5≤k∧k<12:=by decide
theorem Kh {sub sub':PF}{ks:List Nat}(hk:∀ k∈ks,5≤k∧k<12) (hs:∀ l,Rl (sub l) (sub' l)):∀ (n:Nat) (x:Ex) (l:Str),Rl (eO sub ks n x l) (eO sub' ks n x l)
 | 0,x,l=>.inl rfl
 | n+1,x,l=>by
   unfold eO
   split
   ·exact .inl rfl
   ·rcases hs (dA ks l).2 with e|⟨e1,y,l2,e2,e3⟩
    ·rw[e]
     cases sub' (dA ks l).2 with
     | none=>exact .inl rfl
     | some z=>exact Kh hk hs n _ _
    ·rw[e1,e2]
     refine .inr ⟨rfl,?_⟩
     have hki:=AF e3 hk
     cases n with
     | zero=>refine⟨.bin (dA ks l).1 x y,l2,?_,e3⟩;simp only[eO,hki];rfl
     | succ n=>refine⟨.bin (dA ks l).1 x y,l2,?_,e3⟩;simp only[eO,hki];rfl
theorem RQ {one one':PF}(ho:∀ l,Rl (one l) (one' l)):∀ r,r≤5→∀ l,Rl (gD one r l) (gD one' r l)
 | 0,_,l=>ho l
 | r+1,hr,l=>by
   have ih:=RQ ho r (by omega)
   have hk:=VN r (by omega)
   unfold gD
   rcases ih l with e|⟨e1,x,l1,e2,e3⟩
   ·rw[e]
    cases gD one' r l with
    | none=>exact .inl rfl
    | some z=>exact Kh hk ih _ _ _
   ·rw[e1,e2]
    refine .inr ⟨rfl,x,l1,?_,e3⟩
    have hki:=AF e3 hk
    simp only
    cases l1.length with
    | zero=>simp only[eO,hki];rfl
    | succ n=>simp only[eO,hki];rfl
theorem Ze (l:Str):Rl (Bu l) (Ko l):=by
 have dg:vb 10 l=H0 l:=rfl
 have num:∀ (base:Nat) (l ds:Str),vb base l=ds→ds≠[]→Rl (eV base l ds) (Au base l):=fun base l ds hd hne=>by
  unfold eV Au
  rw[hd,if_neg hne]
  cases qA base ds 0 with
  | none=>exact .inl rfl
  | some n=>
    simp only
    by_cases hi:gc (l.drop ds.length)=[]
    ·rw[if_pos hi];exact .inl rfl
    ·rw[if_neg hi];exact .inr ⟨rfl,_,_,rfl,hi⟩
 unfold Bu Ko
 by_cases hx:([48,120]:Str).isPrefixOf l=true
 ·rw[if_pos hx,if_pos hx]
  by_cases hh:OC (l.drop 2)≠[]
  ·rw[if_pos hh]
   exact num 16 _ _ rfl hh
  ·rw[if_neg hh]
   have hh:OC (l.drop 2)=[]:=by simpa using hh
   have e1:Au 16 (l.drop 2)=none:=by unfold Au;rw[if_pos (show vb 16 (l.drop 2)=[] from hh)]
   rw[e1]
   refine .inl ?_
   obtain⟨t,rfl⟩:=List.isPrefixOf_iff_prefix.1 hx
   have ed:H0 ([48,120]++t)=[48]:=rfl
   unfold GN eV
   rw[ed]
   rfl
 ·rw[if_neg hx,if_neg hx]
  unfold GN
  rw[dg]
  by_cases hd:H0 l≠[]
  ·rw[if_pos hd,if_pos hd]
   exact num 10 _ _ rfl hd
  ·rw[if_neg hd,if_neg hd];exact .inl rfl
theorem To {g g' m m':PF}(hg:∀ l,Rl (g l) (g' l)) (hm:∀ l,Rl (m l) (m' l)) (l:Str):Rl (ra g m l) (D3 g' m' l):=by
 unfold ra D3
 split
 ·exact hg _
 split
 ·exact hm _
 split
 ·exact .inl rfl
 ·exact Ze _
theorem Xy {t t':PF}(ht:∀ l,Rl (t l) (t' l)) (l:Str):Rl (gS t l) (gS t' l):=by
 unfold gS
 rcases ht l with e|⟨e1,x,l1,e2,e3⟩
 ·rw[e];exact .inl rfl
 ·rw[e1,e2]
  refine .inl ?_
  simp only
  rw[C5 e3,if_neg]
  obtain⟨c,t,rfl,hc⟩:=C4 e3
  have:=(GH c.toNat c.toNat_lt hc).2.1
  simp only[List.isPrefixOf,Bool.and_true,beq_iff_eq]
  intro e;subst e;exact this rfl
theorem Xd {o o':PF}(ho:∀ l,Rl (o l) (o' l)) (l:Str):Rl (eJ o l) (eJ o' l):=by
 unfold eJ
 rcases ho l with e|⟨e1,x,l1,e2,e3⟩
 ·rw[e];exact .inl rfl
 ·rw[e1,e2];exact .inr ⟨rfl,_,_,rfl,e3⟩
theorem R6:∀ (d:Nat) (l:Str),Rl (Br d l) (NM d l)
 | 0,l=>To (fun _=>.inl rfl) (fun _=>.inl rfl) l
 | d+1,l=>To (Xy (RQ (R6 d) 5 (Nat.le_refl _))) (Xd (R6 d)) l
theorem VO (l:Str):Dd l=gI l:=by
 unfold Dd gI
 rcases RQ (R6 12) 5 (Nat.le_refl _) l with e|⟨e1,x,l1,e2,e3⟩
 ·rw[e];cases gD (NM 12) 5 l<;>rfl
 ·rw[e1,e2]
  simp only
  rw[C5 e3,if_neg]
  intro e;subst e;exact e3 rfl
theorem H1 (base:Nat):jb (Au base):=fun l x l' e=>by
 unfold Au at e
 split at e
 ·cases e
 ·split at e
  ·cases e
  ·cases e;simp
theorem Oc:jb Ko:=fun l x l' e=>by
 unfold Ko at e
 split at e
 ·have:=H1 16 _ _ _ e;simp at this;omega
 split at e
 ·exact H1 10 _ _ _ e
 ·unfold HQ at e
  split at e
  ·cases e;simp
  ·cases e
theorem D4 {group minus:PF}(hg:jb group) (hm:jb minus):jb (D3 group minus):=fun l x l' e=>by
 have hb:(blk l).length≤l.length:=nF 32 l
 unfold D3 at e
 split at e
 ·have:=hg _ _ _ e;simp at this;omega
 split at e
 ·have:=hm _ _ _ e;simp at this;omega
 split at e
 ·cases e;simp;omega
 ·have:=Oc _ _ _ e;omega
theorem Mv {one:PF}(h1:jb one):jb (eJ one):=fun l x l' e=>by
 unfold eJ at e
 split at e
 ·cases e
 ·rename_i y l1 h
  cases e;exact h1 _ _ _ h
theorem uH:∀ d,jb (NM d)
 | 0=>D4 (fun l x l' e=>by cases e) fun l x l' e=>by cases e
 | d+1=>D4 (Bw (qT (uH d) 5 (Nat.le_refl _))) (Mv (uH d))
theorem OS:∀ (d D:Nat),D+d=12→vQ c6 [] D (NM d)
 | 0,D,h=>by
   have:D=12:=by omega
   subst this
   exact Kp (HE true) (HE false)
 | d+1,D,h=>by
   have i1:=OS d (D+1) (by omega)
   have i2:vQ cB [I 0] (D+1) (gD (NM d) 5):=FC i1 (uH d) 5 (Nat.le_refl _)
   exact Kp (UY i2 (by omega)) (UF i1 (by omega))
theorem Lo (l:Str) (hs:l.length<1000000000) (k1:∀ x,gI l=some x→∀ h',Fr [] h h'→Q (.tup [.agg (bq x),B true]) h') (k0:gI l=none→∀ h',Fr [] h h'→Q (.tup [.agg zE,B false]) h'):C sM [T l] h Q:=by
 rw[← VO]at k1 k0
 refine It _ _ _ ?_
 unfold Hs
 refine aQ (St.start h) fun q h1 s1=>?_
 refine aD rfl ?_
 refine bR s1 rfl fun i h2 s2=>?_
 have s2:St h [] h2 [(i,true,rO l 0 0 false),(q,true,.cells zE)]:=s2
 refine FC (OS 12 0 rfl) (uH 12) 5 (Nat.le_refl _) l 0 h2 _ i hs (Nat.zero_le _) (s2.get (.head _)) ⟨fun x p' h3 hp' hm f3 e3=>?_,fun cs p' h3 hp' hm f3 e3 hc ho=>?_⟩
 ·have s3:=s2.call1 f3 e3 .head
  rw[List.drop_zero]at hm
  refine aQ s3 fun q5 h4 s4=>?_
  refine aM s4 aZ (aq _) (aV _) .head fun h5 s5=>?_
  refine LI hs (s5.get (.tail _ (.head _))) hp' fun p2 h6 hp2 hd f6 e6=>?_
  have s6:=s5.call1 f6 e6 (.tail .head)
  have hp:Dd l=if blk (l.drop p')=[] then some x else none:=by unfold Dd;rw[hm]
  rw[← hd]at hp
  refine au (aj (af s6 (.tail _ (.head _)) rfl (ah (fun h=>by cases h) (fun _=>?_))))
  refine au (aj (af s6 (.tail _ (.head _)) rfl (be (aJ ?_))))
  refine ah (fun b1=>?_) (fun b1=>?_)<;>simp only[za,zb,zc,zd,ze,zf,zg,zh,zi,u8i,zj,zk,zl]at b1
  ·have hne:¬ l.drop p2=[]:=fun h=>by have:=congrArg List.length h;simp at this;omega
   rw[if_neg hne]at hp
   refine aD rfl ?_
   refine aM s6 aZ rfl rfl (.tail (.tail .head)) fun h7 s7=>?_
   refine aL s7 rfl (.tail _ (.tail _ (.head _))) ?_
   exact k0 hp _ s7.fr
  ·have he:l.drop p2=[]:=List.drop_of_length_le (by omega)
   rw[if_pos he]at hp
   refine aL s6 (aq _) (.head _) ?_
   refine aM s6 aZ (aq _) (aV _) (.tail (.tail .head)) fun h7 s7=>?_
   refine aL s7 (aq _) (.tail _ (.tail _ (.head _))) ?_
   exact k1 x hp _ s7.fr
 ·have s3:=s2.call1 f3 e3 .head
  rw[List.drop_zero]at hm
  have hp:Dd l=none:=by unfold Dd;rw[hm]
  refine aQ s3 fun q5 h4 s4=>?_
  refine aM s4 aZ hc ho .head fun h5 s5=>?_
  refine LI hs (s5.get (.tail _ (.head _))) hp' fun p2 h6 hp2 hd f6 e6=>?_
  have s6:=s5.call1 f6 e6 (.tail .head)
  refine au (aj (af s6 (.tail _ (.head _)) rfl (ah (fun _=>?_) (fun h=>by cases h))))
  refine aD rfl ?_
  refine aM s6 aZ rfl rfl (.tail (.tail .head)) fun h7 s7=>?_
  refine aL s7 rfl (.tail _ (.tail _ (.head _))) ?_
  exact k0 hp _ s7.fr
end
end
end Go.Proofs.YtgkmmcdhhkllnaaGreatDoor.AL

namespace Go.Proofs.YtgkmmcdhhkllnaaGreatDoor.AL
noncomputable section
def mM:Nat→Nat→Str
 | 0,_=>[]
 | f+1,n=>if n<10 then [UInt8.ofNat (48+n)] else mM f (n / 10)++mM f (n%10)
theorem tM:∀ f n,(mM f n).length≤2^f
 | 0,_=>by simp[mM]
 | f+1,n=>by
   have h1:=tM f (n / 10)
   have h2:=tM f (n%10)
   have:1≤2^f:=Nat.one_le_two_pow
   unfold mM
   split
   ·simp[Nat.pow_succ];omega
   ·rw[List.length_append,Nat.pow_succ];omega
section
variable [Tabs]
variable {h:ae}{Q:QT}{K:AV→Prop}
theorem TR {c:Int}(k:K (T [UInt8.ofNat c.toNat])):qi (.full 1 [.lit (.int .u8 c)]) h K:=⟨k⟩
theorem yy:∀ (f n:Nat),n<10^(f+1)→f≤9→∀ (h:ae) (Q:QT),(∀ h',Fr [] h h'→Q (T (mM (f+1) n)) h')→C dy [I (n:Nat)] h Q
 | f,n,hn,hf,h,Q,k=>by
   refine xj _ _ _ ?_
   unfold xx
   have hp:(10:Nat)^(f+1)≤10^10:=Nat.pow_le_pow_right (by decide) (by omega)
   have hpw:(10:Nat)^(f+1)=10^f*10:=Nat.pow_succ ..
   unfold mM at k
   refine aJ ?_
   refine ah (fun hb=>(by exfalso;first|(simp at hb;done)|(simp at hb;omega)|(revert hb;decide)|omega)) (fun _=>?_)
   refine bL ?_
   refine ah (fun hb=>?_) (fun hb=>?_)<;>simp only[za,zb,zc,zd,ze,zf,zg,zh,zi,u8i,zj,zk,zl]at hb
   ·have hb:10≤n:=by omega
    rw[if_neg (by omega)]at k
    obtain⟨f,rfl⟩:∃ g,f=g+1:=by
     cases f with
     | zero=>simp at hn;omega
     | succ g=>exact⟨g,rfl⟩
    refine vA (by decide) ?_ ?_
    ·rw[Int.tdiv_eq_ediv_of_nonneg (by omega)];omega
    rw[Int.tdiv_eq_ediv_of_nonneg (by omega),show ((n:Nat):Int) / 10=((n / 10:Nat):Int) by omega]
    refine yy f (n / 10) (by omega) (by omega) h _ fun h1 f1=>?_
    refine nJ (by decide) ?_
    rw[Int.tmod_eq_emod_of_nonneg (by omega),show ((n:Nat):Int)%10=((n%10:Nat):Int) by omega]
    have h10:10≤10^(f+1):=by rw[Nat.pow_succ];have:=Nat.one_le_pow f 10 (by decide);omega
    refine yy f (n%10) (by omega) (by omega) h1 _ fun h2 f2=>?_
    have l1:=tM (f+1) (n / 10)
    have l2:=tM (f+1) (n%10)
    have l3:2^(f+1)≤2^10:=Nat.pow_le_pow_right (by decide) (by omega)
    refine dU (by omega) ?_
    exact k h2 (f1.trans f2 (by simp))
   ·have hb:n<10:=by omega
    rw[if_pos hb]at k
    refine aH (by omega) ?_
    refine ef ?_
    refine aB rfl rfl ?_
    have hw:IntKind.u8.wrap (48+(n:Nat))=((48+n:Nat):Int):=by
     have:n=0∨n=1∨n=2∨n=3∨n=4∨n=5∨n=6∨n=7∨n=8∨n=9:=by omega
     rcases this with h|h|h|h|h|h|h|h|h|h<;>subst h<;>decide
    rw[hw]
    refine TR ?_
    exact k h (Fr.refl _ _)
end
end
end Go.Proofs.YtgkmmcdhhkllnaaGreatDoor.AL
namespace Go.Proofs.YtgkmmcdhhkllnaaGreatDoor.AL
noncomputable section
theorem uX (a:Int) {n:Int}(hn:0<n):(a.tmod n<0→a.tmod n+n=a%n)∧(¬ a.tmod n<0→a.tmod n=a%n):=by
 have h1:=Int.tmod_lt_of_pos a hn
 have h0:=Int.emod_nonneg a (show n≠0 by omega)
 have h4:=Int.emod_lt_of_pos a hn
 have h3:(a.tmod n=a%n∧0≤a.tmod n)∨(a.tmod n=a%n-n∧a.tmod n<0):=by
  rw[Int.tmod_eq_emod]
  have hab:(n.natAbs:Int)=n:=by omega
  split
  ·exact .inl ⟨by omega,by omega⟩
  ·right;rw[hab];exact⟨rfl,by omega⟩
 omega
theorem K4 {a n:Int}(ha:inI a) (hn:0<n):-n≤a.tmod n∧a.tmod n<n:=by
 have h1:=Int.tmod_lt_of_pos a hn
 have h0:=Int.emod_nonneg a (show n≠0 by omega)
 have h2:=uX a hn
 by_cases h:a.tmod n<0
 ·have:=h2.1 h;omega
 ·omega
theorem cX {a n:Int}(hn:0<n):0≤a%n∧a%n<n:=⟨Int.emod_nonneg a (by omega),Int.emod_lt_of_pos a hn⟩
inductive RE where
 | mk (k n:Int) (l:List RE)
mutual
def xrE:RE→List AV
 | .mk k n l=>[I k,I n,.snap l.length (xrL l)]
def xrL:List RE→List AV
 | []=>[]
 | r::l=>xrE r++xrL l
end
mutual
def okR:RE→Prop
 | .mk k n l=>inI k∧inI n∧l.length≤9223372036854775807∧EN l
def EN:List RE→Prop
 | []=>True
 | r::l=>okR r∧EN l
end
mutual
def EM:RE→Nat
 | .mk _ _ l=>1+th l
def th:List RE→Nat
 | []=>0
 | r::l=>EM r+th l
end
theorem MM:∀ l,xrL l=l.flatMap xrE
 | []=>by simp[xrL]
 | r::l=>by simp[xrL,MM l]
theorem uR (r:RE):(xrE r).length=3:=by cases r;simp[xrE]
theorem Cn:∀ {l:List RE},EN l→∀ r∈l,okR r
 | r::l,h,x,hx=>by
   simp only[EN]at h
   rcases List.mem_cons.1 hx with rfl|hx
   ·exact h.1
   ·exact Cn h.2 x hx
theorem JA:∀ (l:List RE) (j:Nat) (hj:j<l.length),th (l.take (j+1))=th (l.take j)+EM l[j]
 | r::l,0,_=>by simp[th]
 | r::l,j+1,hj=>by
   simp only[List.take_succ_cons,th,List.getElem_cons_succ]
   rw[JA l j (by simpa using hj)];omega
theorem Ht:∀ {l:List RE}{r:RE},r∈l→EM r≤th l
 | x::l,r,h=>by
   simp only[th]
   rcases List.mem_cons.1 h with rfl|h
   ·omega
   ·have:=Ht h;omega
def RE.kids:RE→List RE|.mk _ _ l=>l
theorem CR (r:RE):EM r=1+th r.kids:=by cases r;simp[EM,RE.kids]
structure RW where
 K:Int
 A:Int
 B:Int
 ns:List Int
 E:List RE
 L:Bool
def rwE (r:RW):List AV:=[I r.K,I r.A,I r.B,.snap r.ns.length (r.ns.flatMap fun n=>[I n]),.snap r.E.length (xrL r.E),.lit (.bool r.L)]
def okW (r:RW):Prop:=inI r.K∧inI r.A∧inI r.B∧(∀ n∈r.ns,inI n)∧r.ns.length≤9223372036854775807∧r.E.length≤9223372036854775807∧EN r.E
def Ig (r:RW):Prop:=th r.E≤16∧r.ns.length≤60
section
variable [Tabs]
variable {h h0:ae}{Q:QT}
theorem eW {a n:Int}(hn:0<n) (hn2:n≤1000000000000000000) (ha:inI a) (k:Q (I (a%n)) h):C dr [I a,I n] h Q:=by
 refine FS _ _ _ _ ?_
 unfold DY
 refine nJ (by omega) ?_
 refine aJ (ah (fun hb=>?_) (fun hb=>?_))
 ·have hb:=of_decide_eq_true hb
  refine aH (by have:=K4 ha hn;omega) ?_
  rw[(uX a hn).1 hb];exact k
 ·have hb:=of_decide_eq_false hb
  rw[(uX a hn).2 hb];exact k
theorem gM {a n:Int}(hn:0<n) (hn2:n≤1000000000000000000) (ha:inI a) (k:Q (I (a%n)) h):C ea [I a,I n] h Q:=by
 refine FQ _ _ _ _ ?_
 unfold Ee
 refine nJ (by omega) ?_
 refine aJ (ah (fun hb=>?_) (fun hb=>?_))
 ·have hb:=of_decide_eq_true hb
  refine aH (by have:=K4 ha hn;omega) ?_
  rw[(uX a hn).1 hb];exact k
 ·have hb:=of_decide_eq_false hb
  rw[(uX a hn).2 hb];exact k
theorem bo {a n:Int}(hn:0<n) (hn2:n≤1000000000000000000) (ha:inI a) (k:Q (I (a%n)) h):C aW [I a,I n] h Q:=by
 refine FG _ _ _ _ ?_
 unfold DU
 refine nJ (by omega) ?_
 refine aJ (ah (fun hb=>?_) (fun hb=>?_))
 ·have hb:=of_decide_eq_true hb
  refine aH (by have:=K4 ha hn;omega) ?_
  rw[(uX a hn).1 hb];exact k
 ·have hb:=of_decide_eq_false hb
  rw[(uX a hn).2 hb];exact k
theorem U7 (l:List RE):Row xrE 3 h (.snap l.length (xrL l)) l:=by rw[MM];exact Row.snap uR l
theorem PQ:∀ (f d:Nat),d+f=8→∀ (l:List RE) (v:AV),l.length≤9223372036854775807→EN l→∀ (h:ae) (Q:QT),Row xrE 3 h v l→(∀ n:Nat,n≤1000+17*f→(n≤16→th l≤n)→Q (I (n:Nat)) h)→C pY [v,I (d:Nat)] h Q
 | 0,d,hd,l,v,hl,ho,h,Q,r,k=>by
   refine BB _ _ _ _ ?_
   unfold CP
   refine bU (ah (fun _=>?_) (fun hb=>?_))
   ·exact k 1000 (by omega) (by omega)
   ·have:=of_decide_eq_false hb;omega
 | f+1,d,hd,l,v,hl,ho,h,Q,r,k=>by
   refine BB _ _ _ _ ?_
   unfold CP
   refine bU (ah (fun hb=>?_) (fun hb=>?_))
   ·have:=of_decide_eq_true hb;omega
   refine aP (fun m vs h'=>∃ j n:Nat,vs=[I (n:Nat),I (j:Nat)]∧m+j=l.length∧n≤1000+17*(f+1)∧(n≤16→th (l.take j)≤n)∧h'=h) l.length ⟨0,0,rfl,by omega,by omega,by simp[th],rfl⟩ ?_
   rintro m vs h' ⟨j,n,rfl,hm,hn,hs,rfl⟩
   unfold A3
   refine r.len (aJ (ah (fun hb=>?_) (fun hb=>?_)))
   ·have hj:j<l.length:=by have:=of_decide_eq_true hb;omega
    refine eT (ah (fun hc=>?_) (fun hc=>?_))
    ·have hc:n≤16:=by have:=of_decide_eq_true hc;omega
     refine aH (by omega) ?_
     refine r.idx uR hj fun p t=>?_
     have hr:=Cn ho _ (List.getElem_mem hj)
     have hnt:=JA l j hj
     have hk:=CR l[j]
     cases hx:l[j] with
     | mk a b ls=>
       rw[hx]at t hr hnt hk
       simp only[okR]at hr
       unfold xrE at t
       refine xT t (by simp) fun q t=>?_
       refine aI t ?_
       refine aH (by omega) ?_
       refine PQ f (d+1) (by omega) ls _ hr.2.2.1 hr.2.2.2 _ _ (U7 ls) fun m2 h1 h2=>?_
       refine aH (by omega) ?_
       refine aH (by omega) ?_
       refine⟨m-1,by omega,j+1,n+1+m2,rfl,by omega,by omega,fun h3=>?_,rfl⟩
       rw[hnt,hk]
       simp only[RE.kids]
       have:=h2 (by omega)
       have:=hs hc
       omega
    ·have hc:¬ n≤16:=by have:=of_decide_eq_false hc;omega
     exact k n hn fun h=>absurd h hc
   ·have hj:l.length≤j:=by have:=of_decide_eq_false hb;omega
    refine k n hn fun h3=>?_
    have:=hs h3
    rwa [List.take_of_length_le hj]at this
theorem Zr {l:List RE}{v:AV}(hl:l.length≤9223372036854775807) (ho:EN l) (r:Row xrE 3 h v l) (k:∀ b,(b=true→th l≤16)→Q (B b) h):C wl [v] h Q:=by
 refine NR _ _ _ ?_
 unfold Pn
 refine PQ 8 0 rfl l v hl ho h _ r fun n h1 h2=>?_
 refine eT (k _ fun hb=>?_)
 have:=of_decide_eq_true hb
 have:=h2 (by omega)
 omega
theorem uB (r:RW):(rwE r).length=6:=rfl
theorem Mu {l:List RW}{v:AV}(hl:l.length≤9223372036854775807) (ho:∀ r∈l,okW r) (r:Row rwE 6 h v l) (k1:(∀ r∈l,Ig r)→Q (B true) h) (k0:Q (B false) h):C oI [v] h Q:=by
 refine Oa _ _ _ ?_
 unfold NQ
 refine aP (fun m vs h'=>∃ (j:Nat) (x:AV),vs=[x,I (j:Nat)]∧m+j=l.length∧(∀ r∈l.take j,Ig r)∧h'=h) l.length ⟨0,_,rfl,by omega,by simp,rfl⟩ ?_
 rintro m vs h' ⟨j,x,rfl,hm,hs,rfl⟩
 unfold D9
 refine r.len (aJ (ah (fun hb=>?_) (fun hb=>?_)))
 ·have hj:j<l.length:=by have:=of_decide_eq_true hb;omega
  have hw:=ho _ (List.getElem_mem hj)
  refine r.idx uB hj fun p t=>?_
  unfold rwE at t
  refine xT t (by simp) fun q t=>?_
  refine aI t ?_
  refine Zr hw.2.2.2.2.2.1 hw.2.2.2.2.2.2 (U7 _) fun b hb=>?_
  refine bP (ah (fun _=>k0) (fun hb2=>?_))
  have hb:=hb (by simpa using hb2)
  refine r.idx uB hj fun p t=>?_
  unfold rwE at t
  refine xT t (by simp) fun q t=>?_
  refine aI t (dB ?_)
  refine bU (ah (fun _=>k0) (fun hc=>?_))
  have hc:=of_decide_eq_false hc
  refine aH (by omega) ?_
  refine⟨m-1,by omega,j+1,_,rfl,by omega,fun r hr=>?_,rfl⟩
  rw[List.take_succ_eq_append_getElem hj,List.mem_append]at hr
  rcases hr with hr|hr
  ·exact hs r hr
  ·simp at hr;subst hr;exact⟨hb,by omega⟩
 ·have hj:l.length≤j:=by have:=of_decide_eq_false hb;omega
  rw[List.take_of_length_le hj]at hs
  exact k1 hs
end
end
end Go.Proofs.YtgkmmcdhhkllnaaGreatDoor.AL
namespace Go.Proofs.YtgkmmcdhhkllnaaGreatDoor.AL
noncomputable section
def okX:Ex→Prop
 | .none=>False
 | .num n=>n<4294967296
 | .name s=>s.length≤12
 | .here=>True
 | .neg e=>okX e
 | .bin k a b=>(5≤k∧k≤11)∧okX a∧okX b
section
variable [Tabs]
variable {h h0:ae}{Q:QT}{K:AV→Prop}
theorem yD (l:List Int) {P:Int→Prop}(hP:∀ x∈l,P x) {n:Nat}(hn:l.length=n) {j:Int}(hj:0≤j∧j<n) (k:∀ x,P x→K (I x)):am 1 (.full n (l.map I)) (I j) fun p=>ag p h K:=by
 obtain⟨i,rfl⟩:=Int.eq_ofNat_of_zero_le hj.1
 have hi:i<l.length:=by omega
 have r:Row (fun x:Int=>[I x]) 1 h (.full n (l.map I)) l:=by
  have e:l.map I=l.flatMap fun x:Int=>[I x]:=by
   clear hn hP hi
   induction l<;>simp_all
  rw[e,← hn];exact Row.full (enc:=fun x:Int=>[I x]) (sz:=1) (fun _=>rfl) l
 refine r.idx (fun _=>rfl) hi fun p t=>?_
 exact aI t (k _ (hP _ (List.getElem_mem hi)))
theorem yC (l:List Str) {P:Str→Prop}(hP:∀ x∈l,P x) {n:Nat}(hn:l.length=n) {j:Int}(hj:0≤j∧j<n) (k:∀ x,P x→K (T x)):am 1 (.full n (l.map T)) (I j) fun p=>ag p h K:=by
 obtain⟨i,rfl⟩:=Int.eq_ofNat_of_zero_le hj.1
 have hi:i<l.length:=by omega
 have r:Row sE 1 h (.full n (l.map T)) l:=by
  have e:l.map T=l.flatMap sE:=by
   clear hn hP hi
   induction l with
   | nil=>rfl
   | cons x l ih=>rw[List.map_cons,List.flatMap_cons,ih];rfl
  rw[e,← hn];exact Row.full (enc:=sE) (sz:=1) (fun _=>rfl) l
 refine r.idx (fun _=>rfl) hi fun p t=>?_
 exact aI t (k _ (hP _ (List.getElem_mem hi)))
omit [Tabs] in
theorem MW (n:Int):inI (IntKind.i64.wrap n):=by unfold inI;rw[IntKind.wrap_i64];omega
theorem Kx (x:List AV):[AV.agg x].flatMap (·.cells)=x:=by simp[AV.cells]
theorem aaK (x y:List AV):[AV.agg x,AV.agg y].flatMap (·.cells)=x++y:=by simp[AV.cells]
def RR (r:RE):Prop:=∀ (h:ae) (Q:QT),(∀ e h',okX e→bn e≤3*EM r→Fr [] h h'→Q (.agg (bq e)) h')→C jQ [.agg (xrE r)] h Q
def DX (l:List RE) (i:Nat):Nat:=if hi:i<l.length then 3*EM l[i] else 1
theorem Gp {k n:Int}{l:List RE}{i:Nat}(hi:i<5) (ho:okR (.mk k n l)) (hM:∀ r∈l,RR r) (q:∀ e h',okX e→bn e≤DX l i→Fr [] h h'→Q (.agg (bq e)) h'):C gK [.agg (xrE (.mk k n l)),I (i:Nat)] h Q:=by
 refine DB _ _ _ _ ?_
 unfold zA
 simp only[okR]at ho
 refine bR (St.start h) rfl fun j1 h1 s1=>?_
 have s1:St h [] h1 [(j1,true,.cells [I k,I n,.snap l.length (xrL l)])]:=by simpa [AV.cells,xrE] using s1
 refine aQ s1 fun j2 h2 s2=>?_
 refine aj (af s2 (.tail _ (.head _)) (a:=.snap l.length (xrL l)) rfl (dB ?_))
 refine aJ (ah (fun hb=>?_) (fun hb=>?_))
 ·have hj:i<l.length:=by have:=of_decide_eq_true hb;omega
  refine aj (af s2 (.tail _ (.head _)) (a:=.snap l.length (xrL l)) rfl ?_)
  have RL:Row xrE 3 h2 (.snap l.length (xrL l)) l:=U7 l
  refine RL.idx uR hj fun p t=>?_
  refine bk t (uR _).symm ?_
  refine hM _ (List.getElem_mem hj) _ _ fun e h3 he hs f3=>?_
  have s3:=s2.call f3
  refine aM s3 rfl (aq e) (aV e) .head fun h4 s4=>?_
  refine aL s4 (aq e) (.head _) ?_
  exact q e _ he (by unfold DX;rw[dif_pos hj];exact hs) s4.fr
 ·refine aj (af s2 (.tail _ (.head _)) (a:=I n) rfl (Fq ?_))
  refine gM (by decide) (by decide) (MW _) ?_
  have hm:=cX (a:=IntKind.i64.wrap (n+(i:Nat))) (n:=5) (by decide)
  obtain⟨m,hmm⟩:=Int.eq_ofNat_of_zero_le hm.1
  rw[hmm]
  refine aD rfl ?_
  refine aM s2 rfl (aq (.num m)) (aV (.num m)) .head fun h4 s4=>?_
  refine aL s4 (aq (.num m)) (.head _) ?_
  refine q (.num m) _ (by show m<_;omega) ?_ s4.fr
  unfold DX
  split
  ·have:=CR l[i];simp[bn];omega
  ·simp[bn]
def ab4:List Int:=[0,1,2,255,65536,4294967295,40,7]
def abG:List Str:=[[98,97,115,101],[120],[101,110,100,95,49],[114]]
theorem Pi:∀ (N:Nat) (r:RE),EM r≤N→okR r→RR r
 | 0,r,hN,_,h,Q,q=>by have:=CR r;omega
 | N+1,.mk k n l,hN,ho,h,Q,q=>by
   have hM:∀ r∈l,RR r:=fun r hr=>Pi N r (by have:=Ht hr;simp only[EM]at hN;omega) (Cn (by simp only[okR]at ho;exact ho.2.2.2) r hr)
   have ho':=ho
   simp only[okR]at ho
   have hnE:EM (.mk k n l)=1+th l:=by simp[EM]
   have hp0:DX l 0≤1+3*th l∧DX l 1≤1+3*th l∧DX l 0+DX l 1≤2+3*th l:=by
    unfold DX
    match l with
    | []=>simp
    | [a]=>simp[th];omega
    | a::b::l=>simp[th];omega
   refine Cr _ _ _ ?_
   unfold zM
   refine bR (St.start h) rfl fun j1 h1 s1=>?_
   have s1:St h [] h1 [(j1,true,.cells [I k,I n,.snap l.length (xrL l)])]:=by simpa [AV.cells,xrE] using s1
   refine aQ s1 fun j2 h2 s2=>?_
   have fin:∀ (e:Ex) (h3:ae),okX e→bn e≤3*EM (.mk k n l)→St h [] h3 [(j2,true,.cells [I 0,I 0,S ⟨#[]⟩,.full 0 []]),(j1,true,.cells [I k,I n,.snap l.length (xrL l)])]→
     ak 4 (.ptr j2 0) (.agg (bq e)) h3 fun h4=>aw 4 (.ptr j2 0) h4 fun r=>Q r h4:=fun e h3 he hs s3=>by
    refine aM s3 rfl (aq e) (aV e) .head fun h4 s4=>?_
    refine aL s4 (aq e) (.head _) ?_
    exact q e _ he hs s4.fr
   refine aj (af s2 (.tail _ (.head _)) (a:=I k) rfl ?_)
   refine gM (by decide) (by decide) ho.1 ?_
   have hk:=cX (a:=k) (n:=18) (by decide)
   obtain⟨c,hc⟩:=Int.eq_ofNat_of_zero_le hk.1
   rw[hc]at hk ⊢
   refine aJ (ah (fun hb=>?_) (fun hb=>?_))
   ·refine aB rfl rfl ?_
    refine aj (af s2 (.tail _ (.head _)) (a:=I n) rfl ?_)
    refine gM (by decide) (by decide) ho.2.1 ?_
    refine yD ab4 (P:=fun x=>0≤x∧x≤4294967295) (by decide) rfl (cX (by decide)) fun x hx=>?_
    obtain⟨m,rfl⟩:=Int.eq_ofNat_of_zero_le hx.1
    refine aD rfl ?_
    exact fin (.num m) _ (by show m<_;omega) (by simp[bn];omega) s2
   refine aJ (ah (fun hb=>?_) (fun hb=>?_))
   ·refine aj (af s2 (.tail _ (.head _)) (a:=I n) rfl ?_)
    refine yU _ _ ?_
    unfold AI
    refine aB rfl rfl ?_
    refine⟨af s2 (.tail _ (.head _)) (a:=I n) rfl rfl,?_⟩
    refine gM (by decide) (by decide) ho.2.1 ?_
    refine yC abG (P:=fun x=>x.length≤12) (by decide) rfl (cX (by decide)) fun x hx=>?_
    refine aD rfl ?_
    exact fin (.name x) _ hx (by simp[bn];omega) s2
   refine aA (ah (fun hb=>?_) (fun hb=>?_))
   ·refine aD rfl ?_
    exact fin .here _ trivial (by simp[bn];omega) s2
   refine aJ (ah (fun hb2=>?_) (fun hb2=>?_))
   ·refine aK s2 (.tail _ (.head _)) (nle rfl) ?_
    refine Gp (k:=k) (n:=n) (l:=l) (i:=0) (by decide) ho' hM fun e h3 he hs f3=>?_
    refine aB rfl (by simp[AV.isTup,AV.cells,aq]) ?_
    rw[Kx]
    refine aD (cs:=bq (.neg e)) rfl ?_
    refine fin (.neg e) _ he (by simp[bn];omega) (s2.call f3)
   ·have c11:11≤c:=by
     have h1:=of_decide_eq_false hb2
     omega
    refine aH (by omega) (cH (by omega) ?_)
    rw[show (5:Int)+(c:Nat)-11=((c-6:Nat):Int) by omega]
    refine aK s2 (.tail _ (.head _)) (nle rfl) ?_
    refine aK s2 (.tail _ (.head _)) (nle rfl) ?_
    refine Gp (k:=k) (n:=n) (l:=l) (i:=0) (by decide) ho' hM fun e h3 he hs f3=>?_
    have s3:=s2.call f3
    refine⟨aK s3 (.tail _ (.head _)) (nle rfl) rfl,?_⟩
    refine Gp (k:=k) (n:=n) (l:=l) (i:=1) (by decide) ho' hM fun e2 h4 he2 hs2 f4=>?_
    refine aB rfl (by simp[AV.isTup,AV.cells,aq]) ?_
    rw[aaK]
    refine aD (cs:=bq (.bin (c-6) e e2)) rfl ?_
    refine fin (.bin (c-6) e e2) _ ⟨⟨by omega,by omega⟩,he,he2⟩ (by simp[bn];omega) (s3.call f4)
theorem KN {l:List RE}{v:AV}(ho:EN l) (r:Row xrE 3 h v l) (q:∀ e h',okX e→bn e≤1+3*th l→Fr [] h h'→Q (.agg (bq e)) h'):C oG [v] h Q:=by
 refine NC _ _ _ ?_
 unfold OL
 refine aQ (St.start h) fun j2 h2 s2=>?_
 refine (r.fr s2.fr).len (aA (ah (fun hb=>?_) (fun hb=>?_)))
 ·refine aD rfl ?_
  refine aM s2 rfl (aq (.num 1)) (aV (.num 1)) .head fun h4 s4=>?_
  refine aL s4 (aq (.num 1)) (.head _) ?_
  exact q (.num 1) _ (by show 1<_;decide) (by simp[bn]) s4.fr
 ·have hj:0<l.length:=by have:=of_decide_eq_false hb;omega
  refine (r.fr s2.fr).idx uR (j:=0) hj fun p t=>?_
  refine bk t (uR _).symm ?_
  refine Pi _ l[0] (Nat.le_refl _) (Cn ho _ (List.getElem_mem hj)) _ _ fun e h3 he hs f3=>?_
  have s3:=s2.call f3
  refine aM s3 rfl (aq e) (aV e) .head fun h4 s4=>?_
  refine aL s4 (aq e) (.head _) ?_
  exact q e _ he (by have:=Ht (List.getElem_mem hj);omega) s4.fr
end
end
end Go.Proofs.YtgkmmcdhhkllnaaGreatDoor.AL
