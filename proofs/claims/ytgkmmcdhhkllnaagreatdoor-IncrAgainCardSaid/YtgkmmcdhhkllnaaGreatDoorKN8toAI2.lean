import Derived.Test.YtgkmmcdhhkllnaaGreatDoorSPK
import Derived.Test.YtgkmmcdhhkllnaaGreatDoorAL27toAL31
import Derived.Test.YtgkmmcdhhkllnaaGreatDoorF5
import Derived.Lib.Index
import Derived.Test.YtgkmmcdhhkllnaaGreatDoorAM4toAM6
set_option linter.all false
set_option autoImplicit true
set_option relaxedAutoImplicit true
set_option maxRecDepth 100000
namespace Go.Proofs.YtgkmmcdhhkllnaaGreatDoor.AL
noncomputable section
theorem Vy [Tabs]:Mf Pg tb5 spK 100 nZ [] .leaf 0 (fun r t _=>KW (B true) r t)=true:=by kernel_rfl
theorem aby [Tabs5] (h:ae) (Q:QT) (q:Q (B true) h):C nZ [] h Q:=lH Tabs5.tb abE (d:=100) (B true) rfl rfl Vy q
end
end Go.Proofs.YtgkmmcdhhkllnaaGreatDoor.AL
namespace Go.Proofs.YtgkmmcdhhkllnaaGreatDoor.AL
noncomputable section
variable [Tabs]
theorem B8 {l m:Str}{h:ae}{Q:QT}(k:Q (B (m.isPrefixOf l)) h):C fP [T l,T m] h Q:=by
 refine wC _ _ _ _ ?_
 unfold rS
 refine tn _ _ _ _ ?_
 unfold mW
 (repeat (first|refine be ?_|refine bL ?_))
 refine ah (fun hb=>?_) (fun hb=>?_)<;>simp only[za,zb,zc,zd,ze,zf,zg,zh,zi,u8i,zj,zk,zl]at hb
 ·(repeat refine be ?_)
  refine pI (by omega) (by omega) ?_
  (repeat refine aU ?_)
  have:decide (l.take m.length=m)=m.isPrefixOf l:=by
   rw[Bool.eq_iff_iff,decide_eq_true_eq,List.isPrefixOf_iff_prefix,List.prefix_iff_eq_take];exact eq_comm
  simp only[Int.toNat_natCast,this]
  exact k
 ·skip
  have:m.isPrefixOf l=false:=by
   rw[Bool.eq_false_iff];intro hp
   have:=(List.isPrefixOf_iff_prefix.1 hp).length_le
   omega
  rw[this]at k;exact k
def iC (c:UInt8):Str→Str
 | []=>[]
 | x::l=>if x=c then iC c l else x::l
theorem EK (c:UInt8) (l:Str) {h:ae}{Q:QT}(k:Q (T (iC c l)) h):C ep [T l,U8 c] h Q:=by
 refine tz _ _ _ _ ?_
 unfold oP
 refine aP (fun n vs h'=>h'=h∧∃ m:Str,vs=[T m]∧n=m.length∧iC c m=iC c l) l.length ⟨rfl,l,rfl,rfl,rfl⟩ ?_
 rintro n vs h' ⟨rfl,m,rfl,rfl,hm⟩
 unfold lz
 (repeat (first|refine be ?_|refine bU ?_))
 refine ah (fun hb=>?_) (fun hb=>?_)<;>simp only[za,zb,zc,zd,ze,zf,zg,zh,zi,u8i,zj,zk,zl]at hb
 ·cases m with
  | nil=>simp at hb
  | cons x m=>
    refine gB (by omega) (by simp) ?_
    (repeat refine aA ?_)
    simp only[Int.toNat_zero,List.getElem_cons_zero]
    refine ah (fun hc=>?_) (fun hc=>?_)<;>simp only[za,zb,zc,zd,ze,zf,zg,zh,zi,u8i,zj,zk,zl]at hc
    ·refine ii (by omega) (by simp;omega) ?_
     exact⟨m.length,by simp,trivial,m,rfl,rfl,by rw[← hm];simp[iC,hc]⟩
    ·rw[← hm]at k
     rw[iC,if_neg hc]at k;exact k
 ·have:m=[]:=by cases m with
   | nil=>rfl
   | cons=>simp at hb
  subst this
  rw[← hm]at k;exact k
theorem ME (c:UInt8) (hc:c.toNat<128) (l:Str) {h:ae}{Q:QT}(k:Q (T (iC c l)) h):C kp [T l,T [c]] h Q:=by
 refine yS _ _ _ _ ?_
 unfold tw
 (repeat refine aU ?_)
 refine ah (fun hb=>?_) (fun hb=>?_)<;>simp only[za,zb,zc,zd,ze,zf,zg,zh,zi,u8i,zj,zk,zl]at hb
 ·subst hb;exact k
 ·(repeat (first|refine be ?_|refine aA ?_|refine aU ?_))
  refine ah (fun _=>?_) (fun hb=>(by exfalso;first|(simp at hb;done)|(simp at hb;omega)|(revert hb;decide)|omega))
  refine gB (by omega) (by simp) ?_
  (repeat refine aJ ?_)
  refine ah (fun _=>?_) (fun hb=>?_)
  ·refine gB (by omega) (by simp) ?_
   exact EK c l k
  ·simp at hb;omega
end
end Go.Proofs.YtgkmmcdhhkllnaaGreatDoor.AL
namespace Go.Proofs.YtgkmmcdhhkllnaaGreatDoor.AL
noncomputable section
variable [Tabs]
def sR (p:Nat→Bool):List AV:=(List.range 256).map fun i=>B (p i)
omit [Tabs] in
theorem jo (p:Nat→Bool):(sR p).length=256:=by simp[sR]
theorem Hq (p:Nat→Bool) {i:Nat}(h:i<256):(sR p)[i]?=some (B (p i)):=by simp[sR,h]
theorem W7 (p:Nat→Bool) {i:Nat}(h:i<256):splice (sR p) i [B true]=sR (fun j=>decide (j=i)||p j):=by
 apply List.ext_getElem?
 intro j
 rw[dw (by simp[jo];omega)]
 simp only[List.length_cons,List.length_nil]
 rcases Nat.lt_or_ge j 256 with hj|hj
 ·rw[Hq _ hj,Hq _ hj]
  split
  ·rename_i hlt;simp[show j≠i by omega]
  ·split
   ·have:j=i:=by omega
    subst this;simp
   ·simp[show j≠i by omega]
 ·have:∀ q:Nat→Bool,(sR q)[j]?=none:=fun q=>List.getElem?_eq_none (by simp[jo];omega)
  rw[this,this]
  split
  ·rfl
  ·rw[if_neg (by omega)]
theorem Oh (p:Nat→Bool):(sR p).all AV.one=true:=by simp[sR,AV.one,Value.oneCell']
theorem Gs (a b:List AV) (h:a.length=b.length):splice a 0 b=b:=by simp[splice,h]
theorem QC (cs:Str) (hc:∀ c∈cs,c.toNat<128) (hl:cs.length<1000) {h:ae}{Q:QT}(k:∀ h',Fr [] h h'→Q (.tup [.agg (sR fun i=>cs.any fun c=>decide (i=c.toNat)),B true]) h'):C cA [T cs] h Q:=by
 refine ub _ _ _ ?_
 unfold ox
 have s:=St.start h
 refine aQ s fun i h1 s1=>?_
 have s1:St h [] h1 [(i,true,.cells (sR fun _=>false))]:=s1
 refine aP (fun n vs h'=>∃ k:Nat,∃ b,vs=[b,I (k:Nat)]∧n+k=cs.length∧St h [] h' [(i,true,.cells (sR fun i=>(cs.take k).any fun c=>decide (i=c.toNat)))]) cs.length ⟨0,_,rfl,by simp,by simpa using s1⟩ ?_
 rintro n vs h' ⟨m,b,rfl,hn,s2⟩
 unfold lC
 (repeat (first|refine be ?_|refine aJ ?_))
 refine ah (fun hb=>?_) (fun hb=>?_)<;>simp only[za,zb,zc,zd,ze,zf,zg,zh,zi,u8i,zj,zk,zl]at hb
 ·have hm:m<cs.length:=hb
  refine bO hm ?_
  (repeat refine bL ?_)
  have hcm:=hc cs[m] (by simp)
  refine ah (fun hb=>absurd hb (by simp;omega)) (fun _=>?_)
  refine (⟨(⟨⟨by omega,by omega⟩,?_⟩:cR 256 1 (.ptr i 0) (U8 cs[m]) _)⟩:cd 256 1 (.ptr i 0) (U8 cs[m]) _)
  simp only[Int.toNat_natCast,Nat.mul_one,Nat.zero_add]
  refine ay (cs:=sR fun i=>(cs.take m).any fun c=>decide (i=c.toNat)) s2 .head rfl rfl rfl (by rw[jo];omega) fun h3 s3=>?_
  (repeat refine aH (by omega) ?_)
  refine⟨n-1,by omega,m+1,_,rfl,by omega,?_⟩
  rw[show (B true).cells=[B true] from rfl,W7 _ (by omega)]at s3
  have e:(fun i=>(cs.take (m+1)).any fun c=>decide (i=c.toNat))=(fun j=>decide (j=cs[m].toNat)||(cs.take m).any fun c=>decide (j=c.toNat)):=by
   funext j
   rw[List.take_succ_eq_append_getElem hm];simp only[List.any_append,List.any_cons,List.any_nil,Bool.or_false];exact Bool.or_comm _ _
  rw[e];exact s3
 ·have hm:m=cs.length:=by omega
  subst hm
  rw[List.take_length]at s2
  refine aK s2 (.head _) (by rw[jo];omega) ?_
  rw[List.drop_zero,List.take_of_length_le (by rw[jo];omega)]
  refine ay (cs:=sR fun i=>cs.any fun c=>decide (i=c.toNat)) s2 .head rfl (by simp[AV.cells,jo]) (by exact Oh _) (by rw[jo];omega) fun h3 s3=>?_
  rw[show (AV.agg (sR fun i=>cs.any fun c=>decide (i=c.toNat))).cells=sR (fun i=>cs.any fun c=>decide (i=c.toNat)) from rfl,Gs _ _ rfl]at s3
  refine aK s3 (.head _) (by rw[jo];omega) ?_
  rw[List.drop_zero,List.take_of_length_le (by rw[jo];omega)]
  exact k _ s3.fr
theorem DR (p:Nat→Bool) (c:UInt8) {i:Nat}{h:ae}(e:h[i]?=some (.cells (sR p))) {Q:QT}(k:Q (B (p c.toNat)) h):C cY [.ptr i 0,U8 c] h Q:=by
 refine pf _ _ _ _ ?_
 unfold kj
 have hc:=c.toNat_lt
 refine au (⟨(⟨⟨by omega,by omega⟩,?_⟩:cR 256 1 (.ptr i 0) (U8 c) _)⟩:cd 256 1 (.ptr i 0) (U8 c) _)
 simp only[Int.toNat_natCast,Nat.mul_one,Nat.zero_add]
 refine af (St.startr e) (.head _) (Hq p (by omega)) ?_
 exact k
theorem Cq (p:Nat→Bool) (l:Str) {i:Nat}{h:ae}(e:h[i]?=some (.cells (sR p))) {Q:QT}(k:Q (T (l.dropWhile fun c=>p c.toNat)) h):C cj [T l,.ptr i 0] h Q:=by
 refine sU _ _ _ _ ?_
 unfold mX
 refine aP (fun n vs h'=>h'=h∧∃ m:Str,vs=[T m]∧n=m.length∧(m.dropWhile fun c=>p c.toNat)=l.dropWhile fun c=>p c.toNat) l.length ⟨rfl,l,rfl,rfl,rfl⟩ ?_
 rintro n vs h' ⟨rfl,m,rfl,rfl,hm⟩
 unfold kX gf kI
 (repeat (first|refine be ?_|refine bU ?_))
 refine ah (fun hb=>?_) (fun hb=>?_)<;>simp only[za,zb,zc,zd,ze,zf,zg,zh,zi,u8i,zj,zk,zl]at hb
 ·cases m with
  | nil=>simp at hb
  | cons x m=>
    refine gB (by omega) (by simp) ?_
    refine DR p x e ?_
    (repeat refine bP ?_)
    refine ah (fun hc=>?_) (fun hc=>?_)<;>simp only[za,zb,zc,zd,ze,zf,zg,zh,zi,u8i,zj,zk,zl]at hc
    ·rw[← hm,List.dropWhile_cons_of_neg (by simpa using hc)]at k;exact k
    ·refine ii (by omega) (by simp;omega) ?_
     exact⟨m.length,by simp,rfl,m,rfl,rfl,by rw[← hm,List.dropWhile_cons_of_pos (by simpa using hc)]⟩
 ·have:m=[]:=by cases m with
   | nil=>rfl
   | cons=>simp at hb
  subst this
  rw[← hm]at k;exact k
def wy (p:UInt8→Bool) (l:Str):Str:=(l.reverse.dropWhile p).reverse
theorem HD {p:UInt8→Bool}{l:Str}{x:UInt8}(h:p x=true):wy p (l++[x])=wy p l:=by simp[wy,h]
theorem GW {p:UInt8→Bool}{l:Str}{x:UInt8}(h:p x=false):wy p (l++[x])=l++[x]:=by simp[wy,h]
theorem Bv (p:Nat→Bool) (l:Str) (hl:l.length<4611686018427387904) {i:Nat}{h:ae}(e:h[i]?=some (.cells (sR p))) {Q:QT}(k:Q (T (wy (fun c=>p c.toNat) l)) h):C dP [T l,.ptr i 0] h Q:=by
 refine qW _ _ _ _ ?_
 unfold mt
 refine aP (fun n vs h'=>h'=h∧∃ m:Str,vs=[T m]∧n=m.length∧m.length≤l.length∧wy (fun c=>p c.toNat) m=wy (fun c=>p c.toNat) l) l.length ⟨rfl,l,rfl,rfl,Nat.le_refl _,rfl⟩ ?_
 rintro n vs h' ⟨rfl,m,rfl,rfl,hml,hm⟩
 unfold ka fu j0
 (repeat (first|refine be ?_|refine bU ?_))
 refine ah (fun hb=>?_) (fun hb=>?_)<;>simp only[za,zb,zc,zd,ze,zf,zg,zh,zi,u8i,zj,zk,zl]at hb
 ·rcases List.eq_nil_or_concat m with rfl|⟨m,x,rfl⟩
  ·simp at hb
  ·simp only[List.concat_eq_append]at *
   have hml':m.length+1≤l.length:=by simpa using hml
   refine be ?_
   refine cH (by simp;omega) ?_
   have e1:((m++[x]).length:Int)-1=(m.length:Nat):=by simp
   rw[e1]
   refine bO (by simp) ?_
   simp only[List.getElem_append_right (Nat.le_refl _),Nat.sub_self,List.getElem_cons_zero]
   refine DR p x e ?_
   (repeat refine bP ?_)
   refine ah (fun hc=>?_) (fun hc=>?_)<;>simp only[za,zb,zc,zd,ze,zf,zg,zh,zi,u8i,zj,zk,zl]at hc
   ·rw[← hm,GW (by simpa using hc)]at k;exact k
   ·refine be ?_
    refine cH (by simp at hml ⊢;omega) ?_
    rw[e1]
    refine pI (by omega) (by simp;omega) ?_
    refine⟨m.length,by simp,rfl,m,by simp,rfl,by omega,?_⟩
    rw[← hm,HD (by simpa using hc)]
 ·have:m=[]:=by cases m with
   | nil=>rfl
   | cons=>simp at hb
  subst this
  rw[← hm]at k;exact k
def Ti (c:UInt8):Bool:=c=32||c=9
def uq (l:Str):Str:=(wy Ti l).dropWhile Ti
theorem Ve (p:UInt8→Bool) (l:Str):(wy p l).length≤l.length:=by
 have:=(List.dropWhile_sublist p (l:=l.reverse)).length_le
 simpa [wy] using this
theorem T9 (p:UInt8→Bool) (l:Str):(l.dropWhile p).length≤l.length:=(List.dropWhile_sublist p).length_le
theorem qI (l:Str):(uq l).length≤l.length:=Nat.le_trans (T9 _ _) (Ve _ _)
theorem Fv (l:Str) (hl:l.length<4611686018427387904) {h:ae}{Q:QT}(k:∀ h',Fr [] h h'→Q (T (uq l)) h'):C fA [T l,T [32,9]] h Q:=by
 refine EA _ _ _ _ ?_
 unfold Ce
 have eg:(fun c:UInt8=>([32,9]:Str).any fun d=>decide (c.toNat=d.toNat))=Ti:=by
  funext c
  simp only[List.any_cons,List.any_nil,Bool.or_false,Ti]
  congr 1<;>(rw[Bool.eq_iff_iff];simp[← UInt8.toNat_inj])
 (repeat refine aU ?_)
 refine ah (fun hb=>?_) (fun hb=>?_)<;>simp only[za,zb,zc,zd,ze,zf,zg,zh,zi,u8i,zj,zk,zl]at hb
 ·subst hb;exact k _ (Fr.refl _ _)
 ·(repeat (first|refine be ?_|refine aA ?_|refine aU ?_))
  refine ah (fun hb=>(by exfalso;first|(simp at hb;done)|(simp at hb;omega)|(revert hb;decide)|omega)) (fun _=>?_)
  refine QC [32,9] (by decide) (by decide) fun h1 f1=>?_
  have s:=(St.start h).call f1
  (repeat refine aF rfl ?_)
  refine aQ s fun i h2 s2=>?_
  refine ay s2 .head rfl (by simp[AV.cells,jo]) (by exact Oh _) (by decide) fun h3 s3=>?_
  rw[show (AV.agg (sR fun i=>([32,9]:Str).any fun c=>decide (i=c.toNat))).cells=sR (fun i=>([32,9]:Str).any fun c=>decide (i=c.toNat)) from rfl,Gs _ _ (by rw[jo];rfl)]at s3
  refine ah (fun _=>?_) (fun hb=>by cases hb)
  refine Bv _ l hl (s3.get (.head _)) ?_
  refine Cq _ _ (s3.get (.head _)) ?_
  rw[eg]
  exact k _ s3.fr
end
end Go.Proofs.YtgkmmcdhhkllnaaGreatDoor.AL
namespace Go.Proofs.YtgkmmcdhhkllnaaGreatDoor.AL
noncomputable section
variable [Tabs]
theorem v8 {α:Type}{enc:α→List AV}(hs:∀ x,(enc x).length=4) (fv:AV) (p:α→Bool) (l:List α) (hl:l.length<4611686018427387904) {v:AV}{h:ae}(r:Row enc 4 h v l) {Q:QT}
  (hp:∀ x∈l,∀ (h':ae) (Q:QT),Fr [] h h'→(∀ h'',Fr [] h' h''→Q (B (p x)) h'')→CV fv [.agg (enc x)] h' Q) (k:∀ h',Fr [] h h'→Q (I (fR p l)) h'):C cE [v,fv] h Q:=by
 refine jr _ _ _ _ ?_
 unfold eP
 refine r.len ?_
 refine aP (fun n vs h'=>Fr [] h h'∧∃ i:Nat,∃ b,vs=[b,I (i:Nat)]∧n+i=l.length∧∀ j (hj:j<i) (hj2:j<l.length),p l[j]=false) l.length ⟨Fr.refl _ _,0,_,rfl,by omega,fun j hj=>by omega⟩ ?_
 rintro n vs h' ⟨f1,i,b,rfl,hn,ha⟩
 unfold d6
 (repeat refine aJ ?_)
 refine ah (fun hb=>?_) (fun hb=>?_)<;>simp only[za,zb,zc,zd,ze,zf,zg,zh,zi,u8i,zj,zk,zl]at hb
 ·have hi:i<l.length:=hb
  refine (r.fr f1).idx hs hi fun q t=>?_
  refine bk t (hs _).symm ?_
  refine hp l[i] (by simp) _ _ f1 fun h2 f2=>?_
  cases hpi:p l[i] with
  | true=>
    refine ah (fun _=>?_) (fun hb=>by cases hb)
    have:=k h2 (f1.trans f2 (by simp))
    rw[lx hi hpi fun j hj=>ha j hj (by omega)]at this
    exact this
  | false=>
    refine ah (fun hb=>by cases hb) (fun _=>?_)
    (repeat refine aH (by omega) ?_)
    refine⟨n-1,by omega,f1.trans f2 (by simp),i+1,_,rfl,by omega,fun j hj hj2=>?_⟩
    rcases Nat.lt_or_eq_of_le (Nat.le_of_lt_succ hj) with h1|h1
    ·exact ha j h1 hj2
    ·subst h1;exact hpi
 ·have:=k h' f1
  rw[ia fun j hj=>ha j (by omega) hj]at this
  exact this
theorem uw {α:Type}{arg:α→AV}(fv:AV) (p:α→Bool) (l:List α) (hl:l.length<4611686018427387904) {v:AV}{h:ae}(r:Row (fun x=>[arg x]) 1 h v l) {Q:QT}
  (hp:∀ x∈l,∀ (h':ae) (Q:QT),Fr [] h h'→(∀ h'',Fr [] h' h''→Q (B (p x)) h'')→CV fv [arg x] h' Q) (k:∀ h',Fr [] h h'→Q (I (fR p l)) h'):C cw [v,fv] h Q:=by
 refine iI _ _ _ _ ?_
 unfold em
 refine r.len ?_
 refine aP (fun n vs h'=>Fr [] h h'∧∃ i:Nat,∃ b,vs=[b,I (i:Nat)]∧n+i=l.length∧∀ j (hj:j<i) (hj2:j<l.length),p l[j]=false) l.length ⟨Fr.refl _ _,0,_,rfl,by omega,fun j hj=>by omega⟩ ?_
 rintro n vs h' ⟨f1,i,b,rfl,hn,ha⟩
 unfold dT
 (repeat refine aJ ?_)
 refine ah (fun hb=>?_) (fun hb=>?_)<;>simp only[za,zb,zc,zd,ze,zf,zg,zh,zi,u8i,zj,zk,zl]at hb
 ·have hi:i<l.length:=hb
  refine (r.fr f1).idx (fun _=>rfl) hi fun q t=>?_
  refine aI t ?_
  refine hp l[i] (by simp) _ _ f1 fun h2 f2=>?_
  cases hpi:p l[i] with
  | true=>
    refine ah (fun _=>?_) (fun hb=>by cases hb)
    have:=k h2 (f1.trans f2 (by simp))
    rw[lx hi hpi fun j hj=>ha j hj (by omega)]at this
    exact this
  | false=>
    refine ah (fun hb=>by cases hb) (fun _=>?_)
    (repeat refine aH (by omega) ?_)
    refine⟨n-1,by omega,f1.trans f2 (by simp),i+1,_,rfl,by omega,fun j hj hj2=>?_⟩
    rcases Nat.lt_or_eq_of_le (Nat.le_of_lt_succ hj) with h1|h1
    ·exact ha j h1 hj2
    ·subst h1;exact hpi
 ·have:=k h' f1
  rw[ia fun j hj=>ha j (by omega) hj]at this
  exact this
theorem wo {α:Type}{enc:α→List AV}(hs:∀ x,(enc x).length=3) (fv:AV) (p:α→Bool) (l:List α) (hl:l.length<4611686018427387904) {v:AV}{h:ae}(r:Row enc 3 h v l) {Q:QT}
  (hp:∀ x∈l,∀ (h':ae) (Q:QT),Fr [] h h'→(∀ h'',Fr [] h' h''→Q (B (p x)) h'')→CV fv [.agg (enc x)] h' Q) (k:∀ h',Fr [] h h'→Q (I (fR p l)) h'):C cP [v,fv] h Q:=by
 refine kE _ _ _ _ ?_
 unfold fp
 refine r.len ?_
 refine aP (fun n vs h'=>Fr [] h h'∧∃ i:Nat,∃ b,vs=[b,I (i:Nat)]∧n+i=l.length∧∀ j (hj:j<i) (hj2:j<l.length),p l[j]=false) l.length ⟨Fr.refl _ _,0,_,rfl,by omega,fun j hj=>by omega⟩ ?_
 rintro n vs h' ⟨f1,i,b,rfl,hn,ha⟩
 unfold eG
 (repeat refine aJ ?_)
 refine ah (fun hb=>?_) (fun hb=>?_)<;>simp only[za,zb,zc,zd,ze,zf,zg,zh,zi,u8i,zj,zk,zl]at hb
 ·have hi:i<l.length:=hb
  refine (r.fr f1).idx hs hi fun q t=>?_
  refine bk t (hs _).symm ?_
  refine hp l[i] (by simp) _ _ f1 fun h2 f2=>?_
  cases hpi:p l[i] with
  | true=>
    refine ah (fun _=>?_) (fun hb=>by cases hb)
    have:=k h2 (f1.trans f2 (by simp))
    rw[lx hi hpi fun j hj=>ha j hj (by omega)]at this
    exact this
  | false=>
    refine ah (fun hb=>by cases hb) (fun _=>?_)
    (repeat refine aH (by omega) ?_)
    refine⟨n-1,by omega,f1.trans f2 (by simp),i+1,_,rfl,by omega,fun j hj hj2=>?_⟩
    rcases Nat.lt_or_eq_of_le (Nat.le_of_lt_succ hj) with h1|h1
    ·exact ha j h1 hj2
    ·subst h1;exact hpi
 ·have:=k h' f1
  rw[ia fun j hj=>ha j (by omega) hj]at this
  exact this
theorem wR {α:Type}{enc:α→List AV}(hs:∀ x,(enc x).length=2) (fv:AV) (p:α→Bool) (l:List α) (hl:l.length<4611686018427387904) {v:AV}{h:ae}(r:Row enc 2 h v l) {Q:QT}
  (hp:∀ x∈l,∀ (h':ae) (Q:QT),Fr [] h h'→(∀ h'',Fr [] h' h''→Q (B (p x)) h'')→CV fv [.agg (enc x)] h' Q) (k:∀ h',Fr [] h h'→Q (I (fR p l)) h'):C cO [v,fv] h Q:=by
 refine ky _ _ _ _ ?_
 unfold fq
 refine r.len ?_
 refine aP (fun n vs h'=>Fr [] h h'∧∃ i:Nat,∃ b,vs=[b,I (i:Nat)]∧n+i=l.length∧∀ j (hj:j<i) (hj2:j<l.length),p l[j]=false) l.length ⟨Fr.refl _ _,0,_,rfl,by omega,fun j hj=>by omega⟩ ?_
 rintro n vs h' ⟨f1,i,b,rfl,hn,ha⟩
 unfold eE
 (repeat refine aJ ?_)
 refine ah (fun hb=>?_) (fun hb=>?_)<;>simp only[za,zb,zc,zd,ze,zf,zg,zh,zi,u8i,zj,zk,zl]at hb
 ·have hi:i<l.length:=hb
  refine (r.fr f1).idx hs hi fun q t=>?_
  refine bk t (hs _).symm ?_
  refine hp l[i] (by simp) _ _ f1 fun h2 f2=>?_
  cases hpi:p l[i] with
  | true=>
    refine ah (fun _=>?_) (fun hb=>by cases hb)
    have:=k h2 (f1.trans f2 (by simp))
    rw[lx hi hpi fun j hj=>ha j hj (by omega)]at this
    exact this
  | false=>
    refine ah (fun hb=>by cases hb) (fun _=>?_)
    (repeat refine aH (by omega) ?_)
    refine⟨n-1,by omega,f1.trans f2 (by simp),i+1,_,rfl,by omega,fun j hj hj2=>?_⟩
    rcases Nat.lt_or_eq_of_le (Nat.le_of_lt_succ hj) with h1|h1
    ·exact ha j h1 hj2
    ·subst h1;exact hpi
 ·have:=k h' f1
  rw[ia fun j hj=>ha j (by omega) hj]at this
  exact this
theorem tq {α:Type}{enc:α→List AV}(hs:∀ x,(enc x).length=4) (fv:AV) (p:α→Bool) (l:List α) (hl:l.length<4611686018427387904) {v:AV}{h:ae}(r:Row enc 4 h v l) {Q:QT}
  (hp:∀ x∈l,∀ (h':ae) (Q:QT),Fr [] h h'→(∀ h'',Fr [] h' h''→Q (B (p x)) h'')→CV fv [.agg (enc x)] h' Q) (k:∀ h',Fr [] h h'→Q (B (l.any p)) h'):C bF [v,fv] h Q:=by
 refine iB _ _ _ _ ?_
 unfold d9
 refine v8 hs fv p l hl r hp fun h1 f1=>?_
 (repeat refine bL ?_)
 have:decide (0≤fR p l)=l.any p:=by rw[Bool.eq_iff_iff,decide_eq_true_eq];exact Bf p l
 rw[this];exact k h1 f1
theorem qX {α:Type}{arg:α→AV}(fv:AV) (p:α→Bool) (l:List α) (hl:l.length<4611686018427387904) {v:AV}{h:ae}(r:Row (fun x=>[arg x]) 1 h v l) {Q:QT}
  (hp:∀ x∈l,∀ (h':ae) (Q:QT),Fr [] h h'→(∀ h'',Fr [] h' h''→Q (B (p x)) h'')→CV fv [arg x] h' Q) (k:∀ h',Fr [] h h'→Q (B (l.any p)) h'):C cc [v,fv] h Q:=by
 refine gV _ _ _ _ ?_
 unfold dR
 refine uw fv p l hl r hp fun h1 f1=>?_
 (repeat refine bL ?_)
 have:decide (0≤fR p l)=l.any p:=by rw[Bool.eq_iff_iff,decide_eq_true_eq];exact Bf p l
 rw[this];exact k h1 f1
theorem k7 (x:Str) (l:List (Str)) (hl:l.length<4611686018427387904) {v:AV}{h:ae}(r:Row (fun x:Str=>[T x]) 1 h v l) {Q:QT}(k:Q (I (fR (fun y=>decide (x=y)) l)) h):C bD [v,T x] h Q:=by
 refine nr _ _ _ _ ?_
 unfold iQ
 refine r.len ?_
 refine aP (fun n vs h'=>h'=h∧∃ i:Nat,∃ b,vs=[b,I (i:Nat)]∧n+i=l.length∧∀ j (hj:j<i) (hj2:j<l.length),decide (x=l[j])=false) l.length ⟨rfl,0,_,rfl,by omega,fun j hj=>by omega⟩ ?_
 rintro n vs h' ⟨rfl,i,b,rfl,hn,ha⟩
 unfold gR
 (repeat refine aJ ?_)
 refine ah (fun hb=>?_) (fun hb=>?_)<;>simp only[za,zb,zc,zd,ze,zf,zg,zh,zi,u8i,zj,zk,zl]at hb
 ·have hi:i<l.length:=hb
  refine r.idx (fun _=>rfl) hi fun q t=>?_
  refine aI t ?_
  refine aU ?_
  cases hpi:decide (x=l[i]) with
  | true=>
    refine ah (fun _=>?_) (fun hb=>by cases hb)
    rw[lx (p:=fun y=>decide (x=y)) hi hpi fun j hj=>ha j hj (by omega)]at k
    exact k
  | false=>
    refine ah (fun hb=>by cases hb) (fun _=>?_)
    (repeat refine aH (by omega) ?_)
    refine⟨n-1,by omega,rfl,i+1,_,rfl,by omega,fun j hj hj2=>?_⟩
    rcases Nat.lt_or_eq_of_le (Nat.le_of_lt_succ hj) with h1|h1
    ·exact ha j h1 hj2
    ·subst h1;exact hpi
 ·rw[ia (p:=fun y=>decide (x=y)) fun j hj=>ha j (by omega) hj]at k
  exact k
theorem LQ (x:Int) (l:List (Int)) (hl:l.length<4611686018427387904) {v:AV}{h:ae}(r:Row (fun x:Int=>[I x]) 1 h v l) {Q:QT}(k:Q (I (fR (fun y=>decide (x=y)) l)) h):C fX [v,I x] h Q:=by
 refine sI _ _ _ _ ?_
 unfold mZ
 refine r.len ?_
 refine aP (fun n vs h'=>h'=h∧∃ i:Nat,∃ b,vs=[b,I (i:Nat)]∧n+i=l.length∧∀ j (hj:j<i) (hj2:j<l.length),decide (x=l[j])=false) l.length ⟨rfl,0,_,rfl,by omega,fun j hj=>by omega⟩ ?_
 rintro n vs h' ⟨rfl,i,b,rfl,hn,ha⟩
 unfold kR
 (repeat refine aJ ?_)
 refine ah (fun hb=>?_) (fun hb=>?_)<;>simp only[za,zb,zc,zd,ze,zf,zg,zh,zi,u8i,zj,zk,zl]at hb
 ·have hi:i<l.length:=hb
  refine r.idx (fun _=>rfl) hi fun q t=>?_
  refine aI t ?_
  refine aA ?_
  cases hpi:decide (x=l[i]) with
  | true=>
    refine ah (fun _=>?_) (fun hb=>by cases hb)
    rw[lx (p:=fun y=>decide (x=y)) hi hpi fun j hj=>ha j hj (by omega)]at k
    exact k
  | false=>
    refine ah (fun hb=>by cases hb) (fun _=>?_)
    (repeat refine aH (by omega) ?_)
    refine⟨n-1,by omega,rfl,i+1,_,rfl,by omega,fun j hj hj2=>?_⟩
    rcases Nat.lt_or_eq_of_le (Nat.le_of_lt_succ hj) with h1|h1
    ·exact ha j h1 hj2
    ·subst h1;exact hpi
 ·rw[ia (p:=fun y=>decide (x=y)) fun j hj=>ha j (by omega) hj]at k
  exact k
theorem AA (x:Str) (l:List (Str)) (hl:l.length<4611686018427387904) {v:AV}{h:ae}(r:Row (fun x:Str=>[T x]) 1 h v l) {Q:QT}(k:Q (B (l.any fun y=>decide (x=y))) h):C dk [v,T x] h Q:=by
 refine lP _ _ _ _ ?_
 unfold gH
 refine k7 x l hl r ?_
 (repeat refine bL ?_)
 have:decide (0≤fR (fun y=>decide (x=y)) l)=l.any fun y=>decide (x=y):=by rw[Bool.eq_iff_iff,decide_eq_true_eq];exact Bf _ l
 rw[this];exact k
theorem EC (x:Int) (l:List (Int)) (hl:l.length<4611686018427387904) {v:AV}{h:ae}(r:Row (fun x:Int=>[I x]) 1 h v l) {Q:QT}(k:Q (B (l.any fun y=>decide (x=y))) h):C bf [v,I x] h Q:=by
 refine pQ _ _ _ _ ?_
 unfold kN
 refine LQ x l hl r ?_
 (repeat refine bL ?_)
 have:decide (0≤fR (fun y=>decide (x=y)) l)=l.any fun y=>decide (x=y):=by rw[Bool.eq_iff_iff,decide_eq_true_eq];exact Bf _ l
 rw[this];exact k
theorem DC {n:Nat}{cs:List AV}(hb:n*64≤1099511627776) {v:AV}{h:ae}(r:Rd h 5 v n cs) {Q:QT}(k:∀ h',Fr [] h h'→Q (.snap n cs) h'):C dC [v] h Q:=by
 refine ACall.conv ?_
 refine fV _ _ _ ?_
 unfold d8
 have hl:=r.len
 refine qd r (fun h0=>?_) ?_
 ·refine ah (fun _=>?_) (fun hb=>by cases hb)
  subst h0
  have:cs=[]:=by simpa using hl
  subst this
  exact en (k _ (Fr.refl _ _))
 ·refine ah (fun hb=>by cases hb) (fun _=>?_)
  refine aB rfl rfl ?_
  refine rH (St.start h) r hb (fun h0=>?_) fun i h1 hn s=>?_
  ·subst h0
   have:cs=[]:=by simpa using hl
   subst this
   exact en (k _ (Fr.refl _ _))
  ·exact qb (s.get (.head _)) hl (k _ (s.kill .head).fr)
theorem B6 {n:Nat}{cs:List AV}(hb:n*32≤1099511627776) {v:AV}{h:ae}(r:Rd h 3 v n cs) {Q:QT}(k:∀ h',Fr [] h h'→Q (.snap n cs) h'):C de [v] h Q:=by
 refine ACall.conv ?_
 refine ff _ _ _ ?_
 unfold dL
 have hl:=r.len
 refine qd r (fun h0=>?_) ?_
 ·refine ah (fun _=>?_) (fun hb=>by cases hb)
  subst h0
  have:cs=[]:=by simpa using hl
  subst this
  exact en (k _ (Fr.refl _ _))
 ·refine ah (fun hb=>by cases hb) (fun _=>?_)
  refine aB rfl rfl ?_
  refine rH (St.start h) r hb (fun h0=>?_) fun i h1 hn s=>?_
  ·subst h0
   have:cs=[]:=by simpa using hl
   subst this
   exact en (k _ (Fr.refl _ _))
  ·exact qb (s.get (.head _)) hl (k _ (s.kill .head).fr)
theorem A4 {n:Nat}{cs:List AV}(hb:n*80≤1099511627776) {v:AV}{h:ae}(r:Rd h 6 v n cs) {Q:QT}(k:∀ h',Fr [] h h'→Q (.snap n cs) h'):C c7 [v] h Q:=by
 refine ACall.conv ?_
 refine fa _ _ _ ?_
 unfold dJ
 have hl:=r.len
 refine qd r (fun h0=>?_) ?_
 ·refine ah (fun _=>?_) (fun hb=>by cases hb)
  subst h0
  have:cs=[]:=by simpa using hl
  subst this
  exact en (k _ (Fr.refl _ _))
 ·refine ah (fun hb=>by cases hb) (fun _=>?_)
  refine aB rfl rfl ?_
  refine rH (St.start h) r hb (fun h0=>?_) fun i h1 hn s=>?_
  ·subst h0
   have:cs=[]:=by simpa using hl
   subst this
   exact en (k _ (Fr.refl _ _))
  ·exact qb (s.get (.head _)) hl (k _ (s.kill .head).fr)
theorem ti {n:Nat}{cs:List AV}(hb:n*1≤1099511627776) {v:AV}{h:ae}(r:Rd h 1 v n cs) {Q:QT}(k:∀ h',Fr [] h h'→Q (.snap n cs) h'):C dz [v] h Q:=by
 refine ACall.conv ?_
 refine jx _ _ _ ?_
 unfold gO
 have hl:=r.len
 refine qd r (fun h0=>?_) ?_
 ·refine ah (fun _=>?_) (fun hb=>by cases hb)
  subst h0
  have:cs=[]:=by simpa using hl
  subst this
  exact en (k _ (Fr.refl _ _))
 ·refine ah (fun hb=>by cases hb) (fun _=>?_)
  refine aB rfl rfl ?_
  refine rH (St.start h) r hb (fun h0=>?_) fun i h1 hn s=>?_
  ·subst h0
   have:cs=[]:=by simpa using hl
   subst this
   exact en (k _ (Fr.refl _ _))
  ·exact qb (s.get (.head _)) hl (k _ (s.kill .head).fr)
theorem Mz {n:Nat}{cs:List AV}(hb:n*8≤1099511627776) {v:AV}{h:ae}(r:Rd h 1 v n cs) {Q:QT}(k:∀ h',Fr [] h h'→Q (.snap n cs) h'):C gh [v] h Q:=by
 refine ACall.conv ?_
 refine kQ _ _ _ ?_
 unfold iK
 have hl:=r.len
 refine qd r (fun h0=>?_) ?_
 ·refine ah (fun _=>?_) (fun hb=>by cases hb)
  subst h0
  have:cs=[]:=by simpa using hl
  subst this
  exact en (k _ (Fr.refl _ _))
 ·refine ah (fun hb=>by cases hb) (fun _=>?_)
  refine aB rfl rfl ?_
  refine rH (St.start h) r hb (fun h0=>?_) fun i h1 hn s=>?_
  ·subst h0
   have:cs=[]:=by simpa using hl
   subst this
   exact en (k _ (Fr.refl _ _))
  ·exact qb (s.get (.head _)) hl (k _ (s.kill .head).fr)
theorem EP {n:Nat}{cs:List AV}(hb:n*16≤1099511627776) {v:AV}{h:ae}(r:Rd h 1 v n cs) {Q:QT}(k:∀ h',Fr [] h h'→Q (.snap n cs) h'):C dW [v] h Q:=by
 refine ACall.conv ?_
 refine gF _ _ _ ?_
 unfold eL
 have hl:=r.len
 refine qd r (fun h0=>?_) ?_
 ·refine ah (fun _=>?_) (fun hb=>by cases hb)
  subst h0
  have:cs=[]:=by simpa using hl
  subst this
  exact en (k _ (Fr.refl _ _))
 ·refine ah (fun hb=>by cases hb) (fun _=>?_)
  refine aB rfl rfl ?_
  refine rH (St.start h) r hb (fun h0=>?_) fun i h1 hn s=>?_
  ·subst h0
   have:cs=[]:=by simpa using hl
   subst this
   exact en (k _ (Fr.refl _ _))
  ·exact qb (s.get (.head _)) hl (k _ (s.kill .head).fr)
end
end Go.Proofs.YtgkmmcdhhkllnaaGreatDoor.AL
namespace Go.Proofs.YtgkmmcdhhkllnaaGreatDoor.AL
noncomputable section
variable [Tabs]
theorem Fy (c:UInt8):c.toNat.toUInt8=c:=by simp
theorem ZH {l:Str}{c:UInt8}{K:AV→Prop}(k:K (I (Lib.indexByte l c))):VY .index [T l,U8 c] K:=⟨by
 simp only[Aj,Int.toNat_natCast,Fy];exact k⟩
theorem ZB {l:Str}{c:UInt8}{K:AV→Prop}(k:K (I (l.count c:Nat))):VY .count [T l,U8 c] K:=⟨by
 simp only[Aj,Int.toNat_natCast,Fy,Lib.countByte];exact k⟩
theorem KF (l:Str) (c:UInt8) {h:ae}{Q:QT}(k:Q (I (Lib.indexByte l c)) h):C jz [T l,U8 c] h Q:=by
 refine wF _ _ _ _ ?_
 unfold rY
 refine sA _ _ _ _ ?_
 unfold mY
 exact ZH k
theorem IM (l:Str) (c:UInt8):0≤Lib.indexByte l c↔c∈l:=by
 induction l with
 | nil=>simp[Lib.indexByte]
 | cons b l ih=>
   unfold Lib.indexByte
   by_cases hb:b=c
   ·subst hb;simp
   ·have:(b==c)=false:=by simpa using hb
    rw[this]
    simp only[Bool.false_eq_true,if_false,List.mem_cons,← ih]
    have hge:=Lib.indexByte_ge l c
    split
    ·rename_i h;simp at h;rw[h];simp[Ne.symm hb]
    ·rename_i h;simp at h
     constructor
     ·intro _;right;omega
     ·rintro (h|h)
      ·exact (hb h.symm).elim
      ·omega
def bG (c:UInt8):Str→List Str
 | []=>[[]]
 | x::l=>if x=c then []::bG c l else match bG c l with|[]=>[[x]]|p::ps=>(x::p)::ps
omit [Tabs] in
theorem jy (c:UInt8):∀ l:Str,(bG c l).length=l.count c+1
 | []=>rfl
 | x::l=>by
   have ih:=jy c l
   unfold bG
   by_cases hx:x=c
   ·subst hx;simp[ih]
   ·rw[if_neg hx,List.count_cons_of_ne (by simpa using hx)]
    cases h:bG c l with
    | nil=>rw[h]at ih;simp at ih
    | cons p ps=>rw[h]at ih;simpa using ih
omit [Tabs] in
theorem Jx {c:UInt8}:∀ {l:Str},c∉l→bG c l=[l]
 | [],_=>rfl
 | x::l,h=>by
   simp only[List.mem_cons,not_or]at h
   unfold bG
   rw[if_neg (Ne.symm h.1),Jx h.2]
omit [Tabs] in
theorem Ao {c:UInt8}:∀ {a b:Str},c∉a→bG c (a++c::b)=a::bG c b
 | [],b,_=>by simp[bG]
 | x::a,b,h=>by
   simp only[List.mem_cons,not_or]at h
   rw[List.cons_append,bG,if_neg (Ne.symm h.1),Ao h.2]
omit [Tabs] in
theorem N3 {c:UInt8}{l:Str}(h:c∉l):Lib.index l [c]=-1:=Lib.index_none fun j hj=>by
 unfold Lib.occAt
 rw[Bool.eq_false_iff];intro hp
 have:=List.isPrefixOf_iff_prefix.1 hp
 have hm:c∈l.drop j:=this.subset (by simp)
 exact h (List.mem_of_mem_drop hm)
omit [Tabs] in
theorem O9 {c:UInt8}{a b:Str}(h:c∉a):Lib.index (a++c::b) [c]=a.length:=Lib.index_first (by simp) (by simp[Lib.occAt]) fun j hj=>by
 unfold Lib.occAt
 rw[Bool.eq_false_iff];intro hp
 have:=List.isPrefixOf_iff_prefix.1 hp
 rw[List.drop_append_of_le_length (by omega),List.drop_eq_getElem_cons hj]at this
 simp only[List.cons_append,List.cons_prefix_cons]at this
 exact h (this.1 ▸ List.getElem_mem _)
omit [Tabs] in
theorem WB {c:UInt8}:∀ {l:Str},c∈l→∃ a b,l=a++c::b∧c∉a
 | [],h=>by simp at h
 | x::l,h=>by
   by_cases hx:x=c
   ·subst hx;exact⟨[],l,rfl,by simp⟩
   ·obtain⟨a,b,rfl,h2⟩:=WB (l:=l) (by simpa [Ne.symm hx] using h)
    exact⟨x::a,b,rfl,by simp[Ne.symm hx,h2]⟩
def gq:Prop:=∀ (s sub:Str) (h:ae) (Q:QT),s.length<4294967281→Q (I (Lib.index s sub)) h→C jY [T s,T sub] h Q
theorem C7 (c:UInt8) (l:Str):0<(bG c l).length:=by rw[jy];omega
theorem Pv (n:Nat):List.replicate n (T [])=(List.replicate n ([]:Str)).flatMap fun x=>[T x]:=by
 induction n with
 | zero=>rfl
 | succ n ih=>simp[List.replicate_succ,ih]
theorem VR (l:List Str):(l.flatMap fun x=>[T x])=l.map T:=by induction l<;>simp_all
theorem zW {l:List Str}{k:Nat}{x:Str}(h:k<l.length):splice (l.flatMap fun x=>[T x]) k [T x]=(l.set k x).flatMap fun x=>[T x]:=by
 rw[VR,VR]
 apply List.ext_getElem?;intro j
 rw[dw (by simp;omega)]
 simp only[List.length_cons,List.length_nil,List.getElem?_map,List.getElem?_set]
 split
 ·rw[if_neg (by omega)]
 ·split
  ·have:j=k:=by omega
   subst this;simp[h]
  ·rw[if_neg (by omega)]
theorem Kb (hI:gq) (c:UInt8) (l:Str) (hl:l.length<4000000000) {h:ae}{Q:QT}(k:∀ i h',St h [] h' [(i,true,.cells ((bG c l).flatMap fun x=>[T x]))]→Q (.sl i 0 (bG c l).length 1) h'):C gC [T l,T [c]] h Q:=by
 refine CQ _ _ _ _ ?_
 unfold zF
 refine yF _ _ _ _ _ _ ?_
 unfold ue
 (repeat (first|refine aJ ?_|refine aA ?_|refine aU ?_))
 refine Ct _ _ _ _ ?_
 unfold zz
 (repeat (first|refine be ?_|refine aA ?_))
 refine ah (fun _=>?_) (fun hb=>(by exfalso;first|(simp at hb;done)|(simp at hb;omega)|(revert hb;decide)|omega))
 refine bO (l:=[c]) (i:=0) (by simp) ?_
 refine ZB (c:=c) ?_
 have hcnt:=List.count_le_length (a:=c) (l:=l)
 have hsl:=jy c l
 (repeat (first|refine be ?_|refine aH (by omega) ?_|refine Q3 ?_))
 have e1:min ((l.count c:Int)+1) ((l.length:Int)+1)=((bG c l).length:Nat):=by rw[hsl];omega
 rw[e1]
 refine Bs (St.start h) (Nat.le_refl _) (by omega) (by omega) fun i h1 s=>?_
 have s:St h [] h1 [(i,true,.cells (List.replicate (bG c l).length (T [])))]:=s
 rw[Pv]at s
 refine cH (by omega) ?_
 have e2:((bG c l).length:Int)-1=(((bG c l).length-1:Nat):Int):=by have:=C7 c l;omega
 rw[e2]
 refine aP (fun n vs h'=>∃ (m:Nat) (r:Str) (ps:List Str),vs=[T r,I (m:Nat)]∧r.length≤l.length∧n+m=(bG c l).length∧ps.length=m∧bG c l=ps++bG c r∧St h [] h' [(i,true,.cells ((ps++List.replicate n []).flatMap fun x=>[T x]))]) (bG c l).length ⟨0,l,[],rfl,Nat.le_refl _,by omega,rfl,rfl,by simpa using s⟩ ?_
 rintro n vs h' ⟨m,r,ps,rfl,hr,hn,hps,hsp,s1⟩
 have hne:=C7 c r
 have hrl:=jy c r
 have hlen:(bG c l).length=m+(bG c r).length:=by rw[hsp];simp[hps]
 have fin:c∉r→gw (T r) (I (m:Nat)) (.sl i 0 (bG c l).length 1) h' Q:=by
  intro hc
  rw[Jx hc]at hlen hsp
  simp at hlen
  have hn1:n=1:=by omega
  subst hn1
  unfold gw pn
  have R:Rd h' 1 (.sl i 0 (bG c l).length 1) (bG c l).length ((ps++List.replicate 1 []).flatMap fun x=>[T x]):=by
   have:=Rd.sl (sz:=1) (n:=(bG c l).length) (o:=0) (s1.get (.head _)) (by rw[fM _ 1 (fun _=>rfl)];simp;omega)
   rwa [List.drop_zero,List.take_of_length_le (by rw[fM _ 1 (fun _=>rfl)];simp;omega)]at this
  refine yg (by omega) ?_
  rw[Nat.mul_one]
  refine ay s1 .head rfl rfl rfl (by rw[fM _ 1 (fun _=>rfl)];simp;omega) fun h2 s2=>?_
  rw[show (T r).cells=[T r] from rfl,zW (by simp;omega)]at s2
  refine aH (by omega) ?_
  refine Pm (by omega) (by omega) ?_
  have e3:(ps++List.replicate 1 []).set m r=bG c l:=by
   rw[hsp,List.set_append_right _ _ (by omega),hps];simp
  rw[e3]at s2
  have e5:((m:Int)+1).toNat=(bG c l).length:=by rw[hsp];simp[hps]
  rw[e5]
  exact k _ _ s2
 unfold pi
 (repeat refine aJ ?_)
 refine ah (fun hb=>?_) (fun hb=>?_)<;>simp only[za,zb,zc,zd,ze,zf,zg,zh,zi,u8i,zj,zk,zl]at hb
 ·refine hI r [c] _ _ (by omega) ?_
  by_cases hc:c∈r
  ·obtain⟨a,b,rfl,ha⟩:=WB hc
   rw[O9 ha]
   (repeat refine aJ ?_)
   refine ah (fun hb=>(by exfalso;first|(simp at hb;done)|(simp at hb;omega)|(revert hb;decide)|omega)) (fun _=>?_)
   refine aH (by simp at hr;omega) ?_
   have e3:((a.length:Int)+0)=(a.length:Nat):=by omega
   rw[e3]
   refine pI (by omega) (by simp;omega) ?_
   rw[Int.toNat_natCast,List.take_left]
   rw[Ao ha]at hlen
   have hnp:=C7 c b
   refine yg (by simp at hlen;omega) ?_
   rw[Nat.mul_one]
   refine ay s1 .head rfl rfl rfl (by rw[fM _ 1 (fun _=>rfl)];simp;omega) fun h2 s2=>?_
   rw[show (T a).cells=[T a] from rfl,zW (by simp;omega)]at s2
   refine be ?_
   refine aH (by simp at hr ⊢;omega) ?_
   have e4:((a.length:Int)+(([c]:Str).length:Nat))=((a.length+1:Nat):Int):=by simp
   rw[e4]
   refine ii (by omega) (by simp;omega) ?_
   rw[Int.toNat_natCast,show a.length+1=(a++[c]).length by simp,show a++c::b=(a++[c])++b by simp,List.drop_left]
   (repeat refine aH (by omega) ?_)
   rw[Ao ha]at hsp
   simp at hlen
   refine⟨n-1,by omega,m+1,b,ps++[a],rfl,by simp at hr;omega,by omega,by simp[hps],by rw[hsp];simp,?_⟩
   have e5:(ps++List.replicate n []).set m a=ps++[a]++List.replicate (n-1) []:=by
    rw[List.set_append_right _ _ (by omega),hps,Nat.sub_self]
    obtain⟨q,rfl⟩:∃ q,n=q+1:=⟨n-1,by omega⟩
    simp[List.replicate_succ]
   rw[e5]at s2;exact s2
  ·rw[N3 hc]
   (repeat refine aJ ?_)
   refine ah (fun _=>?_) (fun hb=>(by exfalso;first|(simp at hb;done)|(simp at hb;omega)|(revert hb;decide)|omega))
   exact fin hc
 ·refine fin fun hc=>?_
  have:0<r.count c:=List.count_pos_iff.2 hc
  simp[ap]at hb
  omega
theorem XG (hI:gq) (c:UInt8) (l:Str) (hl:l.length<4000000000) {h:ae}{Q:QT}(k:∀ h',Fr [] h h'→Q (.snap (bG c l).length ((bG c l).flatMap fun x=>[T x])) h'):C gC [T l,T [c]] h Q:=by
 refine ACall.conv ?_
 refine Kb hI c l hl fun i h' s=>?_
 exact qb (s.get (.head _)) (fM _ 1 (fun _=>rfl) _) (k _ (s.kill .head).fr)
end
end Go.Proofs.YtgkmmcdhhkllnaaGreatDoor.AL
namespace Go.Proofs.YtgkmmcdhhkllnaaGreatDoor.AL
noncomputable section
structure Rw where
 name:List UInt8
 bits:Nat
 kinds:List UInt8
def tbl:List Rw:=[
 ⟨[115,101,95,105,108,108,101,103,97,108],0,[]⟩,
 ⟨[115,101,95,105,115,121,110,99],1,[]⟩,
 ⟨[115,101,95,115,99],2,[]⟩,
 ⟨[115,101,95,98,108,114],4,[]⟩,
 ⟨[115,101,95,98,99,116,114],6,[]⟩,
 ⟨[115,101,95,110,111,116],32,[88]⟩,
 ⟨[115,101,95,110,101,103],48,[88]⟩,
 ⟨[115,101,95,109,102,108,114],128,[88]⟩,
 ⟨[115,101,95,109,116,108,114],144,[88]⟩,
 ⟨[115,101,95,109,102,99,116,114],160,[88]⟩,
 ⟨[115,101,95,109,116,99,116,114],176,[88]⟩,
 ⟨[115,101,95,101,120,116,122,98],192,[88]⟩,
 ⟨[115,101,95,101,120,116,115,98],208,[88]⟩,
 ⟨[115,101,95,101,120,116,122,104],224,[88]⟩,
 ⟨[115,101,95,101,120,116,115,104],240,[88]⟩,
 ⟨[115,101,95,109,114],256,[88,32,89]⟩,
 ⟨[115,101,95,97,100,100],1024,[88,32,89]⟩,
 ⟨[115,101,95,109,117,108,108,119],1280,[88,32,89]⟩,
 ⟨[115,101,95,115,117,98],1536,[88,32,89]⟩,
 ⟨[115,101,95,99,109,112],3072,[88,32,89]⟩,
 ⟨[115,101,95,99,109,112,108],3328,[88,32,89]⟩,
 ⟨[115,101,95,97,100,100,105],8192,[88,32,79,53]⟩,
 ⟨[115,101,95,99,109,112,108,105],8704,[88,32,79,53]⟩,
 ⟨[115,101,95,115,117,98,105],9216,[88,32,79,53]⟩,
 ⟨[115,101,95,99,109,112,105],10752,[88,32,85,53]⟩,
 ⟨[115,101,95,111,114],17408,[88,32,89]⟩,
 ⟨[115,101,95,97,110,100,99],17664,[88,32,89]⟩,
 ⟨[115,101,95,97,110,100],17920,[88,32,89]⟩,
 ⟨[115,101,95,108,105],18432,[88,32,85,55]⟩,
 ⟨[115,101,95,98,99,108,114,105],24576,[88,32,85,53]⟩,
 ⟨[115,101,95,98,115,101,116,105],25600,[88,32,85,53]⟩,
 ⟨[115,101,95,98,116,115,116,105],26112,[88,32,85,53]⟩,
 ⟨[115,101,95,115,114,119,105],26624,[88,32,85,53]⟩,
 ⟨[115,101,95,115,108,119,105],27648,[88,32,85,53]⟩,
 ⟨[115,101,95,108,98,122],32768,[89,32,77,49,32,88]⟩,
 ⟨[115,101,95,115,116,98],36864,[89,32,77,49,32,88]⟩,
 ⟨[115,101,95,108,104,122],40960,[89,32,77,50,32,88]⟩,
 ⟨[115,101,95,115,116,104],45056,[89,32,77,50,32,88]⟩,
 ⟨[115,101,95,108,119,122],49152,[89,32,77,52,32,88]⟩,
 ⟨[115,101,95,115,116,119],53248,[89,32,77,52,32,88]⟩,
 ⟨[115,101,95,98,99],57344,[79,49,32,73,50,32,84,56]⟩,
 ⟨[115,101,95,98],59392,[84,56]⟩,
 ⟨[115,101,95,98,108],59648,[84,56]⟩,
 ⟨[101,95,97,100,100,49,54,105],469762048,[68,32,65,32,83,49,54]⟩,
 ⟨[101,95,97,100,100,105],402685952,[68,32,65,32,67,56]⟩,
 ⟨[101,95,97,110,100,105],402702336,[65,32,68,32,67,56]⟩,
 ⟨[101,95,111,114,105],402706432,[65,32,68,32,67,56]⟩,
 ⟨[101,95,120,111,114,105],402710528,[65,32,68,32,67,56]⟩,
 ⟨[101,95,108,105],1879048192,[68,32,76,50,48]⟩,
 ⟨[101,95,108,98,122],805306368,[68,32,83,49,54,32,65]⟩,
 ⟨[101,95,115,116,98],872415232,[68,32,83,49,54,32,65]⟩,
 ⟨[101,95,108,104,97],939524096,[68,32,83,49,54,32,65]⟩,
 ⟨[101,95,108,119,122],1342177280,[68,32,83,49,54,32,65]⟩,
 ⟨[101,95,115,116,119],1409286144,[68,32,83,49,54,32,65]⟩,
 ⟨[101,95,108,104,122],1476395008,[68,32,83,49,54,32,65]⟩,
 ⟨[101,95,115,116,104],1543503872,[68,32,83,49,54,32,65]⟩,
 ⟨[101,95,98],2013265920,[84,50,52]⟩,
 ⟨[101,95,98,108],2013265921,[84,50,52]⟩,
 ⟨[101,95,98,99],2046820352,[79,50,32,73,52,32,84,49,53]⟩,
 ⟨[101,95,98,99,108],2046820353,[79,50,32,73,52,32,84,49,53]⟩,
 ⟨[97,100,100],2080375316,[68,32,65,32,66]⟩,
 ⟨[115,117,98,102],2080374864,[68,32,65,32,66]⟩,
 ⟨[109,117,108,108,119],2080375254,[68,32,65,32,66]⟩,
 ⟨[97,110,100],2080374840,[65,32,68,32,66]⟩,
 ⟨[111,114],2080375672,[65,32,68,32,66]⟩,
 ⟨[120,111,114],2080375416,[65,32,68,32,66]⟩]
def kindsL:List (List UInt8×List (List UInt8)):=[
 ([],[]),
 ([88],[[88]]),
 ([88,32,89],[[88],[89]]),
 ([88,32,79,53],[[88],[79,53]]),
 ([88,32,85,53],[[88],[85,53]]),
 ([88,32,85,55],[[88],[85,55]]),
 ([89,32,77,49,32,88],[[89],[77,49],[88]]),
 ([89,32,77,50,32,88],[[89],[77,50],[88]]),
 ([89,32,77,52,32,88],[[89],[77,52],[88]]),
 ([79,49,32,73,50,32,84,56],[[79,49],[73,50],[84,56]]),
 ([84,56],[[84,56]]),
 ([68,32,65,32,83,49,54],[[68],[65],[83,49,54]]),
 ([68,32,65,32,67,56],[[68],[65],[67,56]]),
 ([65,32,68,32,67,56],[[65],[68],[67,56]]),
 ([68,32,76,50,48],[[68],[76,50,48]]),
 ([68,32,83,49,54,32,65],[[68],[83,49,54],[65]]),
 ([84,50,52],[[84,50,52]]),
 ([79,50,32,73,52,32,84,49,53],[[79,50],[73,52],[84,49,53]]),
 ([68,32,65,32,66],[[68],[65],[66]]),
 ([65,32,68,32,66],[[65],[68],[66]])]
end
end Go.Proofs.YtgkmmcdhhkllnaaGreatDoor.AL
set_option exponentiation.threshold 2000
namespace Go.Proofs.YtgkmmcdhhkllnaaGreatDoor.AL
noncomputable section
open Ieee
theorem Om {m:Nat}(h:m≠0):2^m.log2≤m∧m<2^(m.log2+1):=⟨Nat.log2_self_le h,Nat.lt_log2_self⟩
theorem Qf {neg:Bool}{m:Nat}(h0:m≠0) (h1:m<2^53):double.read (double.nearest neg m 0)=.number neg (m*2^(52-m.log2)) ((m.log2:Int)-52):=by
 obtain⟨hl,hu⟩:=Om h0
 have hL:m.log2≤52:=by
  have:m.log2<53:=(Nat.log2_lt h0).2 h1
  omega
 generalize hLe:m.log2=L at *
 have hp:2^L*2^(52-L)=2^52:=by rw[← Nat.pow_add];congr 1;omega
 have hp2:2^(L+1)*2^(52-L)=2^53:=by rw[← Nat.pow_add];congr 1;omega
 have hpos:0<2^(52-L):=Nat.two_pow_pos _
 have n1:2^52≤m*2^(52-L):=by rw[← hp];exact Nat.mul_le_mul_right _ hl
 have n2:m*2^(52-L)<2^53:=by rw[← hp2];exact Nat.mul_lt_mul_of_pos_right hu hpos
 generalize hn:m*2^(52-L)=n at *
 have hlast:max ((0:Int)+(L:Int)-(double.fractionBits:Int)) double.leastPlace=(L:Int)-52:=by
  show max ((0:Int)+(L:Int)-((52:Nat):Int)) (2-2^(11-1)-((52:Nat):Int))=_
  have:(2:Int)^(11-1)=1024:=by decide
  omega
 have hne:double.nearest neg m 0=double.word neg ((L+1022)*2^52+n):=by
  unfold Format.nearest
  rw[if_neg h0,hLe]
  simp only[hlast]
  have e1:((0:Int)-((L:Int)-52)).toNat=52-L:=by omega
  have e2:((L:Int)-52-0).toNat=0:=by omega
  have e3:((L:Int)-52-double.leastPlace).toNat=L+1022:=by
   have:double.leastPlace=-1074:=by decide
   omega
  have e4:Toward.even.cut neg (m <<< (52-L)) 0=n:=by
   rw[Nat.shiftLeft_eq,hn]
   unfold Toward.cut
   simp
   omega
  rw[e1,e2,e3,e4]
  have e5:double.binade=2^52:=rfl
  have e6:double.infRung=2047*2^52:=by decide
  rw[e5,e6,Nat.min_eq_left]
  omega
 rw[hne]
 have s1:double.signWeight=2^63:=by decide
 have e5:double.binade=2^52:=rfl
 have e6:double.infRung=2047*2^52:=by decide
 have e7:double.leastPlace=-1074:=by decide
 have hw:(double.word neg ((L+1022)*2^52+n)) / 2^63%2=neg.toNat∧(double.word neg ((L+1022)*2^52+n))%2^63=(L+1022)*2^52+n:=by
  unfold Format.word
  rw[s1]
  cases neg<;>simp<;>omega
 unfold Format.read
 simp only[s1,hw.1,hw.2,e5,e6,e7]
 rw[if_neg (by omega),if_pos (by omega)]
 congr 1
 ·cases neg<;>rfl
 ·omega
 ·omega
theorem B4 {topE:Nat}(hE:topE=1074) (a:Int) (h:a.natAbs<2^53):∃ s m i,double.read (FloatKind.f64.nearest a)=.number s m i∧-1074≤i∧i≤0∧(if s=true then -((m:Int)*2^(i+topE).toNat) else (m:Int)*2^(i+topE).toNat)=a*2^topE:=by
 by_cases h0:a.natAbs=0
 ·have:a=0:=by omega
  subst this
  exact⟨false,0,-1074,by decide,by omega,by omega,by simp⟩
 ·refine⟨decide (a<0),_,_,Qf h0 h,?_,?_,?_⟩
  ·omega
  ·have:a.natAbs.log2<53:=(Nat.log2_lt h0).2 h
   omega
  ·have hL:a.natAbs.log2<53:=(Nat.log2_lt h0).2 h
   generalize a.natAbs.log2=L at *
   have e1:((L:Int)-52+topE).toNat=L+1022:=by omega
   have e2:((a.natAbs*2^(52-L):Nat):Int)*2^((L:Int)-52+topE).toNat=(a.natAbs:Int)*2^topE:=by
    rw[e1,Int.natCast_mul,Int.mul_assoc,Int.natCast_pow,show ((2:Nat):Int)=2 from rfl,← Int.pow_add]
    rw[show 52-L+(L+1022)=topE by omega]
   rw[e2]
   generalize (2:Int)^1074=X
   by_cases hn:a<0
   ·rw[if_pos (by simpa using hn),← Int.neg_mul,show -(a.natAbs:Int)=a by omega]
   ·rw[if_neg (by simpa using hn),show (a.natAbs:Int)=a by omega]
theorem SQ {a b c:Int}(hc:0<c):compare (a*c) (b*c)=compare a b:=by
 simp only[compare,compareOfLessAndEq]
 by_cases h1:a<b
 ·rw[if_pos h1,if_pos ((Int.mul_lt_mul_right hc).2 h1)]
 ·rw[if_neg h1,if_neg (fun h=>h1 ((Int.mul_lt_mul_right hc).1 h))]
  by_cases h2:a=b
  ·subst h2;simp
  ·rw[if_neg h2,if_neg (fun h=>h2 (Int.eq_of_mul_eq_mul_right (by omega) h))]
theorem Ku (s:Bool) (m a b:Nat):signed s m a*2^b=if s=true then -((m:Int)*2^(a+b)) else (m:Int)*2^(a+b):=by
 have h:((m <<< a:Nat):Int)*2^b=(m:Int)*2^(a+b):=by
  rw[Nat.shiftLeft_eq,Int.natCast_mul,Int.natCast_pow,Int.mul_assoc,Int.pow_add];rfl
 unfold signed
 cases s
 ·simpa using h
 ·simp only[if_true];rw[Int.neg_mul,h]
theorem zr (a b:Int) (ha:a.natAbs<2^53) (hb:b.natAbs<2^53):FloatKind.f64.format.order (FloatKind.f64.nearest a) (FloatKind.f64.nearest b)=some (compare a b):=by
 obtain⟨topE,hE⟩:∃ E,E=1074:=⟨_,rfl⟩
 obtain⟨s,m,i,h1,h2,h3,h4⟩:=B4 hE a ha
 obtain⟨t,n,j,k1,k2,k3,k4⟩:=B4 hE b hb
 show (double.read (FloatKind.f64.nearest a)).order (double.read (FloatKind.f64.nearest b))=_
 rw[h1,k1]
 simp only[Datum.order]
 congr 1
 have hp:∀ n:Nat,(0:Int)<2^n:=fun n=>Int.pow_pos (by decide)
 rw[← SQ (hp (min i j+topE).toNat),Ku,Ku]
 rw[show (i-min i j).toNat+(min i j+topE).toNat=(i+topE).toNat by omega,show (j-min i j).toNat+(min i j+topE).toNat=(j+topE).toNat by omega,h4,k4]
 exact SQ (hp topE)
end
end Go.Proofs.YtgkmmcdhhkllnaaGreatDoor.AL
namespace Go.Proofs.YtgkmmcdhhkllnaaGreatDoor.AL
noncomputable section
variable [Tabs]
def F2 (r:Rw):List AV:=[T r.name,.lit (.int .u32 r.bits),T r.kinds]
theorem xu (r:Rw):(F2 r).length=3:=rfl
set_option maxHeartbeats 4000000 in
theorem AW {h:ae}{Q:QT}(k:Q (.full tbl.length (tbl.flatMap F2)) h):C jV [] h Q:=by
 refine Mr _ _ ?_
 unfold Jc
 (repeat (first|refine aD rfl ?_|refine aB rfl rfl ?_))
 exact k
theorem Fl (h:ae):Row F2 3 h (.full tbl.length (tbl.flatMap F2)) tbl:=Row.full xu tbl
def nl (s:Str):Option Nat:=tbl.findIdx? fun r=>decide (r.name=s)
theorem Tp (s:Str) {h:ae}{Q:QT}(k:∀ h',Fr [] h h'→Q (.tup [I (((nl s).getD 0:Nat):Int),B (nl s).isSome]) h'):C rz [T s] h Q:=by
 refine N6 _ _ _ ?_
 unfold Nd
 refine bR (St.start h) rfl fun i h1 s1=>?_
 refine AW ?_
 refine wo xu _ (fun r=>decide (r.name=s)) tbl (by decide) (Fl h1) (fun x hx h2 Q f2 kq=>?_) fun h2 f2=>?_
 ·show ACall Pg sY _ _ _
  refine Iz _ _ _ _ ?_
  unfold H4
  have s2:=St.startr (f2.get (s1.get (.head _)) (by simp))
  refine bR s2 rfl fun j h3 s3=>?_
  (repeat (first|refine aj ?_|refine aU ?_|refine af ‹_› (by first|exact .head _|exact .tail _ (.head _)) rfl ?_))
  exact kq _ s3.fr
 ·(repeat (first|refine bL ?_|refine HH ?_))
  have e1:max (fR (fun r=>decide (r.name=s)) tbl) 0=(((nl s).getD 0:Nat):Int):=by
   unfold fR nl
   cases tbl.findIdx? fun r=>decide (r.name=s) with
   | none=>rfl
   | some i=>simp
  have e2:decide (0≤fR (fun r=>decide (r.name=s)) tbl)=(nl s).isSome:=by
   unfold fR nl
   cases tbl.findIdx? fun r=>decide (r.name=s) with
   | none=>rfl
   | some i=>simp
  rw[e1,e2]
  exact k _ ((s1.call f2).fr)
end
end Go.Proofs.YtgkmmcdhhkllnaaGreatDoor.AL
namespace Go.Proofs.YtgkmmcdhhkllnaaGreatDoor.AL
noncomputable section
variable [Tabs]
def cy:Prop:=∀ p∈kindsL,∀ (h:ae) (Q:QT),Q (.snap p.2.length (p.2.flatMap fun x=>[T x])) h→C eo [T p.1] h Q
def dN:Prop:=∀ b∈[8,15,19,24],∀ (h:ae) (Q:QT),Q (.lit (.float .f64 (FloatKind.f64.nearest (2^b:Nat)))) h→C sJ [.lit (.float .f64 4607182418800017408),I (b:Nat)] h Q
def cT (k:Str):List Str:=((kindsL.find? fun p=>decide (p.1=k)).map (·.2)).getD []
omit [Tabs] in
theorem Vu:∀ r∈tbl,(r.kinds,cT r.kinds)∈kindsL:=by decide
theorem Cp (hF:cy) {r:Rw}(hr:r∈tbl) {h:ae}{Q:QT}(k:Q (.snap (cT r.kinds).length ((cT r.kinds).flatMap fun x=>[T x])) h):C eo [T r.kinds] h Q:=hF _ (Vu r hr) h Q k
abbrev Fx (op:Nat):Str:=(tbl[op]?.map (·.name)).getD []
abbrev bp (op:Nat):Str:=(tbl[op]?.map (·.kinds)).getD []
abbrev LF (op:Nat):Nat:=(tbl[op]?.map (·.bits)).getD 0
theorem V9 (r:Rw) {h:ae}{Q:QT}(k:∀ h',Fr [] h h'→Q (T r.name) h'):C ni [.agg (F2 r)] h Q:=by
 refine Cs _ _ _ ?_
 unfold zO
 refine bR (St.start h) rfl fun i h1 s1=>?_
 (repeat (first|refine aj ?_|refine af ‹_› (.head _) rfl ?_))
 exact k _ s1.fr
theorem MX (r:Rw) {h:ae}{Q:QT}(k:∀ h',Fr [] h h'→Q (T r.kinds) h'):C kx [.agg (F2 r)] h Q:=by
 refine yQ _ _ _ ?_
 unfold tA
 refine bR (St.start h) rfl fun i h1 s1=>?_
 (repeat (first|refine aj ?_|refine af ‹_› (.head _) rfl ?_))
 exact k _ s1.fr
theorem ZE (r:Rw) {h:ae}{Q:QT}(k:∀ h',Fr [] h h'→Q (.lit (.int .u32 r.bits)) h'):C oe [.agg (F2 r)] h Q:=by
 refine IT _ _ _ ?_
 unfold FP
 refine bR (St.start h) rfl fun i h1 s1=>?_
 (repeat (first|refine aj ?_|refine af ‹_› (.head _) rfl ?_))
 exact k _ s1.fr
theorem aaq (hF:cy) {r:Rw}(hr:r∈tbl) {h:ae}{Q:QT}(k:∀ h',Fr [] h h'→Q (.snap (cT r.kinds).length ((cT r.kinds).flatMap fun x=>[T x])) h'):C lf [.agg (F2 r)] h Q:=by
 refine EI _ _ _ ?_
 unfold Ba
 refine bR (St.start h) rfl fun i h1 s1=>?_
 (repeat (first|refine aj ?_|refine af ‹_› (.head _) rfl ?_))
 refine Cp hF hr ?_
 exact k _ s1.fr
theorem Xh {op:Nat}(ho:op<tbl.length) (fv:AV) {h:ae}{Q:QT}(k:CV fv [.agg (F2 tbl[op])] h Q):C jT [I (op:Nat),fv] h Q:=by
 refine CK _ _ _ _ ?_
 unfold yW
 refine AW ?_
 (repeat (first|refine iy ?_|refine aJ ?_|refine bL ?_))
 refine ah (fun _=>?_) (fun hb=>(by exfalso;first|(simp at hb;done)|(simp at hb;omega)|(revert hb;decide)|omega))
 refine (Fl h).idx xu ho fun p t=>?_
 refine bk t rfl ?_
 exact k
theorem abm {op:Nat}(ho:op<tbl.length) (fv:AV) {h:ae}{Q:QT}(k:CV fv [.agg (F2 tbl[op])] h Q):C nH [I (op:Nat),fv] h Q:=by
 refine Ds _ _ _ _ ?_
 unfold y8
 refine AW ?_
 (repeat (first|refine iy ?_|refine aJ ?_|refine bL ?_))
 refine ah (fun _=>?_) (fun hb=>(by exfalso;first|(simp at hb;done)|(simp at hb;omega)|(revert hb;decide)|omega))
 refine (Fl h).idx xu ho fun p t=>?_
 refine bk t rfl ?_
 exact k
theorem abC {op:Nat}(ho:op<tbl.length) (fv:AV) {h:ae}{Q:QT}(k:CV fv [.agg (F2 tbl[op])] h Q):C mS [I (op:Nat),fv] h Q:=by
 refine BC _ _ _ _ ?_
 unfold wU
 refine AW ?_
 (repeat (first|refine iy ?_|refine aJ ?_|refine bL ?_))
 refine ah (fun _=>?_) (fun hb=>(by exfalso;first|(simp at hb;done)|(simp at hb;omega)|(revert hb;decide)|omega))
 refine (Fl h).idx xu ho fun p t=>?_
 refine bk t rfl ?_
 exact k
omit [Tabs] in
theorem CE {op:Nat}(ho:op<tbl.length):Fx op=tbl[op].name:=by simp[Fx,ho]
omit [Tabs] in
theorem jh {op:Nat}(ho:op<tbl.length):bp op=tbl[op].kinds:=by simp[bp,ho]
omit [Tabs] in
theorem UI {op:Nat}(ho:op<tbl.length):LF op=tbl[op].bits:=by simp[LF,ho]
theorem Si {op:Nat}(ho:op<tbl.length) {h:ae}{Q:QT}(k:∀ h',Fr [] h h'→Q (T (Fx op)) h'):C rG [I (op:Nat)] h Q:=by
 refine ND _ _ _ ?_
 unfold OZ
 refine Xh ho _ ?_
 rw[CE ho]at k
 exact V9 _ k
theorem M6 {op:Nat}(ho:op<tbl.length) {h:ae}{Q:QT}(k:∀ h',Fr [] h h'→Q (T (bp op)) h'):C pN [I (op:Nat)] h Q:=by
 refine LO _ _ _ ?_
 unfold Kc
 refine Xh ho _ ?_
 rw[jh ho]at k
 exact MX _ k
def mq (op:Nat):Nat:=if op<43 then 2 else 4
omit [Tabs] in
theorem SL:∀ r∈tbl,r.name≠[]:=by decide
theorem S3 {op:Nat}(ho:op<tbl.length) {h:ae}{Q:QT}(k:∀ h',Fr [] h h'→Q (I (mq op:Nat)) h'):C rE [I (op:Nat)] h Q:=by
 refine Ph _ _ _ ?_
 unfold O0
 refine Si ho fun h1 f1=>?_
 (repeat refine aU ?_)
 have hn:Fx op≠[]:=by rw[CE ho];exact SL _ (by simp)
 refine ah (fun hb=>absurd (by simpa using hb) hn) (fun _=>?_)
 (repeat refine aJ ?_)
 refine ah (fun hb=>?_) (fun hb=>?_)<;>simp only[za,zb,zc,zd,ze,zf,zg,zh,zi,u8i,zj,zk,zl]at hb
 ·have:=k h1 f1
  rw[mq,if_pos (by omega)]at this;exact this
 ·have:=k h1 f1
  rw[mq,if_neg (by omega)]at this;exact this
abbrev Eu (k:IntKind) (a b:Int):Int:=k.wrap ((BitVec.ofInt k.bits a &&& BitVec.ofInt k.bits b).toNat:Int)
abbrev orI (k:IntKind) (a b:Int):Int:=k.wrap ((BitVec.ofInt k.bits a ||| BitVec.ofInt k.bits b).toNat:Int)
abbrev Lw (k:IntKind) (a:Int) (n:Nat):Int:=k.wrap (a*2^(min n k.bits))
abbrev L6 (k:IntKind) (a:Int) (n:Nat):Int:=a.fdiv (2^(min n k.bits))
theorem NV (v:Int) {h:ae}{Q:QT}(k:Q (.tup [I (Eu .i64 (L6 .i64 v 16) 15),I (Eu .i64 (L6 .i64 v 11) 31),I (Eu .i64 v 2047)]) h):C uJ [I v] h Q:=by
 refine MG _ _ _ ?_
 unfold JC
 refine x6 (by omega) ?_
 refine pT ?_
 refine x6 (by omega) ?_
 refine pT ?_
 refine pT ?_
 exact k
def aaw (v:Int) (b:Nat):Int:=L6 .i64 (Lw .i64 v (64-b)) (64-b)
theorem aal (v:Int) (b:Nat) (h1:1≤b) (h2:b≤64) {h:ae}{Q:QT}(k:Q (I (aaw v b)) h):C xB [I v,I (b:Nat)] h Q:=by
 refine OV _ _ _ _ ?_
 unfold Pr
 refine HH ?_
 refine Q3 ?_
 have e:min (max (b:Int) 1) 64=(b:Int):=by omega
 rw[e]
 refine cH (by omega) ?_
 refine kr (by omega) ?_
 refine x6 (by omega) ?_
 have e2:((64:Int)-(b:Int)).toNat=64-b:=by omega
 rw[e2]
 exact k
def PM (f s ui v k:Int):Int:=orI .i64 (Lw .i64 v 8) (if k=s then Eu .i64 ui 255 else if f=1 then 255 else 0)
def JX (f s ui:Int):Int:=aaw (PM f s ui (PM f s ui (PM f s ui (PM f s ui 0 3) 2) 1) 0) 32
theorem uy (f s ui v:Int) (k:Int) (hk:0≤k) (hk2:k<10) (Q:QT) {h:ae}(next:NT) (q:next [I (PM f s ui v k),I (k-1)] h):rV (I f) (I s) (I ui) Q [I v,I k] h next:=by
 unfold rV
 refine bL ?_
 refine ah (fun _=>?_) (fun hb=>absurd hb (by simpa [ap] using hk))
 have fin:∀ b,b=(if k=s then Eu .i64 ui 255 else if f=1 then 255 else 0)→rR (I b) (I v) (I k) h next:=by
  intro b hb
  unfold rR
  refine kr (by omega) ?_
  refine vE ?_
  refine cH (by omega) ?_
  subst hb
  exact q
 have mid:∀ b,b=(if f=1 then (255:Int) else 0)→ro (I b) (I v) (I k) (I s) (I ui) h next:=by
  intro b hb
  unfold ro
  refine aA ?_
  refine ah (fun hc=>?_) (fun hc=>?_)<;>simp only[za,zb,zc,zd,ze,zf,zg,zh,zi,u8i,zj,zk,zl]at hc
  ·refine pT ?_
   exact fin _ (by rw[if_pos hc])
  ·exact fin _ (by rw[if_neg hc,hb])
 refine aA ?_
 refine ah (fun hc=>?_) (fun hc=>?_)<;>simp only[za,zb,zc,zd,ze,zf,zg,zh,zi,u8i,zj,zk,zl]at hc
 ·exact mid _ (by rw[if_pos hc])
 ·exact mid _ (by rw[if_neg hc])
theorem aao (f s ui:Int) {h:ae}{Q:QT}(k:Q (I (JX f s ui)) h):C xb [I f,I s,I ui] h Q:=by
 refine NL _ _ _ _ _ ?_
 unfold Ox
 refine A7 5 ?_
 refine rC (uy f s ui 0 3 (by omega) (by omega) _ _ (rM ?_))
 refine rC (uy f s ui _ 2 (by omega) (by omega) _ _ (rM ?_))
 refine rC (uy f s ui _ 1 (by omega) (by omega) _ _ (rM ?_))
 refine rC (uy f s ui _ 0 (by omega) (by omega) _ _ (rM ?_))
 refine rC ?_
 unfold rV
 refine bL ?_
 refine ah (fun hb=>absurd hb (by simp[ap])) (fun _=>?_)
 exact aal _ 32 (by omega) (by omega) k
theorem ab8 (f s ui:Int) {h:ae}{Q:QT}(k:∀ h',Fr [] h h'→Q (I (JX f s ui)) h'):C jw [.agg [I f,I s],I ui] h Q:=by
 refine G4 _ _ _ _ ?_
 unfold Ec
 refine bR (St.start h) rfl fun i h1 s1=>?_
 (repeat (first|refine aj ?_|refine af ‹_› (.head _) rfl ?_))
 exact aao f s ui (k _ s1.fr)
def FY (v f s:Int):Int:=fR (fun ui:Nat=>decide (JX f s ui=v)) (List.range 256)
theorem X4 (v f s:Int) {h:ae}{Q:QT}(k:∀ h',Fr [] h h'→Q (I (FY v f s)) h'):C vr [I v,.fn (.func jw) [.agg [I f,I s]] []] h Q:=by
 refine KQ _ _ _ _ ?_
 unfold Kk
 refine aP (fun n vs h'=>Fr [] h h'∧∃ i:Nat,∃ b,vs=[b,I (i:Nat)]∧n+i=256∧∀ j (hj:j<i),decide (JX f s j=v)=false) 256 ⟨Fr.refl _ _,0,_,rfl,by omega,fun j hj=>by omega⟩ ?_
 rintro n vs h' ⟨f1,i,b,rfl,hn,ha⟩
 unfold Ci
 (repeat refine aJ ?_)
 refine ah (fun hb=>?_) (fun hb=>?_)<;>simp only[za,zb,zc,zd,ze,zf,zg,zh,zi,u8i,zj,zk,zl]at hb
 ·have hi:i<256:=by omega
  show ACall Pg jw [.agg [I f,I s],I (i:Nat)] h' _
  refine ab8 f s i fun h2 f2=>?_
  refine aA ?_
  have hlen:i<(List.range 256).length:=by simpa using hi
  refine ah (fun hc=>?_) (fun hc=>?_)<;>simp only[za,zb,zc,zd,ze,zf,zg,zh,zi,u8i,zj,zk,zl]at hc
  ·have:=k h2 (f1.trans f2 (by simp))
   unfold FY at this
   rw[lx (p:=fun ui:Nat=>decide (JX f s ui=v)) hlen (by simpa using hc) fun j hj=>by simpa using ha j hj]at this
   exact this
  ·(repeat refine aH (by omega) ?_)
   refine⟨n-1,by omega,f1.trans f2 (by simp),i+1,_,rfl,by omega,fun j hj=>?_⟩
   rcases Nat.lt_or_eq_of_le (Nat.le_of_lt_succ hj) with h1|h1
   ·exact ha j h1
   ·subst h1;simpa using hc
 ·have:=k h' f1
  unfold FY at this
  rw[ia (p:=fun ui:Nat=>decide (JX f s ui=v)) fun j hj=>by simpa using ha j (by simp at hj;omega)]at this
  exact this
def formsL:List (Int×Int):=[(0,0),(0,1),(0,2),(0,3),(1,0),(1,1),(1,2),(1,3)]
def SG (x:Int×Int):List AV:=[I x.1,I x.2]
def SP (v:Int):List (Int×Int)→Option (Int×Int×Int)
 | []=>none
 | x::l=>if 0≤FY v x.1 x.2 then some (x.1,x.2,FY v x.1 x.2) else SP v l
abbrev aaj (v:Int):Option (Int×Int×Int):=SP v formsL
theorem YN {h:ae}{Q:QT}(k:Q (.full formsL.length (formsL.flatMap SG)) h):C vn [] h Q:=by
 refine K0 _ _ ?_
 unfold Kt
 (repeat (first|refine aD rfl ?_|refine aB rfl rfl ?_))
 exact k
def acw (o:Option (Int×Int×Int)):AV:=match o with
 | some (f,s,ui)=>.tup [I f,I s,I ui,B true]
 | none=>.tup [I 0,I 0,I 0,B false]
theorem Zq (v:Int) {h:ae}{Q:QT}(k:∀ h',Fr [] h h'→Q (acw (aaj v)) h'):C xr [I v] h Q:=by
 refine Oj _ _ _ ?_
 unfold OP
 refine YN ?_
 have R:∀ h,Row SG 2 h (.full formsL.length (formsL.flatMap SG)) formsL:=fun h=>Row.full (enc:=SG) (fun _=>rfl) formsL
 refine (R h).len ?_
 refine aP (fun n vs h'=>Fr [] h h'∧∃ (i:Nat) (a b c d:AV),vs=[a,b,c,d,I (i:Nat)]∧n+i=8∧aaj v=SP v (formsL.drop i)) 8 ⟨Fr.refl _ _,0,_,_,_,_,rfl,by omega,rfl⟩ ?_
 rintro n vs h' ⟨f1,i,a,b,c,d,rfl,hn,hs⟩
 unfold Ej
 (repeat refine aJ ?_)
 refine ah (fun hb=>?_) (fun hb=>?_)<;>simp only[za,zb,zc,zd,ze,zf,zg,zh,zi,u8i,zj,zk,zl]at hb
 ·have hi:i<formsL.length:=hb
  have e8:formsL.length=8:=rfl
  refine (R h').idx (fun _=>rfl) hi fun p t=>?_
  refine bk t rfl ?_
  have s:=(St.start h).call f1
  refine aQ s fun q h2 s2=>?_
  refine ay s2 .head rfl rfl rfl (by decide) fun h3 s3=>?_
  (repeat refine aK ‹_› (.head _) (nle rfl) ?_)
  refine X4 v formsL[i].1 formsL[i].2 fun h4 f4=>?_
  have s4:=s3.call f4
  rw[List.drop_eq_getElem_cons hi,SP]at hs
  (repeat refine bL ?_)
  refine ah (fun hc=>?_) (fun hc=>?_)<;>simp only[za,zb,zc,zd,ze,zf,zg,zh,zi,u8i,zj,zk,zl]at hc
  ·(repeat (first|refine aj ?_|refine af ‹_› (.head _) rfl ?_))
   rw[if_pos hc]at hs
   have:=k h4 s4.fr
   rw[hs]at this
   exact this
  ·(repeat refine aH (by omega) ?_)
   rw[if_neg (by omega)]at hs
   exact⟨n-1,by omega,s4.fr,i+1,_,_,_,_,rfl,by omega,hs⟩
 ·have:=k h' f1
  rw[hs,List.drop_of_length_le (by simp[ap]at hb;simpa using hb)]at this
  exact this
end
end Go.Proofs.YtgkmmcdhhkllnaaGreatDoor.AL
