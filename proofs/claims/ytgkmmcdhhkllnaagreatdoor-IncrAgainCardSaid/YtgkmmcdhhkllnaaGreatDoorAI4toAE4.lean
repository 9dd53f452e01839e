import Derived.Test.YtgkmmcdhhkllnaaGreatDoorAI3
import Derived.Laws.RangeString
import Derived.Laws.RangeAny
set_option linter.all false
set_option autoImplicit true
set_option relaxedAutoImplicit true
set_option maxRecDepth 100000
namespace Go.Proofs.YtgkmmcdhhkllnaaGreatDoor.AL
section
noncomputable section
variable [Tabs]
def yb:List Str→List Int→Int→Option Int
 | k::ks,v::vs,b=>match oY k v with
   | some n=>yb ks vs (orI .u32 b n)
   | none=>none
 | _,_,b=>some b
def nc (op:Nat) (vs:List Int):Option Int:=
 if (cT (bp op)).length=vs.length then yb (cT (bp op)) vs (LF op) else none
theorem OT {ks:List Str}{vs:List Int}{i:Nat}(h1:i<ks.length) (h2:i<vs.length) (b:Int):yb (ks.drop i) (vs.drop i) b=match oY ks[i] vs[i] with|some n=>yb (ks.drop (i+1)) (vs.drop (i+1)) (orI .u32 b n)|none=>none:=by
 rw[List.drop_eq_getElem_cons h1,List.drop_eq_getElem_cons h2,yb]
omit [Tabs] in
theorem CC:∀ r∈tbl,(cT r.kinds).length≤3:=by decide
theorem Tt (hF:cy) (hL:dN) {op:Nat}(ho:op<tbl.length) (vs:List Int) (hv:∀ v∈vs,dQ v) {fv:AV}{h:ae}(r:Row (fun v:Int=>[I v]) 1 h fv vs) {Q:QT}(q:PutK (nc op vs) h Q):C rK [.agg [I (op:Nat),fv]] h Q:=by
 refine Nu _ _ _ ?_
 unfold Oy
 have hfv:fv.isTup=false∧fv.cells=[fv]:=by
  have:=r.1;unfold zq at this;split at this<;>first|exact⟨rfl,rfl⟩|cases this
 refine bR (St.start h) rfl fun i h1 s1=>?_
 have e1:(AV.agg [I (op:Nat),fv]).cells=[I (op:Nat),fv]:=rfl
 rw[e1]at s1
 (repeat (first|refine aj ?_|refine af ‹_› (.head _) rfl ?_))
 refine Si ho fun h2 f2=>?_
 have s2:=s1.call f2
 (repeat refine aU ?_)
 have hn:Fx op≠[]:=by rw[CE ho];exact SL _ (by simp)
 refine ah (fun hb=>absurd (by simpa using hb) hn) (fun _=>?_)
 (repeat (first|refine aj ?_|refine af ‹_› (.head _) rfl ?_))
 refine abm ho _ ?_
 show ACall Pg oe _ _ _
 refine ZE _ fun h3 f3=>?_
 have s3:=s2.call f3
 refine⟨af s3 (.head _) rfl rfl,?_⟩
 refine abC ho _ ?_
 show ACall Pg lf _ _ _
 refine aaq hF (by simp) fun h4 f4=>?_
 have s4:=s3.call f4
 rw[← jh ho,← UI ho]
 have hk:∀ k∈cT (bp op),k∈Zh:=fun k hk=>X2 tbl[op] (by simp) k (by rw[← jh ho];exact hk)
 (repeat (first|refine aj ?_|refine dB ?_|refine af ‹_› (.head _) rfl ?_))
 refine (r.fr s4.fr).len ?_
 refine bT ?_
 refine ah (fun hl=>?_) (fun hl=>?_)<;>simp only[za,zb,zc,zd,ze,zf,zg,zh,zi,u8i,zj,zk,zl]at hl
 ·exact q.none s4.fr 0 (by unfold nc;rw[if_neg (by omega)])
 have hl:(cT (bp op)).length=vs.length:=by omega
 unfold nc at q
 rw[if_pos hl]at q
 have h3:(cT (bp op)).length≤3:=by rw[jh ho];exact CC _ (by simp)
 (repeat refine dB ?_)
 have RK:∀ h,Row (fun x=>[T x]) 1 h (.snap (cT (bp op)).length ((cT (bp op)).flatMap fun x=>[T x])) (cT (bp op)):=fun h=>Row.snap (enc:=fun x=>[T x]) (fun _=>rfl) _
 refine aP (fun n vs' h'=>St h [] h' [(i,true,.cells [I (op:Nat),fv])]∧∃ (j:Nat) (x y:AV) (b:Int),vs'=[x,y,U32 b,I (j:Nat)]∧n+j=vs.length∧yb (cT (bp op)) vs (LF op)=yb ((cT (bp op)).drop j) (vs.drop j) b) vs.length ⟨s4,0,_,_,_,rfl,by omega,rfl⟩ ?_
 rintro n vs' h5 ⟨s5,j,x,y,b,rfl,hn,hc⟩
 unfold DZ
 (repeat refine aJ ?_)
 refine ah (fun hb=>?_) (fun hb=>?_)<;>simp only[za,zb,zc,zd,ze,zf,zg,zh,zi,u8i,zj,zk,zl]at hb
 ·have hj:j<(cT (bp op)).length:=hb
  refine (RK h5).idx (fun _=>rfl) hj fun p t=>?_
  refine aI t ?_
  (repeat (first|refine aj ?_|refine af ‹_› (.head _) rfl ?_))
  refine (r.fr s5.fr).idx (fun _=>rfl) (show j<vs.length by omega) fun p2 t2=>?_
  refine aI t2 ?_
  rw[OT hj (by omega)]at hc
  refine abK hL (hk _ (by simp)) _ (hv _ (by simp)) fun b2 h6 f6 hb2=>?_
  have s6:=s5.call f6
  (repeat (first|refine aF rfl ?_|refine bP ?_))
  cases hp:oY (cT (bp op))[j] vs[j] with
  | none=>
    refine ah (fun _=>?_) (fun h=>by cases h)
    rw[hp]at hc
    exact q.none s6.fr 0 hc
  | some m=>
    refine ah (fun h=>by cases h) (fun _=>?_)
    rw[hp]at hc
    have:=hb2 m hp
    subst this
    refine vE ?_
    refine aH (by omega) ?_
    exact⟨n-1,by omega,s6,j+1,_,_,_,rfl,by omega,hc⟩
 ·have hj:vs.length≤j:=by omega
  rw[List.drop_of_length_le (by omega),List.drop_of_length_le (by omega)]at hc
  exact q.some s5.fr (by rw[hc];simp[yb])
theorem Pe (hF:cy) (hL:dN) {op:Nat}(ho:op<tbl.length) (vs:List Int) (hv:∀ v∈vs,dQ v) {fv:AV}{h:ae}(r:Row (fun v:Int=>[I v]) 1 h fv vs) {Q:QT}(k:∀ h',Fr [] h h'→Q (B (nc op vs).isSome) h'):C p9 [.agg [I (op:Nat),fv]] h Q:=by
 refine KI _ _ _ ?_
 unfold Jd
 refine bR (St.start h) rfl fun i h1 s1=>?_
 (repeat refine aK ‹_› (.head _) (nle rfl) ?_)
 refine Tt hF hL ho vs hv (r.fr s1.fr) fun b h2 f2 _=>?_
 (repeat refine aF rfl ?_)
 exact k _ (s1.call f2).fr
def WW (b:Int):List Int:=[IntKind.u8.wrap (L6 .u32 b 24),IntKind.u8.wrap (L6 .u32 b 16),IntKind.u8.wrap (L6 .u32 b 8),IntKind.u8.wrap b]
def IV (op:Nat) (vs:List Int):Option (List Int):=(nc op vs).map fun b=>(WW b).drop (4-mq op)
abbrev BI (n:Int):AV:=.lit (.int .u8 n)
theorem Ut (hF:cy) (hL:dN) {op:Nat}(ho:op<tbl.length) (vs:List Int) (hv:∀ v∈vs,dQ v) {bs:List Int}(he:IV op vs=some bs) {fv:AV}{h:ae}(r:Row (fun v:Int=>[I v]) 1 h fv vs) {Q:QT}(k:∀ h',Fr [] h h'→Q (.tup [.snap bs.length (bs.flatMap fun x=>[BI x]),B true]) h'):C sO [.agg [I (op:Nat),fv]] h Q:=by
 refine Ir _ _ _ ?_
 unfold Hm
 refine bR (St.start h) rfl fun i h1 s1=>?_
 (repeat refine aK ‹_› (.head _) (nle rfl) ?_)
 unfold IV at he
 cases hc:nc op vs with
 | none=>rw[hc]at he;cases he
 | some b0=>
 rw[hc]at he
 refine Tt hF hL ho vs hv (r.fr s1.fr) fun b h2 f2 hb=>?_
 have:=hb b0 hc
 subst this
 have s2:=s1.call f2
 rw[hc]
 (repeat (first|refine aF rfl ?_|refine bP ?_))
 refine ah (fun h=>by cases h) (fun _=>?_)
 refine x6 (by decide) ?_
 refine ef ?_
 refine x6 (by decide) ?_
 refine ef ?_
 refine x6 (by decide) ?_
 refine ef ?_
 refine ef ?_
 (repeat (first|refine aj ?_|refine af ‹_› (.head _) rfl ?_|refine aB rfl rfl ?_))
 refine S3 ho fun h3 f3=>?_
 have s3:=s2.call f3
 have hsz:mq op=2∨mq op=4:=by unfold mq;split<;>simp
 simp only[Option.map_some,Option.some.injEq]at he
 rcases hsz with e|e<;>rw[e]at he ⊢<;>subst he
 ·refine cH (by decide) ?_
  refine (⟨(⟨⟨by decide,by decide,by decide⟩,?_⟩:ij 1 (.full 4 _) (some (I 2)) none _)⟩:ir 1 (.full 4 _) (some (I 2)) none _)
  refine ti (n:=2) (cs:=[BI _,BI _]) (by decide) (Rd.snap rfl) fun h4 f4=>?_
  exact k _ (s3.call f4).fr
 ·refine cH (by decide) ?_
  refine (⟨(⟨⟨by decide,by decide,by decide⟩,?_⟩:ij 1 (.full 4 _) (some (I 0)) none _)⟩:ir 1 (.full 4 _) (some (I 0)) none _)
  refine ti (n:=4) (cs:=[BI _,BI _,BI _,BI _]) (by decide) (Rd.snap rfl) fun h4 f4=>?_
  exact k _ (s3.call f4).fr
end
end
section
noncomputable section
variable [Tabs]
abbrev R32 (n:Nat):AV:=.lit (.int .i32 (n:Nat))
def abV (fv:AV) (p:Nat→Bool):Prop:=∀ (c:Nat) (h:ae) (Q:QT),Q (B (p c)) h→CV fv [R32 c] h Q
theorem Ts {h0 h:ae}{M:List Nat}{L:Own}{l:Str}{i k:Nat}(s:St h0 M h ((i,true,.siter ⟨⟨l⟩⟩ k)::L)) {K:QT}(k0:l.length≤k→K (.tup [B false]) h)
  (k1:∀ (hk:k<l.length) (r w:Nat) (h':ae),St h0 M h' ((i,true,.siter ⟨⟨l⟩⟩ (k+w))::L)→1≤w→(l[k].toNat<128→r=l[k].toNat∧w=1)→(128≤l[k].toNat→128≤r)→K (.tup [B true,I (k:Nat),R32 r]) h'):AN (.ptr i 0) h K:=⟨by
 simp only[vm,s.get (.head _)]
 have hsz:(⟨⟨l⟩⟩:ByteArray).size=l.length:=rfl
 split
 ·rename_i hk
  have hk':k<l.length:=hk
  have hget:((⟨⟨l⟩⟩:ByteArray)[k]'hk)=l[k]:=rfl
  rcases Nat.lt_or_ge l[k].toNat 128 with ha|ha
  ·have:=decode_ascii ⟨⟨l⟩⟩ k hk (by rw[hget];exact ha)
   rw[this,hget]
   exact k1 hk' _ 1 _ (s.turn .head) (Nat.le_refl _) (fun _=>⟨rfl,rfl⟩) (fun h=>by omega)
  ·obtain⟨g1,g2⟩:=decode_high ⟨⟨l⟩⟩ k hk (by rw[hget];exact ha)
   exact k1 hk' _ _ _ (s.turn .head) g2 (fun h=>by omega) (fun _=>g1)
 ·exact k0 (by omega)⟩
theorem takeWhile_self {p:UInt8→Bool}:∀ {l:Str},l.takeWhile p=l↔∀ x∈l,p x=true
 | []=>by simp
 | a::l=>by
   cases h:p a with
   | true=>rw[List.takeWhile_cons_of_pos h];simp[h,takeWhile_self (l:=l)]
   | false=>rw[List.takeWhile_cons_of_neg (by simp[h])];simp[h]
theorem zt {p:UInt8→Bool}{l:Str}(h:∀ j (hj:j<l.length),p l[j]=true):l.takeWhile p=l:=by
 rw[takeWhile_self]
 intro x hx
 obtain⟨j,hj,rfl⟩:=List.getElem_of_mem hx
 exact h j hj
theorem tk {p:UInt8→Bool}{l:Str}{k:Nat}(hk:k<l.length) (h:∀ j (hj:j<k),p (l[j]'(by omega))=true) (hn:p l[k]=false):l.takeWhile p=l.take k:=by
 conv=>lhs;rw[← List.take_append_drop k l]
 rw[List.takeWhile_append_of_pos,List.drop_eq_getElem_cons hk,List.takeWhile_cons_of_neg (by simp[hn]),List.append_nil]
 intro x hx
 obtain⟨j,hj,rfl⟩:=List.getElem_of_mem hx
 rw[List.length_take]at hj
 rw[List.getElem_take]
 exact h j (by omega)
theorem XY {fv:AV}{p:Nat→Bool}(ht:abV fv p) (hp:∀ c,128≤c→p c=false) (l:Str) {h:ae}{Q:QT}(k:∀ h',Fr [] h h'→Q (T (l.takeWhile fun c=>p c.toNat)) h'):C cN [T l,fv] h Q:=by
 refine QQ _ _ _ _ ?_
 unfold SC
 refine Jr (St.start h) fun i h1 s1=>?_
 refine aP (fun n vs h'=>∃ k:Nat,(∃ x,vs=[x])∧n+k=l.length∧St h [] h' [(i,true,.siter ⟨⟨l⟩⟩ k)]∧∀ j (hj:j<l.length),j<k→p l[j].toNat=true) l.length ⟨0,⟨_,rfl⟩,by omega,s1,fun j _ hj=>by omega⟩ ?_
 rintro n vs h' ⟨m,⟨x,rfl⟩,hn,s2,ha⟩
 unfold HY
 refine Ts s2 (fun hk=>?_) fun hk r w h3 s3 hw h7 h8=>?_
 ·(repeat refine aF rfl ?_)
  have:=k h' s2.fr
  rw[zt fun j hj=>ha j hj (by omega)]at this
  exact this
 ·(repeat refine aF rfl ?_)
  refine ht r _ _ ?_
  (repeat refine bP ?_)
  rcases Nat.lt_or_ge l[m].toNat 128 with h9|h9
  ·obtain⟨rfl,rfl⟩:=h7 h9
   cases hpm:p l[m].toNat with
   | true=>
     refine ah (fun h=>by cases h) (fun _=>?_)
     refine⟨n-1,by omega,m+1,⟨_,rfl⟩,by omega,s3,fun j hj hj2=>?_⟩
     rcases Nat.lt_or_eq_of_le (Nat.le_of_lt_succ hj2) with h1|h1
     ·exact ha j hj h1
     ·subst h1;exact hpm
   | false=>
     refine ah (fun _=>?_) (fun h=>by cases h)
     refine pI (by omega) (by omega) ?_
     have:=k h3 s3.fr
     rw[tk hk (fun j hj=>ha j (by omega) hj) hpm]at this
     simpa using this
  ·rw[hp r (h8 h9)]
   refine ah (fun _=>?_) (fun h=>by cases h)
   refine pI (by omega) (by omega) ?_
   have:=k h3 s3.fr
   rw[tk hk (fun j hj=>ha j (by omega) hj) (hp _ h9)]at this
   simpa using this
def wu (c:Nat):Bool:=(decide (97≤c)&&decide (c≤122))||decide (c=95)
def bt (c:Nat):Bool:=decide (48≤c)&&decide (c≤57)
def dl (c:Nat):Bool:=wu c||bt c
def vX (c:Nat):Bool:=bt c||(decide (97≤c)&&decide (c≤102))
theorem vN {a b:Nat}:decide ((a:Int)≤(b:Int))=decide (a≤b):=by rw[Bool.eq_iff_iff,decide_eq_true_eq,decide_eq_true_eq];omega
theorem abq {a b:Nat}:decide ((a:Int)=(b:Int))=decide (a=b):=by rw[Bool.eq_iff_iff,decide_eq_true_eq,decide_eq_true_eq];omega
theorem VT (c:Nat) {h:ae}{Q:QT}(k:Q (B (wu c)) h):C sG [R32 c] h Q:=by
 refine IJ _ _ _ ?_
 unfold H8
 have e1:decide ((97:Int)≤c)=decide (97≤c):=vN (a:=97)
 have e2:decide ((c:Int)≤122)=decide (c≤122):=vN (b:=122)
 have e3:decide ((c:Int)=95)=decide (c=95):=abq (b:=95)
 unfold wu at k
 refine bL ?_
 rw[e1]
 cases h1:decide (97≤c) with
 | true=>
   refine ah (fun _=>?_) (fun h=>by cases h)
   rw[h1,Bool.true_and]at k
   refine eT ?_
   rw[e2]
   cases h2:decide (c≤122) with
   | true=>
     refine ah (fun _=>?_) (fun h=>by cases h)
     rw[h2,Bool.true_or]at k;exact k
   | false=>
     refine ah (fun h=>by cases h) (fun _=>?_)
     refine aA ?_
     rw[e3];rw[h2,Bool.false_or]at k;exact k
 | false=>
   refine ah (fun h=>by cases h) (fun _=>?_)
   refine aA ?_
   rw[e3];rw[h1,Bool.false_and,Bool.false_or]at k;exact k
theorem Cj (c:Nat) {h:ae}{Q:QT}(k:Q (B (bt c)) h):C cW [R32 c] h Q:=by
 refine IY _ _ _ ?_
 unfold G8
 have e1:decide ((48:Int)≤c)=decide (48≤c):=vN (a:=48)
 have e2:decide ((c:Int)≤57)=decide (c≤57):=vN (b:=57)
 unfold bt at k
 refine bL ?_
 rw[e1]
 cases h1:decide (48≤c) with
 | true=>
   refine ah (fun _=>?_) (fun h=>by cases h)
   refine eT ?_
   rw[h1,Bool.true_and]at k
   rw[e2];exact k
 | false=>
   refine ah (fun h=>by cases h) (fun _=>?_)
   rw[h1,Bool.false_and]at k;exact k
theorem Xa (c:Nat) {h:ae}{Q:QT}(k:Q (B (dl c)) h):C d4 [R32 c] h Q:=by
 refine Il _ _ _ ?_
 unfold HW
 refine VT c ?_
 unfold dl at k
 cases h1:wu c with
 | true=>
   refine ah (fun _=>?_) (fun h=>by cases h)
   rw[h1,Bool.true_or]at k;exact k
 | false=>
   refine ah (fun h=>by cases h) (fun _=>?_)
   rw[h1,Bool.false_or]at k
   exact Cj c k
theorem abA (c:Nat) {h:ae}{Q:QT}(k:Q (B (vX c)) h):C lB [R32 c] h Q:=by
 refine Nw _ _ _ ?_
 unfold Np
 refine Cj c ?_
 unfold vX at k
 have e1:decide ((97:Int)≤c)=decide (97≤c):=vN (a:=97)
 have e2:decide ((c:Int)≤102)=decide (c≤102):=vN (b:=102)
 cases h1:bt c with
 | true=>
   refine ah (fun _=>?_) (fun h=>by cases h)
   rw[h1,Bool.true_or]at k;exact k
 | false=>
   refine ah (fun h=>by cases h) (fun _=>?_)
   rw[h1,Bool.false_or]at k
   refine bL ?_
   rw[e1]
   cases h2:decide (97≤c) with
   | true=>
     refine sL (ah (fun _=>?_) (fun h=>by cases h)) ⟨_,rfl⟩
     rw[h2,Bool.true_and]at k
     refine eT ?_
     rw[e2];exact k
   | false=>
     refine sL (ah (fun h=>by cases h) (fun _=>?_)) ⟨_,rfl⟩
     rw[h2,Bool.false_and]at k;exact k
theorem uF (l:Str) {h:ae}{Q:QT}(k:∀ h',Fr [] h h'→Q (T (l.takeWhile fun c=>dl c.toNat)) h'):C cN [T l,.fn (.func d4) [] []] h Q:=
 XY (fv:=.fn (.func d4) [] []) (p:=dl) (fun c h Q k=>Xa c k) (fun c hc=>by simp[dl,wu,bt];omega) l k
theorem F3 (l:Str) {h:ae}{Q:QT}(k:∀ h',Fr [] h h'→Q (T (l.takeWhile fun c=>bt c.toNat)) h'):C cN [T l,.fn (.func cW) [] []] h Q:=
 XY (fv:=.fn (.func cW) [] []) (p:=bt) (fun c h Q k=>Cj c k) (fun c hc=>by simp[bt];omega) l k
theorem Ou (l:Str) {h:ae}{Q:QT}(k:∀ h',Fr [] h h'→Q (T (l.takeWhile fun c=>vX c.toNat)) h'):C cN [T l,.fn (.func lB) [] []] h Q:=
 XY (fv:=.fn (.func lB) [] []) (p:=vX) (fun c h Q k=>abA c k) (fun c hc=>by simp[vX,bt];omega) l k
def jv (s:Str):Bool:=match s with
 | []=>false
 | c::t=>decide (s.length≤12)&&(!bt c.toNat&&(s.all (fun c=>dl c.toNat)&&(decide (c≠114)||(t.isEmpty||!(t.all fun c=>bt c.toNat)))))
theorem tH (p:UInt8→Bool) (l:Str):decide (l.takeWhile p=l)=l.all p:=by
 rw[Bool.eq_iff_iff];simp[takeWhile_self]
theorem Zz (s:Str) {h:ae}{Q:QT}(k:∀ h',Fr [] h h'→Q (B (jv s)) h'):C l9 [T s] h Q:=by
 refine MI _ _ _ ?_
 unfold JO
 cases s with
 | nil=>(repeat refine aU ?_);exact k _ (Fr.refl _ _)
 | cons c t=>
 dsimp only[jv]at k
 (repeat (first|refine be ?_|refine bU ?_|refine aU ?_))
 refine ah (fun hl=>?_) (fun hl=>?_)<;>simp only[za,zb,zc,zd,ze,zf,zg,zh,zi,u8i,zj,zk,zl]at hl
 ·have e:decide ((c::t).length≤12)=false:=by simp at hl ⊢;omega
  rw[e,Bool.false_and]at k
  exact k _ (Fr.refl _ _)
 have e:decide ((c::t).length≤12)=true:=by simp at hl ⊢;omega
 rw[e,Bool.true_and]at k
 refine gB (by omega) (by simp) ?_
 refine ef ?_
 have e3:IntKind.i32.wrap ((c::t)[Int.toNat 0].toNat:Int)=(c.toNat:Nat):=by
  have:=c.toNat_lt
  simp[IntKind.wrap,IntKind.bits,IntKind.signed];omega
 rw[e3]
 refine Cj c.toNat ?_
 cases h2:bt c.toNat with
 | true=>
   refine ah (fun _=>?_) (fun h=>by cases h)
   rw[h2]at k
   exact k _ (Fr.refl _ _)
 | false=>
 refine ah (fun h=>by cases h) (fun _=>?_)
 rw[h2]at k
 simp only[Bool.not_false,Bool.true_and]at k
 refine uF _ fun h1 f1=>?_
 refine qq ?_
 rw[show decide ((c::t).takeWhile (fun c=>dl c.toNat)≠c::t)=!((c::t).all fun c=>dl c.toNat) by rw[← tH];simp]
 cases h3:(c::t).all fun c=>dl c.toNat with
 | false=>
   refine ah (fun _=>?_) (fun h=>by cases h)
   rw[h3,Bool.false_and]at k
   exact k _ f1
 | true=>
 refine ah (fun h=>by cases h) (fun _=>?_)
 rw[h3,Bool.true_and]at k
 refine gB (by omega) (by simp) ?_
 refine bT ?_
 have e4:decide ((((c::t)[Int.toNat 0].toNat:Nat):Int)≠114)=decide (c≠114):=by
  rw[Bool.eq_iff_iff];simp[← UInt8.toNat_inj];omega
 rw[e4]
 cases h4:decide (c≠114) with
 | true=>
   refine ah (fun _=>?_) (fun h=>by cases h)
   rw[h4,Bool.true_or]at k
   exact k _ f1
 | false=>
 refine ah (fun h=>by cases h) (fun _=>?_)
 rw[h4,Bool.false_or]at k
 (repeat (first|refine be ?_|refine aA ?_))
 cases t with
 | nil=>refine ah (fun _=>?_) (fun hb=>(by exfalso;first|(simp at hb;done)|(simp at hb;omega)|(revert hb;decide)|omega));exact k _ f1
 | cons d t=>
 refine ah (fun h=>by simp at h;omega) (fun _=>?_)
 refine ii (by omega) (by simp;omega) ?_
 refine ii (by omega) (by simp;omega) ?_
 refine F3 _ fun h5 f5=>?_
 refine qq ?_
 have:=k h5 (f1.trans f5 (by simp))
 rw[show ((c::d::t).drop (Int.toNat 1))=d::t from rfl]
 rw[show decide ((d::t).takeWhile (fun c=>bt c.toNat)≠d::t)=!((d::t).all fun c=>bt c.toNat) by rw[← tH];simp]
 exact this
end
end
section
noncomputable section
variable [Tabs]
inductive Ex where
 | none
 | num (n:Nat)
 | name (s:Str)
 | here
 | neg (e:Ex)
 | bin (k:Nat) (a b:Ex)
 deriving DecidableEq
def bq:Ex→List AV
 | .none=>[I 0,I 0,T [],.full 0 []]
 | .num n=>[I 1,I (n:Nat),T [],.full 0 []]
 | .name s=>[I 2,I 0,T s,.full 0 []]
 | .here=>[I 3,I 0,T [],.full 0 []]
 | .neg e=>[I 4,I 0,T [],.full 1 (bq e)]
 | .bin k a b=>[I (k:Nat),I 0,T [],.full 2 (bq a++bq b)]
theorem aq (e:Ex):(bq e).length=4:=by cases e<;>rfl
theorem aV (e:Ex):(bq e).all AV.one=true:=by cases e<;>rfl
abbrev pO (l:Str) (d:Nat) (b:Bool):AObj:=.cells [T l,I (d:Nat),B b]
abbrev blk (l:Str):Str:=iC 32 l
theorem nz (c:UInt8):∀ l:Str,iC c (iC c l)=iC c l
 | []=>rfl
 | x::l=>by
   by_cases h:x=c
   ·rw[iC,if_pos h];exact nz c l
   ·rw[iC,if_neg h,iC,if_neg h]
theorem nF (c:UInt8):∀ l:Str,(iC c l).length≤l.length
 | []=>by simp[iC]
 | x::l=>by
   have:=nF c l
   unfold iC;split<;>simp<;>omega
section
variable {i d:Nat}{l:Str}{h:ae}{Q:QT}
theorem uD {b:Bool}(e:h[i]?=some (pO l d b)) (k:∀ h',Fr [i] h h'→h'[i]?=some (pO l d true)→Q (.agg (bq .none)) h'):C bW [.ptr i 0] h Q:=by
 refine yT _ _ _ ?_
 unfold uf
 have s:=St.start1 e
 refine aQ s fun j h1 s1=>?_
 (repeat (first|refine au ?_|refine aj ?_))
 refine ay s1 (.tail .head) rfl rfl rfl (nle rfl) fun h2 s2=>?_
 (repeat refine aD rfl ?_)
 refine ay s2 .head rfl rfl rfl (nle rfl) fun h3 s3=>?_
 (repeat refine aK ‹_› (.head _) (nle rfl) ?_)
 exact k _ s3.fr (s3.get (.tail _ (.head _)))
theorem yj {b:Bool}(e:h[i]?=some (pO l d b)) (k:∀ h',Fr [i] h h'→h'[i]?=some (pO (blk l) d b)→Q (.tup []) h'):C fm [.ptr i 0] h Q:=by
 refine vY _ _ _ ?_
 unfold qr
 have s:=St.start1 e
 (repeat (first|refine au ?_|refine aj ?_|refine af ‹_› (.head _) rfl ?_))
 refine ME 32 (by decide) l ?_
 (repeat (first|refine au ?_|refine aj ?_))
 refine ay s .head rfl rfl rfl (nle rfl) fun h2 s2=>?_
 exact k _ s2.fr (s2.get (.head _))
theorem Bq {m:Str}(e:h[i]?=some (pO l d false)) (k1:m.isPrefixOf (blk l)=true→∀ h',Fr [i] h h'→h'[i]?=some (pO ((blk l).drop m.length) d false)→Q (B true) h')
  (k0:m.isPrefixOf (blk l)=false→∀ h',Fr [i] h h'→h'[i]?=some (pO (blk l) d false)→Q (B false) h'):C cp [.ptr i 0,T m] h Q:=by
 refine pk _ _ _ _ ?_
 unfold nD
 refine yj e fun h1 f1 e1=>?_
 have s:=(St.start1 e).call1 f1 e1 .head
 (repeat (first|refine au ?_|refine aj ?_|refine af ‹_› (.head _) rfl ?_))
 refine B8 ?_
 (repeat refine bP ?_)
 cases hp:m.isPrefixOf (blk l) with
 | true=>
   refine ah (fun h=>by cases h) (fun _=>?_)
   have hle:=(List.isPrefixOf_iff_prefix.1 hp).length_le
   (repeat (first|refine au ?_|refine aj ?_|refine be ?_|refine af ‹_› (.head _) rfl ?_))
   refine ii (by omega) (by omega) ?_
   (repeat (first|refine au ?_|refine aj ?_))
   refine ay s .head rfl rfl rfl (nle rfl) fun h2 s2=>?_
   exact k1 hp _ s2.fr (s2.get (.head _))
 | false=>
   refine ah (fun _=>?_) (fun h=>by cases h)
   exact k0 hp _ s.fr (s.get (.head _))
theorem GU {m:Str}(e:h[i]?=some (pO l d true)) (k0:∀ h',Fr [i] h h'→h'[i]?=some (pO (blk l) d true)→Q (B false) h'):C cp [.ptr i 0,T m] h Q:=by
 refine pk _ _ _ _ ?_
 unfold nD
 refine yj e fun h1 f1 e1=>?_
 have s:=(St.start1 e).call1 f1 e1 .head
 (repeat (first|refine au ?_|refine aj ?_|refine af ‹_› (.head _) rfl ?_))
 exact k0 _ s.fr (s.get (.head _))
def signsL:List Str:=[[],[],[],[46],[45],[43],[45],[42],[38],[124],[60,60],[62,62]]
abbrev sg (k:Nat):Str:=(signsL[k]?).getD []
def levelsL:List (List Nat):=[[9],[8],[10,11],[5,6],[7]]
def QE (ks:List Nat):List AV:=[.full ks.length (ks.flatMap fun k=>[I (k:Nat)])]
theorem O4 (k:Q (.full signsL.length (signsL.flatMap fun x=>[T x])) h):C sH [] h Q:=by
 refine Ik _ _ ?_
 unfold Gc
 (repeat refine aB rfl rfl ?_)
 exact k
theorem qg (k:Q (.full levelsL.length (levelsL.flatMap QE)) h):C jg [] h Q:=by
 refine H9 _ _ ?_
 unfold Eh
 (repeat refine aB rfl rfl ?_)
 exact k
def dA:List Nat→Str→Nat×Str
 | [],l=>(0,l)
 | k::ks,l=>if (sg k).isPrefixOf (blk l)=true then (k,(blk l).drop (sg k).length) else dA ks (blk l)
theorem Tw (ks:List Nat) (hk:∀ k∈ks,k<12) (hl:ks.length<1000) {v:AV}(r:Row (fun k:Nat=>[I (k:Nat)]) 1 h v ks) (e:h[i]?=some (pO l d false)) (hi:i<h.length)
  (hr:∀ h',Fr [i] h h'→Row (fun k:Nat=>[I (k:Nat)]) 1 h' v ks) (k:∀ h',Fr [i] h h'→h'[i]?=some (pO (dA ks l).2 d false)→Q (I ((dA ks l).1:Nat)) h'):C eH [.ptr i 0,v] h Q:=by
 refine pj _ _ _ _ ?_
 unfold ny
 refine r.len ?_
 refine aP (fun n vs h'=>∃ (j:Nat) (b:AV) (l':Str),vs=[b,I (j:Nat)]∧n+j=ks.length∧Fr [i] h h'∧h'[i]?=some (pO l' d false)∧dA (ks.drop j) l'=dA ks l) ks.length ⟨0,_,l,rfl,by omega,Fr.refl _ _,e,rfl⟩ ?_
 rintro n vs h' ⟨j,b,l',rfl,hn,f1,e1,hm⟩
 unfold kw
 (repeat refine aJ ?_)
 refine ah (fun hb=>?_) (fun hb=>?_)<;>simp only[za,zb,zc,zd,ze,zf,zg,zh,zi,u8i,zj,zk,zl]at hb
 ·have hj:j<ks.length:=hb
  refine (hr h' f1).idx (fun _=>rfl) hj fun p t=>?_
  refine aI t ?_
  refine O4 ?_
  have hk12:ks[j]<signsL.length:=hk _ (by simp)
  refine (Row.full (h:=h') (enc:=fun x:Str=>[T x]) (fun _=>rfl) signsL).idx (fun _=>rfl) hk12 fun p t=>?_
  refine aI t ?_
  have hsg:signsL[ks[j]]=sg ks[j]:=by simp[sg,hk12]
  rw[List.drop_eq_getElem_cons hj,dA]at hm
  refine Bq e1 (fun hp h2 f2 e2=>?_) (fun hp h2 f2 e2=>?_)
  ·refine ah (fun _=>?_) (fun h=>by cases h)
   rw[hsg]at hp e2
   rw[if_pos hp]at hm
   have:=k h2 (f1.trans f2 (by simp)) (by rw[← hm];exact e2)
   rw[← hm]at this;exact this
  ·refine ah (fun h=>by cases h) (fun _=>?_)
   rw[hsg]at hp
   rw[if_neg (by simp[hp])]at hm
   (repeat refine aH (by omega) ?_)
   exact⟨n-1,by omega,j+1,_,_,rfl,by omega,f1.trans f2 (by simp),e2,hm⟩
 ·rw[List.drop_of_length_le (by omega)]at hm
  have:=k h' f1 (by rw[← hm];exact e1)
  rw[← hm]at this;exact this
theorem Hj (ks:List Nat) (hk:∀ k∈ks,k<12) (hl:ks.length<1000) {v:AV}(r:Row (fun k:Nat=>[I (k:Nat)]) 1 h v ks) (e:h[i]?=some (pO l d true))
  (hr:∀ h',Fr [i] h h'→Row (fun k:Nat=>[I (k:Nat)]) 1 h' v ks) (k:∀ l' h',Fr [i] h h'→h'[i]?=some (pO l' d true)→Q (I 0) h'):C eH [.ptr i 0,v] h Q:=by
 refine pj _ _ _ _ ?_
 unfold ny
 refine r.len ?_
 refine aP (fun n vs h'=>∃ (j:Nat) (b:AV) (l':Str),vs=[b,I (j:Nat)]∧n+j=ks.length∧Fr [i] h h'∧h'[i]?=some (pO l' d true)) ks.length ⟨0,_,l,rfl,by omega,Fr.refl _ _,e⟩ ?_
 rintro n vs h' ⟨j,b,l',rfl,hn,f1,e1⟩
 unfold kw
 (repeat refine aJ ?_)
 refine ah (fun hb=>?_) (fun hb=>?_)<;>simp only[za,zb,zc,zd,ze,zf,zg,zh,zi,u8i,zj,zk,zl]at hb
 ·have hj:j<ks.length:=hb
  refine (hr h' f1).idx (fun _=>rfl) hj fun p t=>?_
  refine aI t ?_
  refine O4 ?_
  have hk12:ks[j]<signsL.length:=hk _ (by simp)
  refine (Row.full (h:=h') (enc:=fun x:Str=>[T x]) (fun _=>rfl) signsL).idx (fun _=>rfl) hk12 fun p t=>?_
  refine aI t ?_
  refine GU e1 (fun h2 f2 e2=>?_)
  refine ah (fun h=>by cases h) (fun _=>?_)
  (repeat refine aH (by omega) ?_)
  exact⟨n-1,by omega,j+1,_,_,rfl,by omega,f1.trans f2 (by simp),e2⟩
 ·exact k _ h' f1 e1
end
structure PRes (i D:Nat) (m:Option (Ex×Str)) (h:ae) (Q:QT):Prop where
 good:∀ x l' h',m=some (x,l')→Fr [i] h h'→h'[i]?=some (pO l' D false)→Q (.agg (bq x)) h'
 bad:∀ cs l' h',m=none→Fr [i] h h'→h'[i]?=some (pO l' D true)→cs.length=4→cs.all AV.one=true→Q (.agg cs) h'
theorem PRes.fr {i D:Nat}{m:Option (Ex×Str)}{h h1:ae}{Q:QT}(r:PRes i D m h Q) (f:Fr [i] h h1):PRes i D m h1 Q:=
 ⟨fun x l' h' e f'=>r.good x l' h' e (f.trans f' (by simp)),fun cs l' h' e f'=>r.bad cs l' h' e (f.trans f' (by simp))⟩
abbrev PF:=Str→Option (Ex×Str)
def jb (f:PF):Prop:=∀ l x l',f l=some (x,l')→l'.length≤l.length
def oU (c:UInt8):Nat:=if 97≤c.toNat then c.toNat-97+10 else c.toNat-48
def qA (base:Nat):Str→Nat→Option Nat
 | [],n=>some n
 | c::cs,n=>if 4294967296≤n*base+oU c then none else qA base cs (n*base+oU c)
def eO (sub:PF) (ks:List Nat):Nat→Ex→Str→Option (Ex×Str)
 | 0,x,l=>if (dA ks l).1=0 then some (x,(dA ks l).2) else none
 | n+1,x,l=>if (dA ks l).1=0 then some (x,(dA ks l).2) else match sub (dA ks l).2 with
   | none=>none
   | some (y,l2)=>eO sub ks n (.bin (dA ks l).1 x y) l2
def gD (one:PF):Nat→PF
 | 0=>one
 | r+1=>fun l=>match gD one r l with
   | none=>none
   | some (x,l1)=>eO (gD one r) ((levelsL[4-r]?).getD []) l1.length x l1
def gS (two:PF):PF:=fun l=>match two l with
 | none=>none
 | some (x,l1)=>if ([41]:Str).isPrefixOf (blk l1)=true then some (x,(blk l1).drop 1) else none
def eJ (one:PF):PF:=fun l=>match one l with
 | none=>none
 | some (x,l1)=>some (.neg x,l1)
def gc (l:Str):Str:=l.takeWhile fun c=>dl c.toNat
def H0 (l:Str):Str:=l.takeWhile fun c=>bt c.toNat
def OC (l:Str):Str:=l.takeWhile fun c=>vX c.toNat
def eV (base:Nat) (l ds:Str):Option (Ex×Str):=match qA base ds 0 with
 | none=>none
 | some n=>if gc (l.drop ds.length)=[] then some (.num n,l.drop ds.length) else none
def GN:PF:=fun l=>
 if H0 l≠[] then eV 10 l (H0 l)
 else if jv (gc l)=true then some (.name (gc l),l.drop (gc l).length) else none
def Bu:PF:=fun l=>
 if ([48,120]:Str).isPrefixOf l=true then (if OC (l.drop 2)≠[] then eV 16 (l.drop 2) (OC (l.drop 2)) else GN l) else GN l
def ra (group minus:PF):PF:=fun l=>
 if ([40]:Str).isPrefixOf (blk l)=true then group ((blk l).drop 1)
 else if ([45]:Str).isPrefixOf (blk l)=true then minus ((blk l).drop 1)
 else if ([46]:Str).isPrefixOf (blk l)=true then some (.here,(blk l).drop 1)
 else Bu (blk l)
def Br:Nat→PF
 | 0=>ra (fun _=>none) fun _=>none
 | d+1=>ra (gS (gD (Br d) 5)) (eJ (Br d))
def gI (l:Str):Option Ex:=match gD (Br 12) 5 l with
 | none=>none
 | some (x,l')=>if blk l'=[] then some x else none
theorem qh (ks:List Nat) (hk:∀ k∈ks,(sg k)≠[]):∀ l:Str,(dA ks l).2.length≤l.length∧((dA ks l).1≠0→(dA ks l).2.length<l.length):=by
 induction ks with
 | nil=>intro l;simp[dA]
 | cons k ks ih=>
   intro l
   unfold dA
   have hb:(blk l).length≤l.length:=nF 32 l
   split
   ·rename_i hp
    have hle:=(List.isPrefixOf_iff_prefix.1 hp).length_le
    have:0<(sg k).length:=List.length_pos_iff.2 (hk k (by simp))
    simp only[List.length_drop]
    exact⟨by omega,fun _=>by omega⟩
   ·obtain⟨h1,h2⟩:=ih (fun k hk'=>hk k (by simp[hk'])) (blk l)
    exact⟨by omega,fun h=>by have:=h2 h;omega⟩
theorem D2 {sub:PF}(hs:jb sub) (ks:List Nat) (hk:∀ k∈ks,(sg k)≠[]):∀ n x,jb (eO sub ks n x)
 | 0,x,l,y,l',e=>by
   have:=(qh ks hk l).1
   unfold eO at e
   split at e
   ·cases e;exact this
   ·cases e
 | n+1,x,l,y,l',e=>by
   have:=(qh ks hk l).1
   unfold eO at e
   split at e
   ·cases e;exact this
   ·split at e
    ·cases e
    ·rename_i z l2 h2
     have h3:=hs _ _ _ h2
     have:=D2 hs ks hk n _ _ _ _ e
     omega
theorem yA:∀ ks∈levelsL,(∀ k∈ks,sg k≠[])∧(∀ k∈ks,k<12)∧ks.length<1000:=by decide
theorem JI {r:Nat}(h:r<5):(levelsL[r]?).getD []∈levelsL:=by
 have:r<levelsL.length:=h
 simp[this]
theorem qT {one:PF}(ho:jb one):∀ r,r≤5→jb (gD one r)
 | 0,_=>ho
 | r+1,hr=>fun l x l' e=>by
   unfold gD at e
   have ih:=qT ho r (by omega)
   cases h:gD one r l with
   | none=>rw[h]at e;cases e
   | some p=>
     obtain⟨y,l1⟩:=p
     rw[h]at e
     have h1:=ih _ _ _ h
     have:=D2 ih _ (yA _ (JI (by omega))).1 _ _ _ _ _ e
     omega
theorem Bw {two:PF}(h2:jb two):jb (gS two):=fun l x l' e=>by
 unfold gS at e
 cases h:two l with
 | none=>rw[h]at e;cases e
 | some p=>
   obtain⟨y,l1⟩:=p
   rw[h]at e
   have h1:=h2 _ _ _ h
   have hb:(blk l1).length≤l1.length:=nF 32 l1
   simp only at e
   split at e
   ·cases e;simp;omega
   ·cases e
theorem Lz {one:PF}(h2:jb one):jb (eJ one):=fun l x l' e=>by
 unfold eJ at e
 cases h:one l with
 | none=>rw[h]at e;cases e
 | some p=>
   obtain⟨y,l1⟩:=p
   rw[h]at e
   cases e
   exact h2 _ _ _ h
theorem xw (base:Nat) (l ds:Str) {x:Ex}{l':Str}(e:eV base l ds=some (x,l')):l'.length≤l.length:=by
 unfold eV at e
 split at e
 ·cases e
 ·split at e
  ·cases e;simp
  ·cases e
theorem HI:jb GN:=fun l x l' e=>by
 unfold GN at e
 split at e
 ·exact xw _ _ _ e
 ·split at e
  ·cases e;simp
  ·cases e
theorem Ow:jb Bu:=fun l x l' e=>by
 unfold Bu at e
 split at e
 ·split at e
  ·have:=xw _ _ _ e;simp at this;omega
  ·exact HI _ _ _ e
 ·exact HI _ _ _ e
theorem Ei {group minus:PF}(hg:jb group) (hm:jb minus):jb (ra group minus):=fun l x l' e=>by
 have hb:(blk l).length≤l.length:=nF 32 l
 unfold ra at e
 split at e
 ·have:=hg _ _ _ e;simp at this;omega
 ·split at e
  ·have:=hm _ _ _ e;simp at this;omega
  ·split at e
   ·cases e;simp;omega
   ·have:=Ow _ _ _ e;omega
theorem vp:∀ d,jb (Br d)
 | 0=>Ei (fun l x l' e=>by cases e) (fun l x l' e=>by cases e)
 | d+1=>Ei (Bw (qT (vp d) 5 (Nat.le_refl _))) (Lz (vp d))
end
end
section
noncomputable section
variable [Tabs]
section
variable {i D:Nat}{l:Str}{h:ae}{Q:QT}
abbrev zE:List AV:=[I 0,I 0,T [],.full 0 []]
theorem Z9 {cs:List AV}(h:cs.length=4):∃ a b c e,cs=[a,b,c,e]:=by
 match cs,h with
 | [a,b,c,e],_=>exact⟨a,b,c,e,rfl⟩
theorem aam {cs zs:List AV}(h:cs.length=4) (hz:zs.length=4):splice zs 0 cs=cs:=by
 simp[splice,h,hz]
theorem aM {h0 h:ae}{M:List Nat}{L L':Own}{j:Nat}{cs zs:List AV}{K:ae→Prop}(s:St h0 M h L) (hz:zs.length=4) (hc:cs.length=4) (ho:cs.all AV.one=true) (u:Sub L (j,true,.cells zs) L' (j,true,.cells cs))
  (k:∀ h',St h0 M h' L'→K h'):ak 4 (.ptr j 0) (.agg cs) h K:=by
 refine ay s (cs:=zs) (L':=L') ?_ rfl hc ho (by omega) k
 rw[show (AV.agg cs).cells=cs from rfl,aam hc hz];exact u
theorem aL {h0 h:ae}{M:List Nat}{L:Own}{j:Nat}{b:Bool}{cs:List AV}{K:AV→Prop}(s:St h0 M h L) (hc:cs.length=4) (u:(j,b,.cells cs)∈L) (k:K (.agg cs)):aw 4 (.ptr j 0) h K:=
 aK s u (by omega) (by rw[List.drop_zero,List.take_of_length_le (by omega)];exact k)
theorem aZ:zE.length=4:=rfl
theorem Yp {cs:List AV}(hc:cs.length=4) (ho:cs.all AV.one=true) (e:h[i]?=some (pO l D false))
  (k1:gc l=[]→∀ h',Fr [i] h h'→h'[i]?=some (pO l D false)→Q (.agg cs) h') (k0:gc l≠[]→∀ h',Fr [i] h h'→h'[i]?=some (pO l D true)→Q (.agg zE) h'):C cJ [.ptr i 0,.agg cs] h Q:=by
 refine oy _ _ _ _ ?_
 unfold mu
 refine bR (St.start1 e) rfl fun j h1 s1=>?_
 refine aQ s1 fun q h2 s2=>?_
 (repeat (first|refine au ?_|refine aj ?_|refine af ‹_› (by first|exact .head _|exact .tail _ (.tail _ (.head _))) rfl ?_))
 refine uF l fun h3 f3=>?_
 have s3:=s2.call f3
 refine qq ?_
 refine ah (fun hb=>?_) (fun hb=>?_)<;>simp only[za,zb,zc,zd,ze,zf,zg,zh,zi,u8i,zj,zk,zl]at hb
 ·refine uD (s3.get (.tail _ (.tail _ (.head _)))) fun h4 f4 e4=>?_
  have s4:=s3.call1 f4 e4 (.tail (.tail .head))
  refine aM s4 aZ (aq _) (aV _) .head fun h5 s5=>?_
  refine aL s5 (aq _) (.head _) ?_
  exact k0 hb _ s5.fr (s5.get (.tail _ (.tail _ (.head _))))
 ·have hb:gc l=[]:=by
   unfold gc
   simpa using hb
  refine aL s3 hc (.tail _ (.head _)) ?_
  refine aM s3 aZ hc ho .head fun h5 s5=>?_
  refine aL s5 hc (.head _) ?_
  exact k1 hb _ s5.fr (s5.get (.tail _ (.tail _ (.head _))))
theorem F8 {base:Nat}(hb:base≤16) (c:UInt8) (n:Nat) (hn:n<4294967296):n*base+oU c<9223372036854775807:=by
 have h1:=c.toNat_lt
 have h2:oU c<1000:=by unfold oU;split<;>omega
 have:n*base≤4294967296*16:=Nat.mul_le_mul (by omega) hb
 omega
theorem Vs (base:Nat) (hb:base≤16) (ds:Str) (hds:∀ c∈ds,vX c.toNat=true) (hle:ds.length≤l.length) (e:h[i]?=some (pO l D false))
  (k1:∀ n,qA base ds 0=some n→∀ h',Fr [i] h h'→h'[i]?=some (pO (l.drop ds.length) D false)→Q (.agg (bq (.num n))) h')
  (k0:qA base ds 0=none→∀ h',Fr [i] h h'→h'[i]?=some (pO l D true)→Q (.agg zE) h'):C cu [.ptr i 0,T ds,I (base:Nat)] h Q:=by
 refine v6 _ _ _ _ _ ?_
 unfold qO
 refine aQ (St.start1 e) fun q h1 s1=>?_
 refine Jr s1 fun j h2 s2=>?_
 refine aP (fun n vs h'=>∃ (k m:Nat),vs=[I (m:Nat)]∧m<4294967296∧n+k=ds.length∧St h [i] h' [(j,true,.siter ⟨⟨ds⟩⟩ k),(q,true,.cells zE),(i,true,pO l D false)]∧qA base (ds.drop k) m=qA base ds 0) ds.length ⟨0,0,rfl,by omega,by omega,s2,rfl⟩ ?_
 rintro n vs h' ⟨k,m,rfl,hm,hn,s3,hnum⟩
 unfold l0
 refine Ts s3 (fun hk=>?_) fun hk r w h4 s4 hw h7 h8=>?_
 ·rw[List.drop_of_length_le (by omega),qA]at hnum
  (repeat (first|refine au ?_|refine aj ?_|refine be ?_|refine aF rfl ?_|refine af ‹_› (by first|exact .tail _ (.head _)|exact .tail _ (.tail _ (.head _))) rfl ?_))
  refine ii (by omega) (by omega) ?_
  (repeat (first|refine au ?_|refine aj ?_))
  refine ay s3 (.tail (.tail .head)) rfl rfl rfl (nle rfl) fun h5 s5=>?_
  (repeat refine aD rfl ?_)
  refine aM s5 aZ rfl rfl (.tail .head) fun h6 s6=>?_
  refine aL s6 rfl (.tail _ (.head _)) ?_
  exact k1 m hnum.symm _ s6.fr (s6.get (.tail _ (.tail _ (.head _))))
 ·have hhex:=hds ds[k] (by simp)
  have hlt:ds[k].toNat<128:=by
   unfold vX bt at hhex;simp at hhex;omega
  obtain⟨rfl,rfl⟩:=h7 hlt
  rw[List.drop_eq_getElem_cons hk,qA]at hnum
  have hd:=F8 hb ds[k] m hm
  have hdv:oU ds[k]<1000:=by unfold oU;split<;>omega
  have hmb:(m:Int)*base=((m*base:Nat):Int):=by simp
  have fin:fo (I (oU ds[k]:Nat)) (I (m:Nat)) (.ptr q 0) (.ptr i 0) (I (base:Nat)) h4 (fun vs' h'=>∃ m_1,m_1<n∧∃ (k m:Nat),vs'=[I (m:Nat)]∧m<4294967296∧m_1+k=ds.length∧St h [i] h' [(j,true,.siter ⟨⟨ds⟩⟩ k),(q,true,.cells zE),(i,true,pO l D false)]∧qA base (ds.drop k) m=qA base ds 0) Q:=by
   unfold fo
   refine u9 (by rw[hmb];omega) ?_
   rw[hmb]
   refine aH (by omega) ?_
   have e2:((m*base:Nat):Int)+(oU ds[k]:Nat)=((m*base+oU ds[k]:Nat):Int):=by simp
   rw[e2]
   refine bL ?_
   refine ah (fun hb=>?_) (fun hb=>?_)
   ·simp only[decide_eq_true_eq]at hb
    rw[if_pos (by omega)]at hnum
    refine uD (s4.get (.tail _ (.tail _ (.head _)))) fun h5 f5 e5=>?_
    have s5:=s4.call1 f5 e5 (.tail (.tail .head))
    refine aM s5 aZ (aq _) (aV _) (.tail .head) fun h6 s6=>?_
    refine aL s6 (aq _) (.tail _ (.head _)) ?_
    exact k0 hnum.symm _ s6.fr (s6.get (.tail _ (.tail _ (.head _))))
   ·simp only[decide_eq_false_iff_not]at hb
    rw[if_neg (by omega)]at hnum
    exact⟨n-1,by omega,k+1,_,rfl,by omega,by omega,s4,hnum⟩
  (repeat refine aF rfl ?_)
  refine Ft ?_
  refine ef ?_
  refine bL ?_
  refine ah (fun hb=>?_) (fun hb=>?_)
  ·simp only[decide_eq_true_eq]at hb
   refine Ft ?_
   refine ef ?_
   have e1:IntKind.i64.wrap (IntKind.i32.wrap ((ds[k].toNat:Nat)-97))=((ds[k].toNat-97:Nat):Int):=by
    have:IntKind.i32.wrap ((ds[k].toNat:Nat)-97)=((ds[k].toNat-97:Nat):Int):=by
     simp[IntKind.wrap,IntKind.bits,IntKind.signed];omega
    rw[this];exact uo (by omega)
   rw[e1]
   refine aH (by omega) ?_
   have e2:((ds[k].toNat-97:Nat):Int)+10=(oU ds[k]:Nat):=by unfold oU;rw[if_pos (by omega)];omega
   rw[e2]
   exact fin
  ·simp only[decide_eq_false_iff_not]at hb
   have e1:IntKind.i64.wrap (IntKind.i32.wrap ((ds[k].toNat:Nat)-48))=(oU ds[k]:Nat):=by
    have h48:48≤ds[k].toNat:=by unfold vX bt at hhex;simp at hhex;omega
    have:IntKind.i32.wrap ((ds[k].toNat:Nat)-48)=((ds[k].toNat-48:Nat):Int):=by
     simp[IntKind.wrap,IntKind.bits,IntKind.signed];omega
    rw[this,uo (by omega)]
    unfold oU;rw[if_neg (by omega)]
   rw[e1]
   exact fin
theorem Xb (l:Str):(gc l).length≤l.length:=(List.takeWhile_sublist _).length_le
theorem Xz (l:Str):(H0 l).length≤l.length:=(List.takeWhile_sublist _).length_le
theorem Xs (l:Str):(OC l).length≤l.length:=(List.takeWhile_sublist _).length_le
theorem sK {p:UInt8→Bool}:∀ {l:Str}{c:UInt8},c∈l.takeWhile p→p c=true
 | [],c,h=>by simp at h
 | a::l,c,h=>by
   cases hp:p a with
   | true=>
     rw[List.takeWhile_cons_of_pos hp]at h
     rcases List.mem_cons.1 h with rfl|h
     ·exact hp
     ·exact sK h
   | false=>rw[List.takeWhile_cons_of_neg (by simp[hp])]at h;simp at h
theorem VU (l:Str):∀ c∈H0 l,vX c.toNat=true:=fun c hc=>by
 have:bt c.toNat=true:=sK hc
 unfold vX;rw[this];rfl
theorem X1 (l:Str):∀ c∈OC l,vX c.toNat=true:=fun c hc=>sK hc
theorem DI (base:Nat) (hb:base≤16) (ds:Str) (hds:∀ c∈ds,vX c.toNat=true) (hle:ds.length≤l.length) (e:h[i]?=some (pO l D false)) (r:PRes i D (eV base l ds) h Q):
  C cu [.ptr i 0,T ds,I (base:Nat)] h fun t h1=>C cJ [.ptr i 0,t] h1 Q:=by
 refine Vs base hb ds hds hle e (fun n hn h1 f1 e1=>?_) (fun hn h1 f1 e1=>?_)
 ·have hm:eV base l ds=if gc (l.drop ds.length)=[] then some (.num n,l.drop ds.length) else none:=by unfold eV;rw[hn]
  refine Yp (aq _) (aV _) e1 (fun h2 h3 f3 e3=>?_) (fun h2 h3 f3 e3=>?_)
  ·rw[if_pos h2]at hm
   exact r.good _ _ _ hm (f1.trans f3 (by simp)) e3
  ·rw[if_neg h2]at hm
   exact r.bad _ _ _ hm (f1.trans f3 (by simp)) e3 rfl rfl
 ·have hm:eV base l ds=none:=by unfold eV;rw[hn]
  refine oy _ _ _ _ ?_
  unfold mu
  refine bR (St.start1 e1) rfl fun j h2 s2=>?_
  refine aQ s2 fun q h3 s3=>?_
  (repeat (first|refine au ?_|refine aj ?_|refine af ‹_› (by first|exact .head _|exact .tail _ (.tail _ (.head _))) rfl ?_))
  refine uF l fun h4 f4=>?_
  have s4:=s3.call f4
  refine qq ?_
  refine ah (fun hbb=>?_) (fun hbb=>?_)<;>simp only[za,zb,zc,zd,ze,zf,zg,zh,zi,u8i,zj,zk,zl]at hbb
  ·refine uD (s4.get (.tail _ (.tail _ (.head _)))) fun h5 f5 e5=>?_
   have s5:=s4.call1 f5 e5 (.tail (.tail .head))
   refine aM s5 aZ (aq _) (aV _) .head fun h6 s6=>?_
   refine aL s6 (aq _) (.head _) ?_
   exact r.bad _ _ _ hm (f1.trans s6.fr (by simp)) (s6.get (.tail _ (.tail _ (.head _)))) rfl rfl
  ·refine aL s4 aZ (.tail _ (.head _)) ?_
   refine aM s4 aZ aZ rfl .head fun h6 s6=>?_
   refine aL s6 aZ (.head _) ?_
   exact r.bad _ _ _ hm (f1.trans s6.fr (by simp)) (s6.get (.tail _ (.tail _ (.head _)))) rfl rfl
def zL (f:FuncId) (args:List AV) (D:Nat) (m:PF):Prop:=∀ (l:Str) (h:ae) (Q:QT) (i:Nat),h[i]?=some (pO l D false)→PRes i D (m l) h Q→C f (.ptr i 0::args) h Q
theorem X3 {two:PF}(ht:zL cD [I 0] D two):zL fT [] D (gS two):=fun l h Q i e r=>by
 refine wJ _ _ _ ?_
 unfold q8
 refine aQ (St.start1 e) fun q h1 s1=>?_
 refine ht l h1 _ i (s1.get (.tail _ (.head _))) ⟨fun x l' h2 hm f2 e2=>?_,fun cs l' h2 hm f2 e2 hc ho=>?_⟩
 ·have s2:=s1.call1 f2 e2 (.tail .head)
  have hm2:gS two l=if ([41]:Str).isPrefixOf (blk l')=true then some (x,(blk l').drop 1) else none:=by unfold gS;rw[hm]
  refine aQ s2 fun q2 h3 s3=>?_
  refine aM s3 aZ (aq _) (aV _) .head fun h4 s4=>?_
  refine Bq (m:=[41]) (s4.get (.tail _ (.tail _ (.head _)))) (fun hp h5 f5 e5=>?_) (fun hp h5 f5 e5=>?_)
  ·have s5:=s4.call1 f5 e5 (.tail (.tail .head))
   rw[if_pos hp]at hm2
   refine bP ?_
   refine ah (fun h=>by cases h) (fun _=>?_)
   refine aL s5 (aq _) (.head _) ?_
   refine aM s5 aZ (aq _) (aV _) (.tail .head) fun h6 s6=>?_
   refine aL s6 (aq _) (.tail _ (.head _)) ?_
   exact r.good _ _ _ hm2 s6.fr (s6.get (.tail _ (.tail _ (.head _))))
  ·have s5:=s4.call1 f5 e5 (.tail (.tail .head))
   rw[if_neg (by simp[hp])]at hm2
   refine bP ?_
   refine ah (fun _=>?_) (fun h=>by cases h)
   refine uD (s5.get (.tail _ (.tail _ (.head _)))) fun h6 f6 e6=>?_
   have s6:=s5.call1 f6 e6 (.tail (.tail .head))
   refine aM s6 aZ (aq _) (aV _) (.tail .head) fun h7 s7=>?_
   refine aL s7 (aq _) (.tail _ (.head _)) ?_
   exact r.bad _ _ _ hm2 s7.fr (s7.get (.tail _ (.tail _ (.head _)))) rfl rfl
 ·have s2:=s1.call1 f2 e2 (.tail .head)
  have hm2:gS two l=none:=by unfold gS;rw[hm]
  refine aQ s2 fun q2 h3 s3=>?_
  refine aM s3 aZ hc ho .head fun h4 s4=>?_
  refine GU (m:=[41]) (s4.get (.tail _ (.tail _ (.head _)))) fun h5 f5 e5=>?_
  have s5:=s4.call1 f5 e5 (.tail (.tail .head))
  refine bP ?_
  refine ah (fun _=>?_) (fun h=>by cases h)
  refine uD (s5.get (.tail _ (.tail _ (.head _)))) fun h6 f6 e6=>?_
  have s6:=s5.call1 f6 e6 (.tail (.tail .head))
  refine aM s6 aZ (aq _) (aV _) (.tail .head) fun h7 s7=>?_
  refine aL s7 (aq _) (.tail _ (.head _)) ?_
  exact r.bad _ _ _ hm2 s7.fr (s7.get (.tail _ (.tail _ (.head _)))) rfl rfl
theorem W4 {one:PF}(ht:zL da [] D one):zL fE [] D (eJ one):=fun l h Q i e r=>by
 refine wh _ _ _ ?_
 unfold sq
 refine aQ (St.start1 e) fun q h1 s1=>?_
 refine ht l h1 _ i (s1.get (.tail _ (.head _))) ⟨fun x l' h2 hm f2 e2=>?_,fun cs l' h2 hm f2 e2 hc ho=>?_⟩
 ·have s2:=s1.call1 f2 e2 (.tail .head)
  have hm2:eJ one l=some (.neg x,l'):=by unfold eJ;rw[hm]
  refine aB rfl (by simp[AV.isTup,AV.cells,aq]) ?_
  rw[show ([AV.agg (bq x)].flatMap fun x=>x.cells)=bq x by simp[AV.cells]]
  (repeat refine aD rfl ?_)
  refine aM s2 aZ rfl rfl .head fun h7 s7=>?_
  refine aL s7 rfl (.head _) ?_
  exact r.good _ _ _ hm2 s7.fr (s7.get (.tail _ (.head _)))
 ·have s2:=s1.call1 f2 e2 (.tail .head)
  have hm2:eJ one l=none:=by unfold eJ;rw[hm]
  refine aB rfl (by simp[AV.isTup,AV.cells,hc]) ?_
  (repeat refine aD rfl ?_)
  refine aM s2 aZ rfl rfl .head fun h7 s7=>?_
  refine aL s7 rfl (.head _) ?_
  exact r.bad _ _ _ hm2 s7.fr (s7.get (.tail _ (.head _))) rfl rfl
theorem JS {f:FuncId}{m:PF}(hf:zL f [] (D+1) m) (hD:D<12):∀ (l:Str) (h:ae) (Q:QT) (i:Nat),h[i]?=some (pO l D false)→PRes i D (m l) h Q→C cV [.ptr i 0,.fn (.func f) [.ptr i 0] []] h Q:=fun l h Q i e r=>by
 refine m5 _ _ _ _ ?_
 unfold lh
 refine aQ (St.start1 e) fun q h1 s1=>?_
 (repeat (first|refine au ?_|refine aj ?_|refine bL ?_|refine af ‹_› (by first|exact .head _|exact .tail _ (.head _)) rfl ?_))
 refine ah (fun hb=>absurd hb (by simp;omega)) (fun _=>?_)
 (repeat (first|refine au ?_|refine aj ?_|refine aH (by omega) ?_|refine af ‹_› (by first|exact .head _|exact .tail _ (.head _)) rfl ?_))
 refine ay s1 (.tail .head) rfl rfl rfl (nle rfl) fun h2 s2=>?_
 have s2:St h [i] h2 [(q,true,.cells zE),(i,true,pO l (D+1) false)]:=s2
 show ACall Pg f [.ptr i 0] _ _
 refine hf l h2 _ i (s2.get (.tail _ (.head _))) ⟨fun x l' h3 hm f3 e3=>?_,fun cs l' h3 hm f3 e3 hc ho=>?_⟩
 ·have s3:=s2.call1 f3 e3 (.tail .head)
  refine aQ s3 fun q2 h4 s4=>?_
  refine aM s4 aZ (aq _) (aV _) .head fun h5 s5=>?_
  (repeat (first|refine au ?_|refine aj ?_|refine cH (by omega) ?_|refine af ‹_› (by first|exact .head _|exact .tail _ (.tail _ (.head _))) rfl ?_))
  have eD:((D+1:Nat):Int)-1=(D:Nat):=by omega
  rw[eD]
  refine ay s5 (.tail (.tail .head)) rfl rfl rfl (nle rfl) fun h6 s6=>?_
  have s6:St h [i] h6 [(q2,true,.cells (bq x)),(q,true,.cells zE),(i,true,pO l' D false)]:=s6
  refine aL s6 (aq _) (.head _) ?_
  refine aM s6 aZ (aq _) (aV _) (.tail .head) fun h7 s7=>?_
  refine aL s7 (aq _) (.tail _ (.head _)) ?_
  exact r.good _ _ _ hm s7.fr (s7.get (.tail _ (.tail _ (.head _))))
 ·have s3:=s2.call1 f3 e3 (.tail .head)
  refine aQ s3 fun q2 h4 s4=>?_
  refine aM s4 aZ hc ho .head fun h5 s5=>?_
  (repeat (first|refine au ?_|refine aj ?_|refine cH (by omega) ?_|refine af ‹_› (by first|exact .head _|exact .tail _ (.tail _ (.head _))) rfl ?_))
  have eD:((D+1:Nat):Int)-1=(D:Nat):=by omega
  rw[eD]
  refine ay s5 (.tail (.tail .head)) rfl rfl rfl (nle rfl) fun h6 s6=>?_
  have s6:St h [i] h6 [(q2,true,.cells cs),(q,true,.cells zE),(i,true,pO l' D true)]:=s6
  refine aL s6 hc (.head _) ?_
  refine aM s6 aZ hc ho (.tail .head) fun h7 s7=>?_
  refine aL s7 hc (.tail _ (.head _)) ?_
  exact r.bad _ _ _ hm s7.fr (s7.get (.tail _ (.tail _ (.head _)))) hc ho
theorem D1 (fv:AV):∀ (l:Str) (h:ae) (Q:QT) (i:Nat),h[i]?=some (pO l 12 false)→PRes i 12 none h Q→C cV [.ptr i 0,fv] h Q:=fun l h Q i e r=>by
 refine m5 _ _ _ _ ?_
 unfold lh
 refine aQ (St.start1 e) fun q h1 s1=>?_
 (repeat (first|refine au ?_|refine aj ?_|refine bL ?_|refine af ‹_› (by first|exact .head _|exact .tail _ (.head _)) rfl ?_))
 refine ah (fun _=>?_) (fun hb=>(by exfalso;first|(simp at hb;done)|(simp at hb;omega)|(revert hb;decide)|omega))
 refine uD (s1.get (.tail _ (.head _))) fun h2 f2 e2=>?_
 have s2:=s1.call1 f2 e2 (.tail .head)
 refine aM s2 aZ (aq _) (aV _) .head fun h3 s3=>?_
 refine aL s3 (aq _) (.head _) ?_
 exact r.bad _ _ _ rfl s3.fr (s3.get (.tail _ (.head _))) rfl rfl
end
end
end
section
noncomputable section
variable [Tabs]
section
variable {i D:Nat}{l:Str}{h:ae}{Q:QT}
def aaz (f:FuncId) (D:Nat) (m:PF):Prop:=∀ (l:Str) (h:ae) (Q:QT) (i:Nat),h[i]?=some (pO l D false)→PRes i D (m l) h Q→C cV [.ptr i 0,.fn (.func f) [.ptr i 0] []] h Q
theorem Yo {h0:ae}{q:Nat}{b:Str}(s:St h0 [i] h [(q,true,.cells zE),(i,true,pO b D false)]) (r:PRes i D (GN b) h0 Q):
  aE (.ptr i 0) fun t61=>ab 0 t61 fun t62=>ag t62 h fun t63=>C cN [t63,(.fn (.func cW) [] [])] h fun t64 h22=>
   ai .neq t64 (S ⟨#[]⟩) fun t66=>ifB t66 (
    C cu [.ptr i 0,t64,(I 10)] h22 fun t70 h23=>C cJ [.ptr i 0,t70] h23 fun t71 h24=>
    ak 4 (.ptr q 0) t71 h24 fun h25=>aw 4 (.ptr q 0) h25 fun r26=>Q r26 h25) (
    aE (.ptr i 0) fun t73=>ab 0 t73 fun t74=>ag t74 h22 fun t75=>C cN [t75,(.fn (.func d4) [] [])] h22 fun t76 h27=>C l9 [t76] h27 fun t78 h28=>
    ifB t78 (
     aE (.ptr i 0) fun t81=>ab 0 t81 fun t82=>ag t82 h28 fun t83=>bH t76 fun t85=>bm t83 (some t85) none fun t86=>
     aE (.ptr i 0) fun t87=>ab 0 t87 fun t88=>ak 1 t88 t86 h28 fun h29=>ax [(I 0),(I 0),(S ⟨#[]⟩),(.full 0 [])] [(0,1,(I 2)),(2,1,t76)] fun t90=>
     ak 4 (.ptr q 0) t90 h29 fun h30=>aw 4 (.ptr q 0) h30 fun r31=>Q r31 h30) (
     C bW [.ptr i 0] h28 fun t92 h32=>ak 4 (.ptr q 0) t92 h32 fun h33=>aw 4 (.ptr q 0) h33 fun r34=>Q r34 h33)):=by
 (repeat (first|refine au ?_|refine aj ?_|refine af ‹_› (by first|exact .head _|exact .tail _ (.head _)) rfl ?_))
 refine F3 b fun h1 f1=>?_
 have s1:=s.call f1
 refine qq ?_
 unfold GN at r
 refine ah (fun hb=>?_) (fun hb=>?_)<;>simp only[za,zb,zc,zd,ze,zf,zg,zh,zi,u8i,zj,zk,zl]at hb
 ·rw[if_pos (by exact hb)]at r
  refine DI 10 (by omega) (H0 b) (VU b) (Xz b) (s1.get (.tail _ (.head _))) ⟨fun x l' h2 hm f2 e2=>?_,fun cs l' h2 hm f2 e2 hc ho=>?_⟩
  ·have s2:=s1.call1 f2 e2 (.tail .head)
   refine aM s2 aZ (aq _) (aV _) .head fun h3 s3=>?_
   refine aL s3 (aq _) (.head _) ?_
   exact r.good _ _ _ hm s3.fr (s3.get (.tail _ (.head _)))
  ·have s2:=s1.call1 f2 e2 (.tail .head)
   refine aM s2 aZ hc ho .head fun h3 s3=>?_
   refine aL s3 hc (.head _) ?_
   exact r.bad _ _ _ hm s3.fr (s3.get (.tail _ (.head _))) hc ho
 ·rw[if_neg (by simpa [H0] using hb)]at r
  (repeat (first|refine au ?_|refine aj ?_|refine af ‹_› (by first|exact .head _|exact .tail _ (.head _)) rfl ?_))
  refine uF b fun h2 f2=>?_
  have s2:=s1.call f2
  refine Zz _ fun h3 f3=>?_
  have s3:=s2.call f3
  refine ah (fun hw=>?_) (fun hw=>?_)
  ·rw[if_pos (by exact hw)]at r
   (repeat (first|refine au ?_|refine aj ?_|refine be ?_|refine af ‹_› (by first|exact .head _|exact .tail _ (.head _)) rfl ?_))
   have hl:=Xb b
   unfold gc at hl
   refine ii (by omega) (by omega) ?_
   (repeat (first|refine au ?_|refine aj ?_))
   refine ay s3 (.tail .head) rfl rfl rfl (nle rfl) fun h4 s4=>?_
   (repeat refine aD rfl ?_)
   refine aM s4 aZ rfl rfl .head fun h5 s5=>?_
   refine aL s5 rfl (.head _) ?_
   exact r.good _ _ _ rfl s5.fr (s5.get (.tail _ (.head _)))
  ·rw[if_neg (by unfold gc;rw[hw];simp)]at r
   refine uD (s3.get (.tail _ (.head _))) fun h4 f4 e4=>?_
   have s4:=s3.call1 f4 e4 (.tail .head)
   refine aM s4 aZ (aq _) (aV _) .head fun h5 s5=>?_
   refine aL s5 (aq _) (.head _) ?_
   exact r.bad _ _ _ rfl s5.fr (s5.get (.tail _ (.head _))) rfl rfl
theorem Sv {group minus:PF}(hG:aaz fT D group) (hM:aaz fE D minus):zL da [] D (ra group minus):=fun l h Q i e r=>by
 refine AO _ _ _ ?_
 unfold vU
 unfold ra at r
 refine aQ (St.start1 e) fun q h1 s1=>?_
 refine Bq (m:=[40]) (s1.get (.tail _ (.head _))) (fun hp h2 f2 e2=>?_) (fun hp h2 f2 e2=>?_)
 ·have s2:=s1.call1 f2 e2 (.tail .head)
  rw[if_pos hp]at r
  refine ah (fun _=>?_) (fun h=>by cases h)
  refine hG _ _ _ i (s2.get (.tail _ (.head _))) ⟨fun x l' h3 hm f3 e3=>?_,fun cs l' h3 hm f3 e3 hc ho=>?_⟩
  ·have s3:=s2.call1 f3 e3 (.tail .head)
   refine aM s3 aZ (aq _) (aV _) .head fun h4 s4=>?_
   refine aL s4 (aq _) (.head _) ?_
   exact r.good _ _ _ hm s4.fr (s4.get (.tail _ (.head _)))
  ·have s3:=s2.call1 f3 e3 (.tail .head)
   refine aM s3 aZ hc ho .head fun h4 s4=>?_
   refine aL s4 hc (.head _) ?_
   exact r.bad _ _ _ hm s4.fr (s4.get (.tail _ (.head _))) hc ho
 have s2:=s1.call1 f2 e2 (.tail .head)
 rw[if_neg (by simp[hp])]at r
 refine ah (fun h=>by cases h) (fun _=>?_)
 refine Bq (m:=[45]) (s2.get (.tail _ (.head _))) (fun hp h3 f3 e3=>?_) (fun hp h3 f3 e3=>?_)
 ·have s3:=s2.call1 f3 e3 (.tail .head)
  rw[show blk (blk l)=blk l from nz 32 l]at hp s3
  rw[if_pos hp]at r
  refine ah (fun _=>?_) (fun h=>by cases h)
  refine hM _ _ _ i (s3.get (.tail _ (.head _))) ⟨fun x l' h4 hm f4 e4=>?_,fun cs l' h4 hm f4 e4 hc ho=>?_⟩
  ·have s4:=s3.call1 f4 e4 (.tail .head)
   refine aM s4 aZ (aq _) (aV _) .head fun h5 s5=>?_
   refine aL s5 (aq _) (.head _) ?_
   exact r.good _ _ _ hm s5.fr (s5.get (.tail _ (.head _)))
  ·have s4:=s3.call1 f4 e4 (.tail .head)
   refine aM s4 aZ hc ho .head fun h5 s5=>?_
   refine aL s5 hc (.head _) ?_
   exact r.bad _ _ _ hm s5.fr (s5.get (.tail _ (.head _))) hc ho
 have s3:=s2.call1 f3 e3 (.tail .head)
 rw[show blk (blk l)=blk l from nz 32 l]at hp s3
 rw[if_neg (by simp[hp])]at r
 refine ah (fun h=>by cases h) (fun _=>?_)
 refine Bq (m:=[46]) (s3.get (.tail _ (.head _))) (fun hp h4 f4 e4=>?_) (fun hp h4 f4 e4=>?_)
 ·have s4:=s3.call1 f4 e4 (.tail .head)
  rw[show blk (blk l)=blk l from nz 32 l]at hp s4
  rw[if_pos hp]at r
  refine ah (fun _=>?_) (fun h=>by cases h)
  (repeat refine aD rfl ?_)
  refine aM s4 aZ rfl rfl .head fun h5 s5=>?_
  refine aL s5 rfl (.head _) ?_
  exact r.good _ _ _ rfl s5.fr (s5.get (.tail _ (.head _)))
 have s4:=s3.call1 f4 e4 (.tail .head)
 rw[show blk (blk l)=blk l from nz 32 l]at hp s4
 rw[if_neg (by simp[hp])]at r
 refine ah (fun h=>by cases h) (fun _=>?_)
 unfold Bu at r
 (repeat (first|refine au ?_|refine aj ?_|refine af ‹_› (by first|exact .head _|exact .tail _ (.head _)) rfl ?_))
 refine B8 ?_
 refine ah (fun hx=>?_) (fun hx=>?_)
 ·rw[if_pos hx]at r
  have hle:=(List.isPrefixOf_iff_prefix.1 hx).length_le
  have hle:2≤(blk l).length:=hle
  (repeat (first|refine au ?_|refine aj ?_|refine af ‹_› (by first|exact .head _|exact .tail _ (.head _)) rfl ?_))
  refine ii (by omega) (by omega) ?_
  refine Ou _ fun h5 f5=>?_
  have s5:=s4.call f5
  refine qq ?_
  refine ah (fun hb=>?_) (fun hb=>?_)<;>simp only[za,zb,zc,zd,ze,zf,zg,zh,zi,u8i,zj,zk,zl]at hb
  ·rw[if_pos (by exact hb)]at r
   (repeat (first|refine au ?_|refine aj ?_|refine af ‹_› (by first|exact .head _|exact .tail _ (.head _)) rfl ?_))
   refine ii (by omega) (by omega) ?_
   (repeat (first|refine au ?_|refine aj ?_))
   refine ay s5 (.tail .head) rfl rfl rfl (nle rfl) fun h6 s6=>?_
   have s6:St h [i] h6 [(q,true,.cells zE),(i,true,pO ((blk l).drop 2) D false)]:=s6
   (repeat (first|refine au ?_|refine aj ?_|refine af ‹_› (by first|exact .head _|exact .tail _ (.head _)) rfl ?_))
   refine Ou _ fun h7 f7=>?_
   have s7:=s6.call f7
   refine DI 16 (by omega) (OC ((blk l).drop 2)) (X1 _) (Xs _) (s7.get (.tail _ (.head _))) ⟨fun x l' h8 hm f8 e8=>?_,fun cs l' h8 hm f8 e8 hc ho=>?_⟩
   ·have s8:=s7.call1 f8 e8 (.tail .head)
    refine aM s8 aZ (aq _) (aV _) .head fun h9 s9=>?_
    refine aL s9 (aq _) (.head _) ?_
    exact r.good _ _ _ hm s9.fr (s9.get (.tail _ (.head _)))
   ·have s8:=s7.call1 f8 e8 (.tail .head)
    refine aM s8 aZ hc ho .head fun h9 s9=>?_
    refine aL s9 hc (.head _) ?_
    exact r.bad _ _ _ hm s9.fr (s9.get (.tail _ (.head _))) hc ho
  ·rw[if_neg (by simpa [OC] using hb)]at r
   exact Yo s5 r
 ·rw[if_neg (by rw[hx];simp)]at r
  exact Yo s4 r
theorem RP {one:PF}(ho:zL da [] D one) (hs:jb one):∀ R,R≤5→zL cD [I ((5-R:Nat):Int)] D (gD one R)
 | 0,_=>fun l h Q i e r=>by
   refine qt _ _ _ _ ?_
   unfold oT
   refine aQ (St.start1 e) fun q h1 s1=>?_
   refine qg ?_
   (repeat (first|refine iy ?_|refine aA ?_))
   refine ah (fun _=>?_) (fun hb=>(by exfalso;first|(simp at hb;done)|(simp at hb;omega)|(revert hb;decide)|omega))
   refine ho l h1 _ i (s1.get (.tail _ (.head _))) ⟨fun x l' h2 hm f2 e2=>?_,fun cs l' h2 hm f2 e2 hc ho=>?_⟩
   ·have s2:=s1.call1 f2 e2 (.tail .head)
    refine aM s2 aZ (aq _) (aV _) .head fun h3 s3=>?_
    refine aL s3 (aq _) (.head _) ?_
    exact r.good _ _ _ hm s3.fr (s3.get (.tail _ (.head _)))
   ·have s2:=s1.call1 f2 e2 (.tail .head)
    refine aM s2 aZ hc ho .head fun h3 s3=>?_
    refine aL s3 hc (.head _) ?_
    exact r.bad _ _ _ hm s3.fr (s3.get (.tail _ (.head _))) hc ho
 | R+1,hR=>fun l h Q i e r=>by
   have ih:=RP ho hs R (by omega)
   have ihs:=qT hs R (by omega)
   have hlv:5-(R+1)=4-R:=by omega
   have hnx:(((5-(R+1):Nat):Int)+1)=((5-R:Nat):Int):=by omega
   have hlv5:4-R<levelsL.length:=by show 4-R<5;omega
   have hmem:levelsL[4-R]∈levelsL:=by simp
   obtain⟨hk1,hk2,hk3⟩:=yA _ hmem
   have hks:(levelsL[4-R]?).getD []=levelsL[4-R]:=by simp[hlv5]
   generalize hkse:levelsL[4-R]=ks at hk1 hk2 hk3 hks
   have RK:∀ h',Row (fun k:Nat=>[I (k:Nat)]) 1 h' (.full ks.length (ks.flatMap fun k=>[I (k:Nat)])) ks:=fun h'=>Row.full (enc:=fun k:Nat=>[I (k:Nat)]) (fun _=>rfl) ks
   refine qt _ _ _ _ ?_
   unfold oT
   refine aQ (St.start1 e) fun q h1 s1=>?_
   refine qg ?_
   (repeat (first|refine iy ?_|refine aA ?_))
   refine ah (fun hb=>absurd hb (by simp[levelsL];omega)) (fun _=>?_)
   refine aH (by omega) ?_
   rw[hnx]
   have LV:∀ {h':ae} {K:AV→Prop},(∀ p,Pt h' p [.full ks.length (ks.flatMap fun k=>[I (k:Nat)])]→K p)→am 1 (.full levelsL.length (levelsL.flatMap QE)) (I ((5-(R+1):Nat):Int)) K:=fun {h' K} k=>by
    rw[hlv]
    refine (Row.full (h:=h') (enc:=QE) (fun _=>rfl) levelsL).idx (fun _=>rfl) hlv5 fun p t=>k p ?_
    rw[hkse]at t;exact t
   refine ih l h1 _ i (s1.get (.tail _ (.head _))) ⟨fun x l1 h2 hm f2 e2=>?_,fun cs l1 h2 hm f2 e2 hc ho2=>?_⟩
   ·have s2:=s1.call1 f2 e2 (.tail .head)
    have hm2:gD one (R+1) l=eO (gD one R) ks l1.length x l1:=by
     conv=>lhs;unfold gD
     rw[hm,hks]
    rw[hm2]at r
    refine aQ s2 fun q2 h3 s3=>?_
    refine aM s3 aZ (aq _) (aV _) .head fun h4 s4=>?_
    refine qg ?_
    refine LV (h':=h4) fun p t=>?_
    refine aI t ?_
    refine Tw ks hk2 hk3 (RK _) (s4.get (.tail _ (.tail _ (.head _)))) (ju (s4.get (i:=i) (.tail _ (.tail _ (.head _))))) (fun h' _=>RK h') fun h5 f5 e5=>?_
    have s5:=s4.call1 f5 e5 (.tail (.tail .head))
    clear s4 s3 s2 s1 f5 e5 f2 e2 t p
    refine aP (fun n vs h'=>∃ (cs:List AV) (k:Nat) (l2:Str) (b:Bool),vs=[I (k:Nat)]∧cs.length=4∧cs.all AV.one=true∧St h [i] h' [(q2,true,.cells cs),(q,true,.cells zE),(i,true,pO l2 D b)]∧
     ((b=false∧∃ y l3,cs=bq y∧l3.length≤n∧dA ks l3=(k,l2)∧eO (gD one R) ks l1.length x l1=eO (gD one R) ks n y l3)∨(b=true∧k=0∧eO (gD one R) ks l1.length x l1=none))) l1.length
     ⟨bq x,(dA ks l1).1,(dA ks l1).2,false,rfl,aq _,aV _,s5,.inl ⟨rfl,x,l1,rfl,Nat.le_refl _,rfl,rfl⟩⟩ ?_
    rintro n vs h' ⟨cs,k,l2,b,rfl,hc,ho3,s6,hcase⟩
    unfold kB
    have fin:(b=false∧∃ y,cs=bq y∧eO (gD one R) ks l1.length x l1=some (y,l2))∨(b=true∧eO (gD one R) ks l1.length x l1=none)→
      aw 4 (.ptr q2 0) h' fun t46=>ak 4 (.ptr q 0) t46 h' fun h17=>aw 4 (.ptr q 0) h17 fun r18=>Q r18 h17:=by
     intro hh
     refine aL s6 hc (.head _) ?_
     refine aM s6 aZ hc ho3 (.tail .head) fun h8 s8=>?_
     refine aL s8 hc (.tail _ (.head _)) ?_
     rcases hh with ⟨rfl,y,rfl,he⟩|⟨rfl,he⟩
     ·exact r.good _ _ _ he s8.fr (s8.get (.tail _ (.tail _ (.head _))))
     ·exact r.bad _ _ _ he s8.fr (s8.get (.tail _ (.tail _ (.head _)))) hc ho3
    refine bT ?_
    refine ah (fun hz=>?_) (fun hz=>?_)<;>simp only[za,zb,zc,zd,ze,zf,zg,zh,zi,u8i,zj,zk,zl]at hz
    ·(repeat (first|refine au ?_|refine aj ?_|refine bP ?_|refine af ‹_› (by first|exact .head _|exact .tail _ (.tail _ (.head _))) rfl ?_))
     rcases hcase with ⟨rfl,y,l3,rfl,hl3,hkm,hlp⟩|⟨rfl,rfl,hno⟩
     ·refine ah (fun _=>?_) (fun h=>by cases h)
      have hk0:k≠0:=by omega
      obtain⟨hl4,hl5⟩:=qh ks hk1 l3
      rw[hkm]at hl4 hl5
      have hl5:=hl5 hk0
      simp only at hl5
      obtain⟨n',rfl⟩:∃ m,n=m+1:=⟨n-1,by omega⟩
      rw[eO,hkm]at hlp
      simp only[if_neg hk0]at hlp
      refine aL s6 (aq _) (.head _) ?_
      refine aH (by omega) ?_
      rw[hnx]
      refine ih l2 h' _ i (s6.get (.tail _ (.tail _ (.head _)))) ⟨fun z l4 h7 hm3 f7 e7=>?_,fun cs2 l4 h7 hm3 f7 e7 hc2 ho4=>?_⟩
      ·have s7:=s6.call1 f7 e7 (.tail (.tail .head))
       rw[hm3]at hlp
       refine⟨aL s7 (aq _) (.head _) rfl,?_⟩
       refine aB rfl (by simp[AV.isTup,AV.cells,aq]) ?_
       rw[show ([AV.agg (bq y),AV.agg (bq z)].flatMap fun x=>x.cells)=bq y++bq z by simp[AV.cells]]
       (repeat refine aD rfl ?_)
       refine aM s7 (aq _) rfl rfl .head fun h8 s8=>?_
       refine qg ?_
       refine LV (h':=h8) fun p t=>?_
       refine aI t ?_
       refine Tw ks hk2 hk3 (RK _) (s8.get (.tail _ (.tail _ (.head _)))) (ju (s8.get (i:=i) (.tail _ (.tail _ (.head _))))) (fun h' _=>RK h') fun h9 f9 e9=>?_
       have s9:=s8.call1 f9 e9 (.tail (.tail .head))
       have hsh:=ihs _ _ _ hm3
       exact⟨n',by omega,bq (.bin k y z),_,_,false,rfl,rfl,rfl,s9,.inl ⟨rfl,.bin k y z,l4,rfl,by omega,rfl,hlp⟩⟩
      ·have s7:=s6.call1 f7 e7 (.tail (.tail .head))
       rw[hm3]at hlp
       refine⟨aL s7 (aq _) (.head _) rfl,?_⟩
       refine aB rfl (by simp[AV.isTup,AV.cells,aq,hc2]) ?_
       (repeat refine aD rfl ?_)
       refine aM s7 (aq _) rfl rfl .head fun h8 s8=>?_
       refine qg ?_
       refine LV (h':=h8) fun p t=>?_
       refine aI t ?_
       refine Hj ks hk2 hk3 (RK _) (s8.get (.tail _ (.tail _ (.head _)))) (fun h' _=>RK h') fun l5 h9 f9 e9=>?_
       have s9:=s8.call1 f9 e9 (.tail (.tail .head))
       exact⟨n',by omega,_,0,_,true,rfl,rfl,rfl,s9,.inr ⟨rfl,rfl,hlp⟩⟩
     ·exact absurd hz (by simp)
    ·have hk0:k=0:=by omega
     subst hk0
     refine fin ?_
     rcases hcase with ⟨rfl,y,l3,rfl,hl3,hkm,hlp⟩|⟨rfl,_,hno⟩
     ·refine .inl ⟨rfl,y,rfl,?_⟩
      rw[hlp]
      cases n with
      | zero=>rw[eO,hkm];simp
      | succ n=>rw[eO,hkm];simp
     ·exact .inr ⟨rfl,hno⟩
   ·have s2:=s1.call1 f2 e2 (.tail .head)
    have hm2:gD one (R+1) l=none:=by
     conv=>lhs;unfold gD
     rw[hm]
    rw[hm2]at r
    refine aQ s2 fun q2 h3 s3=>?_
    refine aM s3 aZ hc ho2 .head fun h4 s4=>?_
    refine qg ?_
    refine LV (h':=h4) fun p t=>?_
    refine aI t ?_
    refine Hj ks hk2 hk3 (RK _) (s4.get (.tail _ (.tail _ (.head _)))) (fun h' _=>RK h') fun l5 h5 f5 e5=>?_
    have s5:=s4.call1 f5 e5 (.tail (.tail .head))
    refine aP (fun n vs h'=>vs=[I 0]∧h'=h5) 0 ⟨rfl,rfl⟩ ?_
    rintro n vs h' ⟨rfl,rfl⟩
    unfold kB
    refine bT ?_
    refine ah (fun hb=>absurd hb (by simp)) (fun _=>?_)
    refine aL s5 hc (.head _) ?_
    refine aM s5 aZ hc ho2 (.tail .head) fun h8 s8=>?_
    refine aL s8 hc (.tail _ (.head _)) ?_
    exact r.bad _ _ _ rfl s8.fr (s8.get (.tail _ (.tail _ (.head _)))) hc ho2
end
end
end
end Go.Proofs.YtgkmmcdhhkllnaaGreatDoor.AL
