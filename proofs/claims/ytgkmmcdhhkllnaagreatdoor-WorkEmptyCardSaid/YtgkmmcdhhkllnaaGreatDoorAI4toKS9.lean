import Derived.Test.YtgkmmcdhhkllnaaGreatDoorAI3
import Derived.Laws.RangeString
import Derived.Laws.RangeAny
import Derived.Test.YtgkmmcdhhkllnaaGreatDoorMP1toAI2
import Derived.Test.YtgkmmcdhhkllnaaGreatDoorF9
import Derived.Test.YtgkmmcdhhkllnaaGreatDoorSPK
set_option linter.all false
set_option autoImplicit true
set_option relaxedAutoImplicit true
set_option maxRecDepth 100000
namespace Go.Proofs.YtgkmmcdhhkllnaaGreatDoor.AL
noncomputable section
section
variable [Tabs]
def yA:List Str→List Int→Int→Option Int
 | k::ks,v::vs,b=>match pj k v with
   | some n=>yA ks vs (orI .u32 b n)
   | none=>none
 | _,_,b=>some b
def nj (op:Nat) (vs:List Int):Option Int:=
 if (cV (bp op)).length=vs.length then yA (cV (bp op)) vs (LR op) else none
theorem P3 {ks:List Str}{vs:List Int}{i:Nat}(h1:i<ks.length) (h2:i<vs.length) (b:Int):yA (ks.drop i) (vs.drop i) b=match pj ks[i] vs[i] with|some n=>yA (ks.drop (i+1)) (vs.drop (i+1)) (orI .u32 b n)|none=>none:=by
 rw[List.drop_eq_getElem_cons h1,List.drop_eq_getElem_cons h2,yA]
omit [Tabs] in
theorem DV:∀ r∈tbl,(cV r.kinds).length≤3:=by decide
theorem TL (hF:cB) (hL:dz) {op:Nat}(ho:op<tbl.length) (vs:List Int) (hv:∀ v∈vs,dW v) {fv:AV}{h:ae}(r:Row (fun v:Int=>[I v]) 1 h fv vs) {Q:QT}(q:PutK (nj op vs) h Q):C rx [.agg [I (op:Nat),fv]] h Q:=by
 refine OL _ _ _ ?_
 unfold O5
 have hfv:fv.isTup=false∧fv.cells=[fv]:=by
  have:=r.1;unfold zr at this;split at this<;>first|exact⟨rfl,rfl⟩|cases this
 refine bB (St.start h) rfl fun i h1 s1=>?_
 have e1:(AV.agg [I (op:Nat),fv]).cells=[I (op:Nat),fv]:=rfl
 rw[e1]at s1
 (repeat (first|refine aj ?_|refine ag ‹_› (.head _) rfl ?_))
 refine Tu ho fun h2 f2=>?_
 have s2:=s1.call f2
 (repeat refine aU ?_)
 have hn:HM op≠[]:=by rw[Dx ho];exact Uf _ (by simp)
 refine ah (fun hb=>absurd (by simpa using hb) hn) (fun _=>?_)
 (repeat (first|refine aj ?_|refine ag ‹_› (.head _) rfl ?_))
 refine acH ho _ ?_
 show ACall Pg om _ _ _
 refine aac _ fun h3 f3=>?_
 have s3:=s2.call f3
 refine⟨ag s3 (.head _) rfl rfl,?_⟩
 refine aca ho _ ?_
 show ACall Pg lz _ _ _
 refine Z8 hF (by simp) fun h4 f4=>?_
 have s4:=s3.call f4
 rw[← jB ho,← WK ho]
 have hk:∀ k∈cV (bp op),k∈Z4:=fun k hk=>WO tbl[op] (by simp) k (by rw[← jB ho];exact hk)
 (repeat (first|refine aj ?_|refine cz ?_|refine ag ‹_› (.head _) rfl ?_))
 refine (r.fr s4.fr).len ?_
 refine bU ?_
 refine ah (fun hl=>?_) (fun hl=>?_)<;>simp only[za,zb,zc,zd,ze,zf,zg,zh,zi,u8i,zj,zk,zl]at hl
 ·exact q.none s4.fr 0 (by unfold nj;rw[if_neg (by omega)])
 have hl:(cV (bp op)).length=vs.length:=by omega
 unfold nj at q
 rw[if_pos hl]at q
 have h3:(cV (bp op)).length≤3:=by rw[jB ho];exact DV _ (by simp)
 (repeat refine cz ?_)
 have RK:∀ h,Row (fun x=>[T x]) 1 h (.snap (cV (bp op)).length ((cV (bp op)).flatMap fun x=>[T x])) (cV (bp op)):=fun h=>Row.snap (enc:=fun x=>[T x]) (fun _=>rfl) _
 refine aQ (fun n vs' h'=>St h [] h' [(i,true,.cells [I (op:Nat),fv])]∧∃ (j:Nat) (x y:AV) (b:Int),vs'=[x,y,U32 b,I (j:Nat)]∧n+j=vs.length∧yA (cV (bp op)) vs (LR op)=yA ((cV (bp op)).drop j) (vs.drop j) b) vs.length ⟨s4,0,_,_,_,rfl,by omega,rfl⟩ ?_
 rintro n vs' h5 ⟨s5,j,x,y,b,rfl,hn,hc⟩
 unfold Em
 (repeat refine aJ ?_)
 refine ah (fun hb=>?_) (fun hb=>?_)<;>simp only[za,zb,zc,zd,ze,zf,zg,zh,zi,u8i,zj,zk,zl]at hb
 ·have hj:j<(cV (bp op)).length:=hb
  refine (RK h5).idx (fun _=>rfl) hj fun p t=>?_
  refine aK t ?_
  (repeat (first|refine aj ?_|refine ag ‹_› (.head _) rfl ?_))
  refine (r.fr s5.fr).idx (fun _=>rfl) (show j<vs.length by omega) fun p2 t2=>?_
  refine aK t2 ?_
  rw[P3 hj (by omega)]at hc
  refine ace hL (hk _ (by simp)) _ (hv _ (by simp)) fun b2 h6 f6 hb2=>?_
  have s6:=s5.call f6
  (repeat (first|refine aG rfl ?_|refine bm ?_))
  cases hp:pj (cV (bp op))[j] vs[j] with
  | none=>
    refine ah (fun _=>?_) (fun h=>by cases h)
    rw[hp]at hc
    exact q.none s6.fr 0 hc
  | some m=>
    refine ah (fun h=>by cases h) (fun _=>?_)
    rw[hp]at hc
    have:=hb2 m hp
    subst this
    refine u0 ?_
    refine aI (by omega) ?_
    exact⟨n-1,by omega,s6,j+1,_,_,_,rfl,by omega,hc⟩
 ·have hj:vs.length≤j:=by omega
  rw[List.drop_of_length_le (by omega),List.drop_of_length_le (by omega)]at hc
  exact q.some s5.fr (by rw[hc];simp[yA])
theorem NL (hF:cB) (hL:dz) {op:Nat}(ho:op<tbl.length) (vs:List Int) (hv:∀ v∈vs,dW v) {fv:AV}{h:ae}(r:Row (fun v:Int=>[I v]) 1 h fv vs) {Q:QT}(k:∀ h',Fr [] h h'→Q (B (nj op vs).isSome) h'):C qo [.agg [I (op:Nat),fv]] h Q:=by
 refine Mj _ _ _ ?_
 unfold JT
 refine bB (St.start h) rfl fun i h1 s1=>?_
 (repeat refine aF ‹_› (.head _) (nle rfl) ?_)
 refine TL hF hL ho vs hv (r.fr s1.fr) fun b h2 f2 _=>?_
 (repeat refine aG rfl ?_)
 exact k _ (s1.call f2).fr
def Yi (b:Int):List Int:=[IntKind.u8.wrap (Mh .u32 b 24),IntKind.u8.wrap (Mh .u32 b 16),IntKind.u8.wrap (Mh .u32 b 8),IntKind.u8.wrap b]
def JB (op:Nat) (vs:List Int):Option (List Int):=(nj op vs).map fun b=>(Yi b).drop (4-mh op)
abbrev BI (n:Int):AV:=.lit (.int .u8 n)
theorem V5 (hF:cB) (hL:dz) {op:Nat}(ho:op<tbl.length) (vs:List Int) (hv:∀ v∈vs,dW v) {bs:List Int}(he:JB op vs=some bs) {fv:AV}{h:ae}(r:Row (fun v:Int=>[I v]) 1 h fv vs) {Q:QT}(k:∀ h',Fr [] h h'→Q (.tup [.snap bs.length (bs.flatMap fun x=>[BI x]),B true]) h'):C sS [.agg [I (op:Nat),fv]] h Q:=by
 refine I1 _ _ _ ?_
 unfold Ir
 refine bB (St.start h) rfl fun i h1 s1=>?_
 (repeat refine aF ‹_› (.head _) (nle rfl) ?_)
 unfold JB at he
 cases hc:nj op vs with
 | none=>rw[hc]at he;cases he
 | some b0=>
 rw[hc]at he
 refine TL hF hL ho vs hv (r.fr s1.fr) fun b h2 f2 hb=>?_
 have:=hb b0 hc
 subst this
 have s2:=s1.call f2
 rw[hc]
 (repeat (first|refine aG rfl ?_|refine bm ?_))
 refine ah (fun h=>by cases h) (fun _=>?_)
 refine ym (by decide) ?_
 refine ew ?_
 refine ym (by decide) ?_
 refine ew ?_
 refine ym (by decide) ?_
 refine ew ?_
 refine ew ?_
 (repeat (first|refine aj ?_|refine ag ‹_› (.head _) rfl ?_|refine aB rfl rfl ?_))
 refine Tl ho fun h3 f3=>?_
 have s3:=s2.call f3
 have hsz:mh op=2∨mh op=4:=by unfold mh;split<;>simp
 simp only[Option.map_some,Option.some.injEq]at he
 rcases hsz with e|e<;>rw[e]at he ⊢<;>subst he
 ·refine cD (by decide) ?_
  refine (⟨(⟨⟨by decide,by decide,by decide⟩,?_⟩:iC 1 (.full 4 _) (some (I 2)) none _)⟩:lu 1 (.full 4 _) (some (I 2)) none _)
  refine ta (n:=2) (cs:=[BI _,BI _]) (by decide) (Rd.snap rfl) fun h4 f4=>?_
  exact k _ (s3.call f4).fr
 ·refine cD (by decide) ?_
  refine (⟨(⟨⟨by decide,by decide,by decide⟩,?_⟩:iC 1 (.full 4 _) (some (I 0)) none _)⟩:lu 1 (.full 4 _) (some (I 0)) none _)
  refine ta (n:=4) (cs:=[BI _,BI _,BI _,BI _]) (by decide) (Rd.snap rfl) fun h4 f4=>?_
  exact k _ (s3.call f4).fr
end
section
variable [Tabs]
abbrev R32 (n:Nat):AV:=.lit (.int .i32 (n:Nat))
def ac5 (fv:AV) (p:Nat→Bool):Prop:=∀ (c:Nat) (h:ae) (Q:QT),Q (B (p c)) h→CV fv [R32 c] h Q
theorem TO {h0 h:ae}{M:List Nat}{L:Own}{l:Str}{i k:Nat}(s:St h0 M h ((i,true,.siter ⟨⟨l⟩⟩ k)::L)) {K:QT}(k0:l.length≤k→K (.tup [B false]) h)
  (k1:∀ (hk:k<l.length) (r w:Nat) (h':ae),St h0 M h' ((i,true,.siter ⟨⟨l⟩⟩ (k+w))::L)→1≤w→(l[k].toNat<128→r=l[k].toNat∧w=1)→(128≤l[k].toNat→128≤r)→K (.tup [B true,I (k:Nat),R32 r]) h'):Ak (.ptr i 0) h K:=⟨by
 simp only[vF,s.get (.head _)]
 have hsz:(⟨⟨l⟩⟩:ByteArray).size=l.length:=rfl
 split
 ·rename_i hk
  have hk':k<l.length:=hk
  have hget:((⟨⟨l⟩⟩:ByteArray)[k]'hk)=l[k]:=rfl
  rcases Nat.lt_or_ge l[k].toNat 128 with ha|ha
  ·have:=decode_ascii ⟨⟨l⟩⟩ k hk (by rw[hget];exact ha)
   rw[this,hget]
   exact k1 hk' _ 1 _ (s.turn .head) (Nat.le_refl _) (fun _=>⟨rfl,rfl⟩) (fun h=>by omega)
  ·obtain⟨g1,g2⟩:=decode_high ⟨⟨l⟩⟩ k hk (by rw[hget];exact ha)
   exact k1 hk' _ _ _ (s.turn .head) g2 (fun h=>by omega) (fun _=>g1)
 ·exact k0 (by omega)⟩
theorem takeWhile_self {p:UInt8→Bool}:∀ {l:Str},l.takeWhile p=l↔∀ x∈l,p x=true
 | []=>by simp
 | a::l=>by
   cases h:p a with
   | true=>rw[List.takeWhile_cons_of_pos h];simp[h,takeWhile_self (l:=l)]
   | false=>rw[List.takeWhile_cons_of_neg (by simp[h])];simp[h]
theorem zN {p:UInt8→Bool}{l:Str}(h:∀ j (hj:j<l.length),p l[j]=true):l.takeWhile p=l:=by
 rw[takeWhile_self]
 intro x hx
 obtain⟨j,hj,rfl⟩:=List.getElem_of_mem hx
 exact h j hj
theorem sJ {p:UInt8→Bool}{l:Str}{k:Nat}(hk:k<l.length) (h:∀ j (hj:j<k),p (l[j]'(by omega))=true) (hn:p l[k]=false):l.takeWhile p=l.take k:=by
 conv=>lhs;rw[← List.take_append_drop k l]
 rw[List.takeWhile_append_of_pos,List.drop_eq_getElem_cons hk,List.takeWhile_cons_of_neg (by simp[hn]),List.append_nil]
 intro x hx
 obtain⟨j,hj,rfl⟩:=List.getElem_of_mem hx
 rw[List.length_take]at hj
 rw[List.getElem_take]
 exact h j (by omega)
theorem XN {fv:AV}{p:Nat→Bool}(ht:ac5 fv p) (hp:∀ c,128≤c→p c=false) (l:Str) {h:ae}{Q:QT}(k:∀ h',Fr [] h h'→Q (T (l.takeWhile fun c=>p c.toNat)) h'):C cQ [T l,fv] h Q:=by
 refine Rb _ _ _ _ ?_
 unfold T2
 refine J5 (St.start h) fun i h1 s1=>?_
 refine aQ (fun n vs h'=>∃ k:Nat,(∃ x,vs=[x])∧n+k=l.length∧St h [] h' [(i,true,.siter ⟨⟨l⟩⟩ k)]∧∀ j (hj:j<l.length),j<k→p l[j].toNat=true) l.length ⟨0,⟨_,rfl⟩,by omega,s1,fun j _ hj=>by omega⟩ ?_
 rintro n vs h' ⟨m,⟨x,rfl⟩,hn,s2,ha⟩
 unfold HB
 refine TO s2 (fun hk=>?_) fun hk r w h3 s3 hw h7 h8=>?_
 ·(repeat refine aG rfl ?_)
  have:=k h' s2.fr
  rw[zN fun j hj=>ha j hj (by omega)]at this
  exact this
 ·(repeat refine aG rfl ?_)
  refine ht r _ _ ?_
  (repeat refine bm ?_)
  rcases Nat.lt_or_ge l[m].toNat 128 with h9|h9
  ·obtain⟨rfl,rfl⟩:=h7 h9
   cases hpm:p l[m].toNat with
   | true=>
     refine ah (fun h=>by cases h) (fun _=>?_)
     refine⟨n-1,by omega,m+1,⟨_,rfl⟩,by omega,s3,fun j hj hj2=>?_⟩
     rcases Nat.lt_or_eq_of_le (Nat.le_of_lt_succ hj2) with h1|h1
     ·exact ha j hj h1
     ·subst h1;exact hpm
   | false=>
     refine ah (fun _=>?_) (fun h=>by cases h)
     refine qg (by omega) (by omega) ?_
     have:=k h3 s3.fr
     rw[sJ hk (fun j hj=>ha j (by omega) hj) hpm]at this
     simpa using this
  ·rw[hp r (h8 h9)]
   refine ah (fun _=>?_) (fun h=>by cases h)
   refine qg (by omega) (by omega) ?_
   have:=k h3 s3.fr
   rw[sJ hk (fun j hj=>ha j (by omega) hj) (hp _ h9)]at this
   simpa using this
def xV (c:Nat):Bool:=(decide (97≤c)&&decide (c≤122))||decide (c=95)
def bu (c:Nat):Bool:=decide (48≤c)&&decide (c≤57)
def dp (c:Nat):Bool:=xV c||bu c
def wv (c:Nat):Bool:=bu c||(decide (97≤c)&&decide (c≤102))
theorem wl {a b:Nat}:decide ((a:Int)≤(b:Int))=decide (a≤b):=by rw[Bool.eq_iff_iff,decide_eq_true_eq,decide_eq_true_eq];omega
theorem acu {a b:Nat}:decide ((a:Int)=(b:Int))=decide (a=b):=by rw[Bool.eq_iff_iff,decide_eq_true_eq,decide_eq_true_eq];omega
theorem W8 (c:Nat) {h:ae}{Q:QT}(k:Q (B (xV c)) h):C tj [R32 c] h Q:=by
 refine Jk _ _ _ ?_
 unfold HY
 have e1:decide ((97:Int)≤c)=decide (97≤c):=wl (a:=97)
 have e2:decide ((c:Int)≤122)=decide (c≤122):=wl (b:=122)
 have e3:decide ((c:Int)=95)=decide (c=95):=acu (b:=95)
 unfold xV at k
 refine bz ?_
 rw[e1]
 cases h1:decide (97≤c) with
 | true=>
   refine ah (fun _=>?_) (fun h=>by cases h)
   rw[h1,Bool.true_and]at k
   refine fK ?_
   rw[e2]
   cases h2:decide (c≤122) with
   | true=>
     refine ah (fun _=>?_) (fun h=>by cases h)
     rw[h2,Bool.true_or]at k;exact k
   | false=>
     refine ah (fun h=>by cases h) (fun _=>?_)
     refine aA ?_
     rw[e3];rw[h2,Bool.false_or]at k;exact k
 | false=>
   refine ah (fun h=>by cases h) (fun _=>?_)
   refine aA ?_
   rw[e3];rw[h1,Bool.false_and,Bool.false_or]at k;exact k
theorem BT (c:Nat) {h:ae}{Q:QT}(k:Q (B (bu c)) h):C cZ [R32 c] h Q:=by
 refine Jd _ _ _ ?_
 unfold G5
 have e1:decide ((48:Int)≤c)=decide (48≤c):=wl (a:=48)
 have e2:decide ((c:Int)≤57)=decide (c≤57):=wl (b:=57)
 unfold bu at k
 refine bz ?_
 rw[e1]
 cases h1:decide (48≤c) with
 | true=>
   refine ah (fun _=>?_) (fun h=>by cases h)
   refine fK ?_
   rw[h1,Bool.true_and]at k
   rw[e2];exact k
 | false=>
   refine ah (fun h=>by cases h) (fun _=>?_)
   rw[h1,Bool.false_and]at k;exact k
theorem ZC (c:Nat) {h:ae}{Q:QT}(k:Q (B (dp c)) h):C d7 [R32 c] h Q:=by
 refine Ji _ _ _ ?_
 unfold Hn
 refine W8 c ?_
 unfold dp at k
 cases h1:xV c with
 | true=>
   refine ah (fun _=>?_) (fun h=>by cases h)
   rw[h1,Bool.true_or]at k;exact k
 | false=>
   refine ah (fun h=>by cases h) (fun _=>?_)
   rw[h1,Bool.false_or]at k
   exact BT c k
theorem ach (c:Nat) {h:ae}{Q:QT}(k:Q (B (wv c)) h):C lU [R32 c] h Q:=by
 refine NX _ _ _ ?_
 unfold P8
 refine BT c ?_
 unfold wv at k
 have e1:decide ((97:Int)≤c)=decide (97≤c):=wl (a:=97)
 have e2:decide ((c:Int)≤102)=decide (c≤102):=wl (b:=102)
 cases h1:bu c with
 | true=>
   refine ah (fun _=>?_) (fun h=>by cases h)
   rw[h1,Bool.true_or]at k;exact k
 | false=>
   refine ah (fun h=>by cases h) (fun _=>?_)
   rw[h1,Bool.false_or]at k
   refine bz ?_
   rw[e1]
   cases h2:decide (97≤c) with
   | true=>
     refine m5 (ah (fun _=>?_) (fun h=>by cases h)) ⟨_,rfl⟩
     rw[h2,Bool.true_and]at k
     refine fK ?_
     rw[e2];exact k
   | false=>
     refine m5 (ah (fun h=>by cases h) (fun _=>?_)) ⟨_,rfl⟩
     rw[h2,Bool.false_and]at k;exact k
theorem vB (l:Str) {h:ae}{Q:QT}(k:∀ h',Fr [] h h'→Q (T (l.takeWhile fun c=>dp c.toNat)) h'):C cQ [T l,.fn (.func d7) [] []] h Q:=
 XN (fv:=.fn (.func d7) [] []) (p:=dp) (fun c h Q k=>ZC c k) (fun c hc=>by simp[dp,xV,bu];omega) l k
theorem HL (l:Str) {h:ae}{Q:QT}(k:∀ h',Fr [] h h'→Q (T (l.takeWhile fun c=>bu c.toNat)) h'):C cQ [T l,.fn (.func cZ) [] []] h Q:=
 XN (fv:=.fn (.func cZ) [] []) (p:=bu) (fun c h Q k=>BT c k) (fun c hc=>by simp[bu];omega) l k
theorem Qc (l:Str) {h:ae}{Q:QT}(k:∀ h',Fr [] h h'→Q (T (l.takeWhile fun c=>wv c.toNat)) h'):C cQ [T l,.fn (.func lU) [] []] h Q:=
 XN (fv:=.fn (.func lU) [] []) (p:=wv) (fun c h Q k=>ach c k) (fun c hc=>by simp[wv,bu];omega) l k
def eH (s:Str):Bool:=match s with
 | []=>false
 | c::t=>decide (s.length≤12)&&(!bu c.toNat&&(s.all (fun c=>dp c.toNat)&&(decide (c≠114)||(t.isEmpty||!(t.all fun c=>bu c.toNat)))))
theorem uA (p:UInt8→Bool) (l:Str):decide (l.takeWhile p=l)=l.all p:=by
 rw[Bool.eq_iff_iff];simp[takeWhile_self]
theorem aav (s:Str) {h:ae}{Q:QT}(k:∀ h',Fr [] h h'→Q (B (eH s)) h'):C ng [T s] h Q:=by
 refine Ng _ _ _ ?_
 unfold Lo
 cases s with
 | nil=>(repeat refine aU ?_);exact k _ (Fr.refl _ _)
 | cons c t=>
 dsimp only[eH]at k
 (repeat (first|refine aZ ?_|refine bD ?_|refine aU ?_))
 refine ah (fun hl=>?_) (fun hl=>?_)<;>simp only[za,zb,zc,zd,ze,zf,zg,zh,zi,u8i,zj,zk,zl]at hl
 ·have e:decide ((c::t).length≤12)=false:=by simp at hl ⊢;omega
  rw[e,Bool.false_and]at k
  exact k _ (Fr.refl _ _)
 have e:decide ((c::t).length≤12)=true:=by simp at hl ⊢;omega
 rw[e,Bool.true_and]at k
 refine gV (by omega) (by simp) ?_
 refine ew ?_
 have e3:IntKind.i32.wrap ((c::t)[Int.toNat 0].toNat:Int)=(c.toNat:Nat):=by
  have:=c.toNat_lt
  simp[IntKind.wrap,IntKind.bits,IntKind.signed];omega
 rw[e3]
 refine BT c.toNat ?_
 cases h2:bu c.toNat with
 | true=>
   refine ah (fun _=>?_) (fun h=>by cases h)
   rw[h2]at k
   exact k _ (Fr.refl _ _)
 | false=>
 refine ah (fun h=>by cases h) (fun _=>?_)
 rw[h2]at k
 simp only[Bool.not_false,Bool.true_and]at k
 refine vB _ fun h1 f1=>?_
 refine nD ?_
 rw[show decide ((c::t).takeWhile (fun c=>dp c.toNat)≠c::t)=!((c::t).all fun c=>dp c.toNat) by rw[← uA];simp]
 cases h3:(c::t).all fun c=>dp c.toNat with
 | false=>
   refine ah (fun _=>?_) (fun h=>by cases h)
   rw[h3,Bool.false_and]at k
   exact k _ f1
 | true=>
 refine ah (fun h=>by cases h) (fun _=>?_)
 rw[h3,Bool.true_and]at k
 refine gV (by omega) (by simp) ?_
 refine bU ?_
 have e4:decide ((((c::t)[Int.toNat 0].toNat:Nat):Int)≠114)=decide (c≠114):=by
  rw[Bool.eq_iff_iff];simp[← UInt8.toNat_inj];omega
 rw[e4]
 cases h4:decide (c≠114) with
 | true=>
   refine ah (fun _=>?_) (fun h=>by cases h)
   rw[h4,Bool.true_or]at k
   exact k _ f1
 | false=>
 refine ah (fun h=>by cases h) (fun _=>?_)
 rw[h4,Bool.false_or]at k
 (repeat (first|refine aZ ?_|refine aA ?_))
 cases t with
 | nil=>refine ah (fun _=>?_) (fun hb=>(by exfalso;first|(simp at hb;done)|(simp at hb;omega)|(revert hb;decide)|omega));exact k _ f1
 | cons d t=>
 refine ah (fun h=>by simp at h;omega) (fun _=>?_)
 refine iw (by omega) (by simp;omega) ?_
 refine iw (by omega) (by simp;omega) ?_
 refine HL _ fun h5 f5=>?_
 refine nD ?_
 have:=k h5 (f1.trans f5 (by simp))
 rw[show ((c::d::t).drop (Int.toNat 1))=d::t from rfl]
 rw[show decide ((d::t).takeWhile (fun c=>bu c.toNat)≠d::t)=!((d::t).all fun c=>bu c.toNat) by rw[← uA];simp]
 exact this
end
section
variable [Tabs]
inductive Ex where
 | none
 | num (n:Nat)
 | name (s:Str)
 | here
 | neg (e:Ex)
 | bin (k:Nat) (a b:Ex)
 deriving DecidableEq
def br:Ex→List AV
 | .none=>[I 0,I 0,T [],.full 0 []]
 | .num n=>[I 1,I (n:Nat),T [],.full 0 []]
 | .name s=>[I 2,I 0,T s,.full 0 []]
 | .here=>[I 3,I 0,T [],.full 0 []]
 | .neg e=>[I 4,I 0,T [],.full 1 (br e)]
 | .bin k a b=>[I (k:Nat),I 0,T [],.full 2 (br a++br b)]
theorem aw (e:Ex):(br e).length=4:=by cases e<;>rfl
theorem aV (e:Ex):(br e).all AV.one=true:=by cases e<;>rfl
abbrev pO (l:Str) (d:Nat) (b:Bool):AObj:=.cells [T l,I (d:Nat),B b]
abbrev blk (l:Str):Str:=iR 32 l
theorem nS (c:UInt8):∀ l:Str,iR c (iR c l)=iR c l
 | []=>rfl
 | x::l=>by
   by_cases h:x=c
   ·rw[iR,if_pos h];exact nS c l
   ·rw[iR,if_neg h,iR,if_neg h]
theorem nN (c:UInt8):∀ l:Str,(iR c l).length≤l.length
 | []=>by simp[iR]
 | x::l=>by
   have:=nN c l
   unfold iR;split<;>simp<;>omega
section
variable {i d:Nat}{l:Str}{h:ae}{Q:QT}
theorem vE {b:Bool}(e:h[i]?=some (pO l d b)) (k:∀ h',Fr [i] h h'→h'[i]?=some (pO l d true)→Q (.agg (br .none)) h'):C bX [.ptr i 0] h Q:=by
 refine y9 _ _ _ ?_
 unfold uh
 have s:=St.start1 e
 refine aM s fun j h1 s1=>?_
 (repeat (first|refine au ?_|refine aj ?_))
 refine ax s1 (.tail .head) rfl rfl rfl (nle rfl) fun h2 s2=>?_
 (repeat refine aD rfl ?_)
 refine ax s2 .head rfl rfl rfl (nle rfl) fun h3 s3=>?_
 (repeat refine aF ‹_› (.head _) (nle rfl) ?_)
 exact k _ s3.fr (s3.get (.tail _ (.head _)))
theorem yS {b:Bool}(e:h[i]?=some (pO l d b)) (k:∀ h',Fr [i] h h'→h'[i]?=some (pO (blk l) d b)→Q (.tup []) h'):C fF [.ptr i 0] h Q:=by
 refine wn _ _ _ ?_
 unfold qN
 have s:=St.start1 e
 (repeat (first|refine au ?_|refine aj ?_|refine ag ‹_› (.head _) rfl ?_))
 refine Lw 32 (by decide) l ?_
 (repeat (first|refine au ?_|refine aj ?_))
 refine ax s .head rfl rfl rfl (nle rfl) fun h2 s2=>?_
 exact k _ s2.fr (s2.get (.head _))
theorem Cp {m:Str}(e:h[i]?=some (pO l d false)) (k1:m.isPrefixOf (blk l)=true→∀ h',Fr [i] h h'→h'[i]?=some (pO ((blk l).drop m.length) d false)→Q (B true) h')
  (k0:m.isPrefixOf (blk l)=false→∀ h',Fr [i] h h'→h'[i]?=some (pO (blk l) d false)→Q (B false) h'):C cr [.ptr i 0,T m] h Q:=by
 refine pK _ _ _ _ ?_
 unfold nJ
 refine yS e fun h1 f1 e1=>?_
 have s:=(St.start1 e).call1 f1 e1 .head
 (repeat (first|refine au ?_|refine aj ?_|refine ag ‹_› (.head _) rfl ?_))
 refine B7 ?_
 (repeat refine bm ?_)
 cases hp:m.isPrefixOf (blk l) with
 | true=>
   refine ah (fun h=>by cases h) (fun _=>?_)
   have hle:=(List.isPrefixOf_iff_prefix.1 hp).length_le
   (repeat (first|refine au ?_|refine aj ?_|refine aZ ?_|refine ag ‹_› (.head _) rfl ?_))
   refine iw (by omega) (by omega) ?_
   (repeat (first|refine au ?_|refine aj ?_))
   refine ax s .head rfl rfl rfl (nle rfl) fun h2 s2=>?_
   exact k1 hp _ s2.fr (s2.get (.head _))
 | false=>
   refine ah (fun _=>?_) (fun h=>by cases h)
   exact k0 hp _ s.fr (s.get (.head _))
theorem Hg {m:Str}(e:h[i]?=some (pO l d true)) (k0:∀ h',Fr [i] h h'→h'[i]?=some (pO (blk l) d true)→Q (B false) h'):C cr [.ptr i 0,T m] h Q:=by
 refine pK _ _ _ _ ?_
 unfold nJ
 refine yS e fun h1 f1 e1=>?_
 have s:=(St.start1 e).call1 f1 e1 .head
 (repeat (first|refine au ?_|refine aj ?_|refine ag ‹_› (.head _) rfl ?_))
 exact k0 _ s.fr (s.get (.head _))
def signsL:List Str:=[[],[],[],[46],[45],[43],[45],[42],[38],[124],[60,60],[62,62]]
abbrev sg (k:Nat):Str:=(signsL[k]?).getD []
def levelsL:List (List Nat):=[[9],[8],[10,11],[5,6],[7]]
def RQ (ks:List Nat):List AV:=[.full ks.length (ks.flatMap fun k=>[I (k:Nat)])]
theorem PV (k:Q (.full signsL.length (signsL.flatMap fun x=>[T x])) h):C tA [] h Q:=by
 refine Jp _ _ ?_
 unfold Gp
 (repeat refine aB rfl rfl ?_)
 exact k
theorem qu (k:Q (.full levelsL.length (levelsL.flatMap RQ)) h):C jC [] h Q:=by
 refine H6 _ _ ?_
 unfold Ee
 (repeat refine aB rfl rfl ?_)
 exact k
def dC:List Nat→Str→Nat×Str
 | [],l=>(0,l)
 | k::ks,l=>if (sg k).isPrefixOf (blk l)=true then (k,(blk l).drop (sg k).length) else dC ks (blk l)
theorem T9 (ks:List Nat) (hk:∀ k∈ks,k<12) (hl:ks.length<1000) {v:AV}(r:Row (fun k:Nat=>[I (k:Nat)]) 1 h v ks) (e:h[i]?=some (pO l d false)) (hi:i<h.length)
  (hr:∀ h',Fr [i] h h'→Row (fun k:Nat=>[I (k:Nat)]) 1 h' v ks) (k:∀ h',Fr [i] h h'→h'[i]?=some (pO (dC ks l).2 d false)→Q (I ((dC ks l).1:Nat)) h'):C eQ [.ptr i 0,v] h Q:=by
 refine px _ _ _ _ ?_
 unfold nK
 refine r.len ?_
 refine aQ (fun n vs h'=>∃ (j:Nat) (b:AV) (l':Str),vs=[b,I (j:Nat)]∧n+j=ks.length∧Fr [i] h h'∧h'[i]?=some (pO l' d false)∧dC (ks.drop j) l'=dC ks l) ks.length ⟨0,_,l,rfl,by omega,Fr.refl _ _,e,rfl⟩ ?_
 rintro n vs h' ⟨j,b,l',rfl,hn,f1,e1,hm⟩
 unfold kR
 (repeat refine aJ ?_)
 refine ah (fun hb=>?_) (fun hb=>?_)<;>simp only[za,zb,zc,zd,ze,zf,zg,zh,zi,u8i,zj,zk,zl]at hb
 ·have hj:j<ks.length:=hb
  refine (hr h' f1).idx (fun _=>rfl) hj fun p t=>?_
  refine aK t ?_
  refine PV ?_
  have hk12:ks[j]<signsL.length:=hk _ (by simp)
  refine (Row.full (h:=h') (enc:=fun x:Str=>[T x]) (fun _=>rfl) signsL).idx (fun _=>rfl) hk12 fun p t=>?_
  refine aK t ?_
  have hsg:signsL[ks[j]]=sg ks[j]:=by simp[sg,hk12]
  rw[List.drop_eq_getElem_cons hj,dC]at hm
  refine Cp e1 (fun hp h2 f2 e2=>?_) (fun hp h2 f2 e2=>?_)
  ·refine ah (fun _=>?_) (fun h=>by cases h)
   rw[hsg]at hp e2
   rw[if_pos hp]at hm
   have:=k h2 (f1.trans f2 (by simp)) (by rw[← hm];exact e2)
   rw[← hm]at this;exact this
  ·refine ah (fun h=>by cases h) (fun _=>?_)
   rw[hsg]at hp
   rw[if_neg (by simp[hp])]at hm
   (repeat refine aI (by omega) ?_)
   exact⟨n-1,by omega,j+1,_,_,rfl,by omega,f1.trans f2 (by simp),e2,hm⟩
 ·rw[List.drop_of_length_le (by omega)]at hm
  have:=k h' f1 (by rw[← hm];exact e1)
  rw[← hm]at this;exact this
theorem Gk (ks:List Nat) (hk:∀ k∈ks,k<12) (hl:ks.length<1000) {v:AV}(r:Row (fun k:Nat=>[I (k:Nat)]) 1 h v ks) (e:h[i]?=some (pO l d true))
  (hr:∀ h',Fr [i] h h'→Row (fun k:Nat=>[I (k:Nat)]) 1 h' v ks) (k:∀ l' h',Fr [i] h h'→h'[i]?=some (pO l' d true)→Q (I 0) h'):C eQ [.ptr i 0,v] h Q:=by
 refine px _ _ _ _ ?_
 unfold nK
 refine r.len ?_
 refine aQ (fun n vs h'=>∃ (j:Nat) (b:AV) (l':Str),vs=[b,I (j:Nat)]∧n+j=ks.length∧Fr [i] h h'∧h'[i]?=some (pO l' d true)) ks.length ⟨0,_,l,rfl,by omega,Fr.refl _ _,e⟩ ?_
 rintro n vs h' ⟨j,b,l',rfl,hn,f1,e1⟩
 unfold kR
 (repeat refine aJ ?_)
 refine ah (fun hb=>?_) (fun hb=>?_)<;>simp only[za,zb,zc,zd,ze,zf,zg,zh,zi,u8i,zj,zk,zl]at hb
 ·have hj:j<ks.length:=hb
  refine (hr h' f1).idx (fun _=>rfl) hj fun p t=>?_
  refine aK t ?_
  refine PV ?_
  have hk12:ks[j]<signsL.length:=hk _ (by simp)
  refine (Row.full (h:=h') (enc:=fun x:Str=>[T x]) (fun _=>rfl) signsL).idx (fun _=>rfl) hk12 fun p t=>?_
  refine aK t ?_
  refine Hg e1 (fun h2 f2 e2=>?_)
  refine ah (fun h=>by cases h) (fun _=>?_)
  (repeat refine aI (by omega) ?_)
  exact⟨n-1,by omega,j+1,_,_,rfl,by omega,f1.trans f2 (by simp),e2⟩
 ·exact k _ h' f1 e1
end
structure PRes (i D:Nat) (m:Option (Ex×Str)) (h:ae) (Q:QT):Prop where
 good:∀ x l' h',m=some (x,l')→Fr [i] h h'→h'[i]?=some (pO l' D false)→Q (.agg (br x)) h'
 bad:∀ cs l' h',m=none→Fr [i] h h'→h'[i]?=some (pO l' D true)→cs.length=4→cs.all AV.one=true→Q (.agg cs) h'
theorem PRes.fr {i D:Nat}{m:Option (Ex×Str)}{h h1:ae}{Q:QT}(r:PRes i D m h Q) (f:Fr [i] h h1):PRes i D m h1 Q:=
 ⟨fun x l' h' e f'=>r.good x l' h' e (f.trans f' (by simp)),fun cs l' h' e f'=>r.bad cs l' h' e (f.trans f' (by simp))⟩
abbrev PF:=Str→Option (Ex×Str)
def ja (f:PF):Prop:=∀ l x l',f l=some (x,l')→l'.length≤l.length
def pn (c:UInt8):Nat:=if 97≤c.toNat then c.toNat-97+10 else c.toNat-48
def qJ (base:Nat):Str→Nat→Option Nat
 | [],n=>some n
 | c::cs,n=>if 4294967296≤n*base+pn c then none else qJ base cs (n*base+pn c)
def eZ (sub:PF) (ks:List Nat):Nat→Ex→Str→Option (Ex×Str)
 | 0,x,l=>if (dC ks l).1=0 then some (x,(dC ks l).2) else none
 | n+1,x,l=>if (dC ks l).1=0 then some (x,(dC ks l).2) else match sub (dC ks l).2 with
   | none=>none
   | some (y,l2)=>eZ sub ks n (.bin (dC ks l).1 x y) l2
def hQ (one:PF):Nat→PF
 | 0=>one
 | r+1=>fun l=>match hQ one r l with
   | none=>none
   | some (x,l1)=>eZ (hQ one r) ((levelsL[4-r]?).getD []) l1.length x l1
def gU (two:PF):PF:=fun l=>match two l with
 | none=>none
 | some (x,l1)=>if ([41]:Str).isPrefixOf (blk l1)=true then some (x,(blk l1).drop 1) else none
def eS (one:PF):PF:=fun l=>match one l with
 | none=>none
 | some (x,l1)=>some (.neg x,l1)
def gv (l:Str):Str:=l.takeWhile fun c=>dp c.toNat
def IP (l:Str):Str:=l.takeWhile fun c=>bu c.toNat
def Pv (l:Str):Str:=l.takeWhile fun c=>wv c.toNat
def fl (base:Nat) (l ds:Str):Option (Ex×Str):=match qJ base ds 0 with
 | none=>none
 | some n=>if gv (l.drop ds.length)=[] then some (.num n,l.drop ds.length) else none
def GO:PF:=fun l=>
 if IP l≠[] then fl 10 l (IP l)
 else if eH (gv l)=true then some (.name (gv l),l.drop (gv l).length) else none
def Cb:PF:=fun l=>
 if ([48,120]:Str).isPrefixOf l=true then (if Pv (l.drop 2)≠[] then fl 16 (l.drop 2) (Pv (l.drop 2)) else GO l) else GO l
def sq (group minus:PF):PF:=fun l=>
 if ([40]:Str).isPrefixOf (blk l)=true then group ((blk l).drop 1)
 else if ([45]:Str).isPrefixOf (blk l)=true then minus ((blk l).drop 1)
 else if ([46]:Str).isPrefixOf (blk l)=true then some (.here,(blk l).drop 1)
 else Cb (blk l)
def CD:Nat→PF
 | 0=>sq (fun _=>none) fun _=>none
 | d+1=>sq (gU (hQ (CD d) 5)) (eS (CD d))
def hO (l:Str):Option Ex:=match hQ (CD 12) 5 l with
 | none=>none
 | some (x,l')=>if blk l'=[] then some x else none
theorem qz (ks:List Nat) (hk:∀ k∈ks,(sg k)≠[]):∀ l:Str,(dC ks l).2.length≤l.length∧((dC ks l).1≠0→(dC ks l).2.length<l.length):=by
 induction ks with
 | nil=>intro l;simp[dC]
 | cons k ks ih=>
   intro l
   unfold dC
   have hb:(blk l).length≤l.length:=nN 32 l
   split
   ·rename_i hp
    have hle:=(List.isPrefixOf_iff_prefix.1 hp).length_le
    have:0<(sg k).length:=List.length_pos_iff.2 (hk k (by simp))
    simp only[List.length_drop]
    exact⟨by omega,fun _=>by omega⟩
   ·obtain⟨h1,h2⟩:=ih (fun k hk'=>hk k (by simp[hk'])) (blk l)
    exact⟨by omega,fun h=>by have:=h2 h;omega⟩
theorem Ez {sub:PF}(hs:ja sub) (ks:List Nat) (hk:∀ k∈ks,(sg k)≠[]):∀ n x,ja (eZ sub ks n x)
 | 0,x,l,y,l',e=>by
   have:=(qz ks hk l).1
   unfold eZ at e
   split at e
   ·cases e;exact this
   ·cases e
 | n+1,x,l,y,l',e=>by
   have:=(qz ks hk l).1
   unfold eZ at e
   split at e
   ·cases e;exact this
   ·split at e
    ·cases e
    ·rename_i z l2 h2
     have h3:=hs _ _ _ h2
     have:=Ez hs ks hk n _ _ _ _ e
     omega
theorem yO:∀ ks∈levelsL,(∀ k∈ks,sg k≠[])∧(∀ k∈ks,k<12)∧ks.length<1000:=by decide
theorem KW {r:Nat}(h:r<5):(levelsL[r]?).getD []∈levelsL:=by
 have:r<levelsL.length:=h
 simp[this]
theorem qH {one:PF}(ho:ja one):∀ r,r≤5→ja (hQ one r)
 | 0,_=>ho
 | r+1,hr=>fun l x l' e=>by
   unfold hQ at e
   have ih:=qH ho r (by omega)
   cases h:hQ one r l with
   | none=>rw[h]at e;cases e
   | some p=>
     obtain⟨y,l1⟩:=p
     rw[h]at e
     have h1:=ih _ _ _ h
     have:=Ez ih _ (yO _ (KW (by omega))).1 _ _ _ _ _ e
     omega
theorem BL {two:PF}(h2:ja two):ja (gU two):=fun l x l' e=>by
 unfold gU at e
 cases h:two l with
 | none=>rw[h]at e;cases e
 | some p=>
   obtain⟨y,l1⟩:=p
   rw[h]at e
   have h1:=h2 _ _ _ h
   have hb:(blk l1).length≤l1.length:=nN 32 l1
   simp only at e
   split at e
   ·cases e;simp;omega
   ·cases e
theorem L6 {one:PF}(h2:ja one):ja (eS one):=fun l x l' e=>by
 unfold eS at e
 cases h:one l with
 | none=>rw[h]at e;cases e
 | some p=>
   obtain⟨y,l1⟩:=p
   rw[h]at e
   cases e
   exact h2 _ _ _ h
theorem xB (base:Nat) (l ds:Str) {x:Ex}{l':Str}(e:fl base l ds=some (x,l')):l'.length≤l.length:=by
 unfold fl at e
 split at e
 ·cases e
 ·split at e
  ·cases e;simp
  ·cases e
theorem Hv:ja GO:=fun l x l' e=>by
 unfold GO at e
 split at e
 ·exact xB _ _ _ e
 ·split at e
  ·cases e;simp
  ·cases e
theorem Pf:ja Cb:=fun l x l' e=>by
 unfold Cb at e
 split at e
 ·split at e
  ·have:=xB _ _ _ e;simp at this;omega
  ·exact Hv _ _ _ e
 ·exact Hv _ _ _ e
theorem Er {group minus:PF}(hg:ja group) (hm:ja minus):ja (sq group minus):=fun l x l' e=>by
 have hb:(blk l).length≤l.length:=nN 32 l
 unfold sq at e
 split at e
 ·have:=hg _ _ _ e;simp at this;omega
 ·split at e
  ·have:=hm _ _ _ e;simp at this;omega
  ·split at e
   ·cases e;simp;omega
   ·have:=Pf _ _ _ e;omega
theorem uM:∀ d,ja (CD d)
 | 0=>Er (fun l x l' e=>by cases e) (fun l x l' e=>by cases e)
 | d+1=>Er (BL (qH (uM d) 5 (Nat.le_refl _))) (L6 (uM d))
end
section
variable [Tabs]
section
variable {i D:Nat}{l:Str}{h:ae}{Q:QT}
abbrev zE:List AV:=[I 0,I 0,T [],.full 0 []]
theorem aaQ {cs:List AV}(h:cs.length=4):∃ a b c e,cs=[a,b,c,e]:=by
 match cs,h with
 | [a,b,c,e],_=>exact⟨a,b,c,e,rfl⟩
theorem ZU {cs zs:List AV}(h:cs.length=4) (hz:zs.length=4):splice zs 0 cs=cs:=by
 simp[splice,h,hz]
theorem aN {h0 h:ae}{M:List Nat}{L L':Own}{j:Nat}{cs zs:List AV}{K:ae→Prop}(s:St h0 M h L) (hz:zs.length=4) (hc:cs.length=4) (ho:cs.all AV.one=true) (u:Sub L (j,true,.cells zs) L' (j,true,.cells cs))
  (k:∀ h',St h0 M h' L'→K h'):ak 4 (.ptr j 0) (.agg cs) h K:=by
 refine ax s (cs:=zs) (L':=L') ?_ rfl hc ho (by omega) k
 rw[show (AV.agg cs).cells=cs from rfl,ZU hc hz];exact u
theorem aL {h0 h:ae}{M:List Nat}{L:Own}{j:Nat}{b:Bool}{cs:List AV}{K:AV→Prop}(s:St h0 M h L) (hc:cs.length=4) (u:(j,b,.cells cs)∈L) (k:K (.agg cs)):ap 4 (.ptr j 0) h K:=
 aF s u (by omega) (by rw[List.drop_zero,List.take_of_length_le (by omega)];exact k)
theorem bc:zE.length=4:=rfl
theorem Ze {cs:List AV}(hc:cs.length=4) (ho:cs.all AV.one=true) (e:h[i]?=some (pO l D false))
  (k1:gv l=[]→∀ h',Fr [i] h h'→h'[i]?=some (pO l D false)→Q (.agg cs) h') (k0:gv l≠[]→∀ h',Fr [i] h h'→h'[i]?=some (pO l D true)→Q (.agg zE) h'):C cH [.ptr i 0,.agg cs] h Q:=by
 refine oU _ _ _ _ ?_
 unfold mF
 refine bB (St.start1 e) rfl fun j h1 s1=>?_
 refine aM s1 fun q h2 s2=>?_
 (repeat (first|refine au ?_|refine aj ?_|refine ag ‹_› (by first|exact .head _|exact .tail _ (.tail _ (.head _))) rfl ?_))
 refine vB l fun h3 f3=>?_
 have s3:=s2.call f3
 refine nD ?_
 refine ah (fun hb=>?_) (fun hb=>?_)<;>simp only[za,zb,zc,zd,ze,zf,zg,zh,zi,u8i,zj,zk,zl]at hb
 ·refine vE (s3.get (.tail _ (.tail _ (.head _)))) fun h4 f4 e4=>?_
  have s4:=s3.call1 f4 e4 (.tail (.tail .head))
  refine aN s4 bc (aw _) (aV _) .head fun h5 s5=>?_
  refine aL s5 (aw _) (.head _) ?_
  exact k0 hb _ s5.fr (s5.get (.tail _ (.tail _ (.head _))))
 ·have hb:gv l=[]:=by
   unfold gv
   simpa using hb
  refine aL s3 hc (.tail _ (.head _)) ?_
  refine aN s3 bc hc ho .head fun h5 s5=>?_
  refine aL s5 hc (.head _) ?_
  exact k1 hb _ s5.fr (s5.get (.tail _ (.tail _ (.head _))))
theorem Iq {base:Nat}(hb:base≤16) (c:UInt8) (n:Nat) (hn:n<4294967296):n*base+pn c<9223372036854775807:=by
 have h1:=c.toNat_lt
 have h2:pn c<1000:=by unfold pn;split<;>omega
 have:n*base≤4294967296*16:=Nat.mul_le_mul (by omega) hb
 omega
theorem U4 (base:Nat) (hb:base≤16) (ds:Str) (hds:∀ c∈ds,wv c.toNat=true) (hle:ds.length≤l.length) (e:h[i]?=some (pO l D false))
  (k1:∀ n,qJ base ds 0=some n→∀ h',Fr [i] h h'→h'[i]?=some (pO (l.drop ds.length) D false)→Q (.agg (br (.num n))) h')
  (k0:qJ base ds 0=none→∀ h',Fr [i] h h'→h'[i]?=some (pO l D true)→Q (.agg zE) h'):C cx [.ptr i 0,T ds,I (base:Nat)] h Q:=by
 refine wu _ _ _ _ _ ?_
 unfold qW
 refine aM (St.start1 e) fun q h1 s1=>?_
 refine J5 s1 fun j h2 s2=>?_
 refine aQ (fun n vs h'=>∃ (k m:Nat),vs=[I (m:Nat)]∧m<4294967296∧n+k=ds.length∧St h [i] h' [(j,true,.siter ⟨⟨ds⟩⟩ k),(q,true,.cells zE),(i,true,pO l D false)]∧qJ base (ds.drop k) m=qJ base ds 0) ds.length ⟨0,0,rfl,by omega,by omega,s2,rfl⟩ ?_
 rintro n vs h' ⟨k,m,rfl,hm,hn,s3,hnum⟩
 unfold mA
 refine TO s3 (fun hk=>?_) fun hk r w h4 s4 hw h7 h8=>?_
 ·rw[List.drop_of_length_le (by omega),qJ]at hnum
  (repeat (first|refine au ?_|refine aj ?_|refine aZ ?_|refine aG rfl ?_|refine ag ‹_› (by first|exact .tail _ (.head _)|exact .tail _ (.tail _ (.head _))) rfl ?_))
  refine iw (by omega) (by omega) ?_
  (repeat (first|refine au ?_|refine aj ?_))
  refine ax s3 (.tail (.tail .head)) rfl rfl rfl (nle rfl) fun h5 s5=>?_
  (repeat refine aD rfl ?_)
  refine aN s5 bc rfl rfl (.tail .head) fun h6 s6=>?_
  refine aL s6 rfl (.tail _ (.head _)) ?_
  exact k1 m hnum.symm _ s6.fr (s6.get (.tail _ (.tail _ (.head _))))
 ·have hhex:=hds ds[k] (by simp)
  have hlt:ds[k].toNat<128:=by
   unfold wv bu at hhex;simp at hhex;omega
  obtain⟨rfl,rfl⟩:=h7 hlt
  rw[List.drop_eq_getElem_cons hk,qJ]at hnum
  have hd:=Iq hb ds[k] m hm
  have hdv:pn ds[k]<1000:=by unfold pn;split<;>omega
  have hmb:(m:Int)*base=((m*base:Nat):Int):=by simp
  have fin:fD (I (pn ds[k]:Nat)) (I (m:Nat)) (.ptr q 0) (.ptr i 0) (I (base:Nat)) h4 (fun vs' h'=>∃ m_1,m_1<n∧∃ (k m:Nat),vs'=[I (m:Nat)]∧m<4294967296∧m_1+k=ds.length∧St h [i] h' [(j,true,.siter ⟨⟨ds⟩⟩ k),(q,true,.cells zE),(i,true,pO l D false)]∧qJ base (ds.drop k) m=qJ base ds 0) Q:=by
   unfold fD
   refine vp (by rw[hmb];omega) ?_
   rw[hmb]
   refine aI (by omega) ?_
   have e2:((m*base:Nat):Int)+(pn ds[k]:Nat)=((m*base+pn ds[k]:Nat):Int):=by simp
   rw[e2]
   refine bz ?_
   refine ah (fun hb=>?_) (fun hb=>?_)
   ·simp only[decide_eq_true_eq]at hb
    rw[if_pos (by omega)]at hnum
    refine vE (s4.get (.tail _ (.tail _ (.head _)))) fun h5 f5 e5=>?_
    have s5:=s4.call1 f5 e5 (.tail (.tail .head))
    refine aN s5 bc (aw _) (aV _) (.tail .head) fun h6 s6=>?_
    refine aL s6 (aw _) (.tail _ (.head _)) ?_
    exact k0 hnum.symm _ s6.fr (s6.get (.tail _ (.tail _ (.head _))))
   ·simp only[decide_eq_false_iff_not]at hb
    rw[if_neg (by omega)]at hnum
    exact⟨n-1,by omega,k+1,_,rfl,by omega,by omega,s4,hnum⟩
  (repeat refine aG rfl ?_)
  refine F2 ?_
  refine ew ?_
  refine bz ?_
  refine ah (fun hb=>?_) (fun hb=>?_)
  ·simp only[decide_eq_true_eq]at hb
   refine F2 ?_
   refine ew ?_
   have e1:IntKind.i64.wrap (IntKind.i32.wrap ((ds[k].toNat:Nat)-97))=((ds[k].toNat-97:Nat):Int):=by
    have:IntKind.i32.wrap ((ds[k].toNat:Nat)-97)=((ds[k].toNat-97:Nat):Int):=by
     simp[IntKind.wrap,IntKind.bits,IntKind.signed];omega
    rw[this];exact tR (by omega)
   rw[e1]
   refine aI (by omega) ?_
   have e2:((ds[k].toNat-97:Nat):Int)+10=(pn ds[k]:Nat):=by unfold pn;rw[if_pos (by omega)];omega
   rw[e2]
   exact fin
  ·simp only[decide_eq_false_iff_not]at hb
   have e1:IntKind.i64.wrap (IntKind.i32.wrap ((ds[k].toNat:Nat)-48))=(pn ds[k]:Nat):=by
    have h48:48≤ds[k].toNat:=by unfold wv bu at hhex;simp at hhex;omega
    have:IntKind.i32.wrap ((ds[k].toNat:Nat)-48)=((ds[k].toNat-48:Nat):Int):=by
     simp[IntKind.wrap,IntKind.bits,IntKind.signed];omega
    rw[this,tR (by omega)]
    unfold pn;rw[if_neg (by omega)]
   rw[e1]
   exact fin
theorem W9 (l:Str):(gv l).length≤l.length:=(List.takeWhile_sublist _).length_le
theorem WR (l:Str):(IP l).length≤l.length:=(List.takeWhile_sublist _).length_le
theorem Yz (l:Str):(Pv l).length≤l.length:=(List.takeWhile_sublist _).length_le
theorem tg {p:UInt8→Bool}:∀ {l:Str}{c:UInt8},c∈l.takeWhile p→p c=true
 | [],c,h=>by simp at h
 | a::l,c,h=>by
   cases hp:p a with
   | true=>
     rw[List.takeWhile_cons_of_pos hp]at h
     rcases List.mem_cons.1 h with rfl|h
     ·exact hp
     ·exact tg h
   | false=>rw[List.takeWhile_cons_of_neg (by simp[hp])]at h;simp at h
theorem Zl (l:Str):∀ c∈IP l,wv c.toNat=true:=fun c hc=>by
 have:bu c.toNat=true:=tg hc
 unfold wv;rw[this];rfl
theorem Zk (l:Str):∀ c∈Pv l,wv c.toNat=true:=fun c hc=>tg hc
theorem EV (base:Nat) (hb:base≤16) (ds:Str) (hds:∀ c∈ds,wv c.toNat=true) (hle:ds.length≤l.length) (e:h[i]?=some (pO l D false)) (r:PRes i D (fl base l ds) h Q):
  C cx [.ptr i 0,T ds,I (base:Nat)] h fun t h1=>C cH [.ptr i 0,t] h1 Q:=by
 refine U4 base hb ds hds hle e (fun n hn h1 f1 e1=>?_) (fun hn h1 f1 e1=>?_)
 ·have hm:fl base l ds=if gv (l.drop ds.length)=[] then some (.num n,l.drop ds.length) else none:=by unfold fl;rw[hn]
  refine Ze (aw _) (aV _) e1 (fun h2 h3 f3 e3=>?_) (fun h2 h3 f3 e3=>?_)
  ·rw[if_pos h2]at hm
   exact r.good _ _ _ hm (f1.trans f3 (by simp)) e3
  ·rw[if_neg h2]at hm
   exact r.bad _ _ _ hm (f1.trans f3 (by simp)) e3 rfl rfl
 ·have hm:fl base l ds=none:=by unfold fl;rw[hn]
  refine oU _ _ _ _ ?_
  unfold mF
  refine bB (St.start1 e1) rfl fun j h2 s2=>?_
  refine aM s2 fun q h3 s3=>?_
  (repeat (first|refine au ?_|refine aj ?_|refine ag ‹_› (by first|exact .head _|exact .tail _ (.tail _ (.head _))) rfl ?_))
  refine vB l fun h4 f4=>?_
  have s4:=s3.call f4
  refine nD ?_
  refine ah (fun hbb=>?_) (fun hbb=>?_)<;>simp only[za,zb,zc,zd,ze,zf,zg,zh,zi,u8i,zj,zk,zl]at hbb
  ·refine vE (s4.get (.tail _ (.tail _ (.head _)))) fun h5 f5 e5=>?_
   have s5:=s4.call1 f5 e5 (.tail (.tail .head))
   refine aN s5 bc (aw _) (aV _) .head fun h6 s6=>?_
   refine aL s6 (aw _) (.head _) ?_
   exact r.bad _ _ _ hm (f1.trans s6.fr (by simp)) (s6.get (.tail _ (.tail _ (.head _)))) rfl rfl
  ·refine aL s4 bc (.tail _ (.head _)) ?_
   refine aN s4 bc bc rfl .head fun h6 s6=>?_
   refine aL s6 bc (.head _) ?_
   exact r.bad _ _ _ hm (f1.trans s6.fr (by simp)) (s6.get (.tail _ (.tail _ (.head _)))) rfl rfl
def Ai (f:FuncId) (args:List AV) (D:Nat) (m:PF):Prop:=∀ (l:Str) (h:ae) (Q:QT) (i:Nat),h[i]?=some (pO l D false)→PRes i D (m l) h Q→C f (.ptr i 0::args) h Q
theorem XR {two:PF}(ht:Ai cK [I 0] D two):Ai gf [] D (gU two):=fun l h Q i e r=>by
 refine x4 _ _ _ ?_
 unfold rq
 refine aM (St.start1 e) fun q h1 s1=>?_
 refine ht l h1 _ i (s1.get (.tail _ (.head _))) ⟨fun x l' h2 hm f2 e2=>?_,fun cs l' h2 hm f2 e2 hc ho=>?_⟩
 ·have s2:=s1.call1 f2 e2 (.tail .head)
  have hm2:gU two l=if ([41]:Str).isPrefixOf (blk l')=true then some (x,(blk l').drop 1) else none:=by unfold gU;rw[hm]
  refine aM s2 fun q2 h3 s3=>?_
  refine aN s3 bc (aw _) (aV _) .head fun h4 s4=>?_
  refine Cp (m:=[41]) (s4.get (.tail _ (.tail _ (.head _)))) (fun hp h5 f5 e5=>?_) (fun hp h5 f5 e5=>?_)
  ·have s5:=s4.call1 f5 e5 (.tail (.tail .head))
   rw[if_pos hp]at hm2
   refine bm ?_
   refine ah (fun h=>by cases h) (fun _=>?_)
   refine aL s5 (aw _) (.head _) ?_
   refine aN s5 bc (aw _) (aV _) (.tail .head) fun h6 s6=>?_
   refine aL s6 (aw _) (.tail _ (.head _)) ?_
   exact r.good _ _ _ hm2 s6.fr (s6.get (.tail _ (.tail _ (.head _))))
  ·have s5:=s4.call1 f5 e5 (.tail (.tail .head))
   rw[if_neg (by simp[hp])]at hm2
   refine bm ?_
   refine ah (fun _=>?_) (fun h=>by cases h)
   refine vE (s5.get (.tail _ (.tail _ (.head _)))) fun h6 f6 e6=>?_
   have s6:=s5.call1 f6 e6 (.tail (.tail .head))
   refine aN s6 bc (aw _) (aV _) (.tail .head) fun h7 s7=>?_
   refine aL s7 (aw _) (.tail _ (.head _)) ?_
   exact r.bad _ _ _ hm2 s7.fr (s7.get (.tail _ (.tail _ (.head _)))) rfl rfl
 ·have s2:=s1.call1 f2 e2 (.tail .head)
  have hm2:gU two l=none:=by unfold gU;rw[hm]
  refine aM s2 fun q2 h3 s3=>?_
  refine aN s3 bc hc ho .head fun h4 s4=>?_
  refine Hg (m:=[41]) (s4.get (.tail _ (.tail _ (.head _)))) fun h5 f5 e5=>?_
  have s5:=s4.call1 f5 e5 (.tail (.tail .head))
  refine bm ?_
  refine ah (fun _=>?_) (fun h=>by cases h)
  refine vE (s5.get (.tail _ (.tail _ (.head _)))) fun h6 f6 e6=>?_
  have s6:=s5.call1 f6 e6 (.tail (.tail .head))
  refine aN s6 bc (aw _) (aV _) (.tail .head) fun h7 s7=>?_
  refine aL s7 (aw _) (.tail _ (.head _)) ?_
  exact r.bad _ _ _ hm2 s7.fr (s7.get (.tail _ (.tail _ (.head _)))) rfl rfl
theorem XM {one:PF}(ht:Ai de [] D one):Ai gh [] D (eS one):=fun l h Q i e r=>by
 refine yE _ _ _ ?_
 unfold rH
 refine aM (St.start1 e) fun q h1 s1=>?_
 refine ht l h1 _ i (s1.get (.tail _ (.head _))) ⟨fun x l' h2 hm f2 e2=>?_,fun cs l' h2 hm f2 e2 hc ho=>?_⟩
 ·have s2:=s1.call1 f2 e2 (.tail .head)
  have hm2:eS one l=some (.neg x,l'):=by unfold eS;rw[hm]
  refine aB rfl (by simp[AV.isTup,AV.cells,aw]) ?_
  rw[show ([AV.agg (br x)].flatMap fun x=>x.cells)=br x by simp[AV.cells]]
  (repeat refine aD rfl ?_)
  refine aN s2 bc rfl rfl .head fun h7 s7=>?_
  refine aL s7 rfl (.head _) ?_
  exact r.good _ _ _ hm2 s7.fr (s7.get (.tail _ (.head _)))
 ·have s2:=s1.call1 f2 e2 (.tail .head)
  have hm2:eS one l=none:=by unfold eS;rw[hm]
  refine aB rfl (by simp[AV.isTup,AV.cells,hc]) ?_
  (repeat refine aD rfl ?_)
  refine aN s2 bc rfl rfl .head fun h7 s7=>?_
  refine aL s7 rfl (.head _) ?_
  exact r.bad _ _ _ hm2 s7.fr (s7.get (.tail _ (.head _))) rfl rfl
theorem JR {f:FuncId}{m:PF}(hf:Ai f [] (D+1) m) (hD:D<12):∀ (l:Str) (h:ae) (Q:QT) (i:Nat),h[i]?=some (pO l D false)→PRes i D (m l) h Q→C cX [.ptr i 0,.fn (.func f) [.ptr i 0] []] h Q:=fun l h Q i e r=>by
 refine nw _ _ _ _ ?_
 unfold lJ
 refine aM (St.start1 e) fun q h1 s1=>?_
 (repeat (first|refine au ?_|refine aj ?_|refine bz ?_|refine ag ‹_› (by first|exact .head _|exact .tail _ (.head _)) rfl ?_))
 refine ah (fun hb=>absurd hb (by simp;omega)) (fun _=>?_)
 (repeat (first|refine au ?_|refine aj ?_|refine aI (by omega) ?_|refine ag ‹_› (by first|exact .head _|exact .tail _ (.head _)) rfl ?_))
 refine ax s1 (.tail .head) rfl rfl rfl (nle rfl) fun h2 s2=>?_
 have s2:St h [i] h2 [(q,true,.cells zE),(i,true,pO l (D+1) false)]:=s2
 show ACall Pg f [.ptr i 0] _ _
 refine hf l h2 _ i (s2.get (.tail _ (.head _))) ⟨fun x l' h3 hm f3 e3=>?_,fun cs l' h3 hm f3 e3 hc ho=>?_⟩
 ·have s3:=s2.call1 f3 e3 (.tail .head)
  refine aM s3 fun q2 h4 s4=>?_
  refine aN s4 bc (aw _) (aV _) .head fun h5 s5=>?_
  (repeat (first|refine au ?_|refine aj ?_|refine cD (by omega) ?_|refine ag ‹_› (by first|exact .head _|exact .tail _ (.tail _ (.head _))) rfl ?_))
  have eD:((D+1:Nat):Int)-1=(D:Nat):=by omega
  rw[eD]
  refine ax s5 (.tail (.tail .head)) rfl rfl rfl (nle rfl) fun h6 s6=>?_
  have s6:St h [i] h6 [(q2,true,.cells (br x)),(q,true,.cells zE),(i,true,pO l' D false)]:=s6
  refine aL s6 (aw _) (.head _) ?_
  refine aN s6 bc (aw _) (aV _) (.tail .head) fun h7 s7=>?_
  refine aL s7 (aw _) (.tail _ (.head _)) ?_
  exact r.good _ _ _ hm s7.fr (s7.get (.tail _ (.tail _ (.head _))))
 ·have s3:=s2.call1 f3 e3 (.tail .head)
  refine aM s3 fun q2 h4 s4=>?_
  refine aN s4 bc hc ho .head fun h5 s5=>?_
  (repeat (first|refine au ?_|refine aj ?_|refine cD (by omega) ?_|refine ag ‹_› (by first|exact .head _|exact .tail _ (.tail _ (.head _))) rfl ?_))
  have eD:((D+1:Nat):Int)-1=(D:Nat):=by omega
  rw[eD]
  refine ax s5 (.tail (.tail .head)) rfl rfl rfl (nle rfl) fun h6 s6=>?_
  have s6:St h [i] h6 [(q2,true,.cells cs),(q,true,.cells zE),(i,true,pO l' D true)]:=s6
  refine aL s6 hc (.head _) ?_
  refine aN s6 bc hc ho (.tail .head) fun h7 s7=>?_
  refine aL s7 hc (.tail _ (.head _)) ?_
  exact r.bad _ _ _ hm s7.fr (s7.get (.tail _ (.tail _ (.head _)))) hc ho
theorem Ed (fv:AV):∀ (l:Str) (h:ae) (Q:QT) (i:Nat),h[i]?=some (pO l 12 false)→PRes i 12 none h Q→C cX [.ptr i 0,fv] h Q:=fun l h Q i e r=>by
 refine nw _ _ _ _ ?_
 unfold lJ
 refine aM (St.start1 e) fun q h1 s1=>?_
 (repeat (first|refine au ?_|refine aj ?_|refine bz ?_|refine ag ‹_› (by first|exact .head _|exact .tail _ (.head _)) rfl ?_))
 refine ah (fun _=>?_) (fun hb=>(by exfalso;first|(simp at hb;done)|(simp at hb;omega)|(revert hb;decide)|omega))
 refine vE (s1.get (.tail _ (.head _))) fun h2 f2 e2=>?_
 have s2:=s1.call1 f2 e2 (.tail .head)
 refine aN s2 bc (aw _) (aV _) .head fun h3 s3=>?_
 refine aL s3 (aw _) (.head _) ?_
 exact r.bad _ _ _ rfl s3.fr (s3.get (.tail _ (.head _))) rfl rfl
end
end
section
variable [Tabs]
section
variable {i D:Nat}{l:Str}{h:ae}{Q:QT}
def abu (f:FuncId) (D:Nat) (m:PF):Prop:=∀ (l:Str) (h:ae) (Q:QT) (i:Nat),h[i]?=some (pO l D false)→PRes i D (m l) h Q→C cX [.ptr i 0,.fn (.func f) [.ptr i 0] []] h Q
theorem XA {h0:ae}{q:Nat}{b:Str}(s:St h0 [i] h [(q,true,.cells zE),(i,true,pO b D false)]) (r:PRes i D (GO b) h0 Q):
  aE (.ptr i 0) fun t61=>ab 0 t61 fun t62=>af t62 h fun t63=>C cQ [t63,(.fn (.func cZ) [] [])] h fun t64 h22=>
   ai .neq t64 (S ⟨#[]⟩) fun t66=>ifB t66 (
    C cx [.ptr i 0,t64,(I 10)] h22 fun t70 h23=>C cH [.ptr i 0,t70] h23 fun t71 h24=>
    ak 4 (.ptr q 0) t71 h24 fun h25=>ap 4 (.ptr q 0) h25 fun r26=>Q r26 h25) (
    aE (.ptr i 0) fun t73=>ab 0 t73 fun t74=>af t74 h22 fun t75=>C cQ [t75,(.fn (.func d7) [] [])] h22 fun t76 h27=>C ng [t76] h27 fun t78 h28=>
    ifB t78 (
     aE (.ptr i 0) fun t81=>ab 0 t81 fun t82=>af t82 h28 fun t83=>bJ t76 fun t85=>bl t83 (some t85) none fun t86=>
     aE (.ptr i 0) fun t87=>ab 0 t87 fun t88=>ak 1 t88 t86 h28 fun h29=>ay [(I 0),(I 0),(S ⟨#[]⟩),(.full 0 [])] [(0,1,(I 2)),(2,1,t76)] fun t90=>
     ak 4 (.ptr q 0) t90 h29 fun h30=>ap 4 (.ptr q 0) h30 fun r31=>Q r31 h30) (
     C bX [.ptr i 0] h28 fun t92 h32=>ak 4 (.ptr q 0) t92 h32 fun h33=>ap 4 (.ptr q 0) h33 fun r34=>Q r34 h33)):=by
 (repeat (first|refine au ?_|refine aj ?_|refine ag ‹_› (by first|exact .head _|exact .tail _ (.head _)) rfl ?_))
 refine HL b fun h1 f1=>?_
 have s1:=s.call f1
 refine nD ?_
 unfold GO at r
 refine ah (fun hb=>?_) (fun hb=>?_)<;>simp only[za,zb,zc,zd,ze,zf,zg,zh,zi,u8i,zj,zk,zl]at hb
 ·rw[if_pos (by exact hb)]at r
  refine EV 10 (by omega) (IP b) (Zl b) (WR b) (s1.get (.tail _ (.head _))) ⟨fun x l' h2 hm f2 e2=>?_,fun cs l' h2 hm f2 e2 hc ho=>?_⟩
  ·have s2:=s1.call1 f2 e2 (.tail .head)
   refine aN s2 bc (aw _) (aV _) .head fun h3 s3=>?_
   refine aL s3 (aw _) (.head _) ?_
   exact r.good _ _ _ hm s3.fr (s3.get (.tail _ (.head _)))
  ·have s2:=s1.call1 f2 e2 (.tail .head)
   refine aN s2 bc hc ho .head fun h3 s3=>?_
   refine aL s3 hc (.head _) ?_
   exact r.bad _ _ _ hm s3.fr (s3.get (.tail _ (.head _))) hc ho
 ·rw[if_neg (by simpa [IP] using hb)]at r
  (repeat (first|refine au ?_|refine aj ?_|refine ag ‹_› (by first|exact .head _|exact .tail _ (.head _)) rfl ?_))
  refine vB b fun h2 f2=>?_
  have s2:=s1.call f2
  refine aav _ fun h3 f3=>?_
  have s3:=s2.call f3
  refine ah (fun hw=>?_) (fun hw=>?_)
  ·rw[if_pos (by exact hw)]at r
   (repeat (first|refine au ?_|refine aj ?_|refine aZ ?_|refine ag ‹_› (by first|exact .head _|exact .tail _ (.head _)) rfl ?_))
   have hl:=W9 b
   unfold gv at hl
   refine iw (by omega) (by omega) ?_
   (repeat (first|refine au ?_|refine aj ?_))
   refine ax s3 (.tail .head) rfl rfl rfl (nle rfl) fun h4 s4=>?_
   (repeat refine aD rfl ?_)
   refine aN s4 bc rfl rfl .head fun h5 s5=>?_
   refine aL s5 rfl (.head _) ?_
   exact r.good _ _ _ rfl s5.fr (s5.get (.tail _ (.head _)))
  ·rw[if_neg (by unfold gv;rw[hw];simp)]at r
   refine vE (s3.get (.tail _ (.head _))) fun h4 f4 e4=>?_
   have s4:=s3.call1 f4 e4 (.tail .head)
   refine aN s4 bc (aw _) (aV _) .head fun h5 s5=>?_
   refine aL s5 (aw _) (.head _) ?_
   exact r.bad _ _ _ rfl s5.fr (s5.get (.tail _ (.head _))) rfl rfl
theorem TP {group minus:PF}(hG:abu gf D group) (hM:abu gh D minus):Ai de [] D (sq group minus):=fun l h Q i e r=>by
 refine Ba _ _ _ ?_
 unfold wa
 unfold sq at r
 refine aM (St.start1 e) fun q h1 s1=>?_
 refine Cp (m:=[40]) (s1.get (.tail _ (.head _))) (fun hp h2 f2 e2=>?_) (fun hp h2 f2 e2=>?_)
 ·have s2:=s1.call1 f2 e2 (.tail .head)
  rw[if_pos hp]at r
  refine ah (fun _=>?_) (fun h=>by cases h)
  refine hG _ _ _ i (s2.get (.tail _ (.head _))) ⟨fun x l' h3 hm f3 e3=>?_,fun cs l' h3 hm f3 e3 hc ho=>?_⟩
  ·have s3:=s2.call1 f3 e3 (.tail .head)
   refine aN s3 bc (aw _) (aV _) .head fun h4 s4=>?_
   refine aL s4 (aw _) (.head _) ?_
   exact r.good _ _ _ hm s4.fr (s4.get (.tail _ (.head _)))
  ·have s3:=s2.call1 f3 e3 (.tail .head)
   refine aN s3 bc hc ho .head fun h4 s4=>?_
   refine aL s4 hc (.head _) ?_
   exact r.bad _ _ _ hm s4.fr (s4.get (.tail _ (.head _))) hc ho
 have s2:=s1.call1 f2 e2 (.tail .head)
 rw[if_neg (by simp[hp])]at r
 refine ah (fun h=>by cases h) (fun _=>?_)
 refine Cp (m:=[45]) (s2.get (.tail _ (.head _))) (fun hp h3 f3 e3=>?_) (fun hp h3 f3 e3=>?_)
 ·have s3:=s2.call1 f3 e3 (.tail .head)
  rw[show blk (blk l)=blk l from nS 32 l]at hp s3
  rw[if_pos hp]at r
  refine ah (fun _=>?_) (fun h=>by cases h)
  refine hM _ _ _ i (s3.get (.tail _ (.head _))) ⟨fun x l' h4 hm f4 e4=>?_,fun cs l' h4 hm f4 e4 hc ho=>?_⟩
  ·have s4:=s3.call1 f4 e4 (.tail .head)
   refine aN s4 bc (aw _) (aV _) .head fun h5 s5=>?_
   refine aL s5 (aw _) (.head _) ?_
   exact r.good _ _ _ hm s5.fr (s5.get (.tail _ (.head _)))
  ·have s4:=s3.call1 f4 e4 (.tail .head)
   refine aN s4 bc hc ho .head fun h5 s5=>?_
   refine aL s5 hc (.head _) ?_
   exact r.bad _ _ _ hm s5.fr (s5.get (.tail _ (.head _))) hc ho
 have s3:=s2.call1 f3 e3 (.tail .head)
 rw[show blk (blk l)=blk l from nS 32 l]at hp s3
 rw[if_neg (by simp[hp])]at r
 refine ah (fun h=>by cases h) (fun _=>?_)
 refine Cp (m:=[46]) (s3.get (.tail _ (.head _))) (fun hp h4 f4 e4=>?_) (fun hp h4 f4 e4=>?_)
 ·have s4:=s3.call1 f4 e4 (.tail .head)
  rw[show blk (blk l)=blk l from nS 32 l]at hp s4
  rw[if_pos hp]at r
  refine ah (fun _=>?_) (fun h=>by cases h)
  (repeat refine aD rfl ?_)
  refine aN s4 bc rfl rfl .head fun h5 s5=>?_
  refine aL s5 rfl (.head _) ?_
  exact r.good _ _ _ rfl s5.fr (s5.get (.tail _ (.head _)))
 have s4:=s3.call1 f4 e4 (.tail .head)
 rw[show blk (blk l)=blk l from nS 32 l]at hp s4
 rw[if_neg (by simp[hp])]at r
 refine ah (fun h=>by cases h) (fun _=>?_)
 unfold Cb at r
 (repeat (first|refine au ?_|refine aj ?_|refine ag ‹_› (by first|exact .head _|exact .tail _ (.head _)) rfl ?_))
 refine B7 ?_
 refine ah (fun hx=>?_) (fun hx=>?_)
 ·rw[if_pos hx]at r
  have hle:=(List.isPrefixOf_iff_prefix.1 hx).length_le
  have hle:2≤(blk l).length:=hle
  (repeat (first|refine au ?_|refine aj ?_|refine ag ‹_› (by first|exact .head _|exact .tail _ (.head _)) rfl ?_))
  refine iw (by omega) (by omega) ?_
  refine Qc _ fun h5 f5=>?_
  have s5:=s4.call f5
  refine nD ?_
  refine ah (fun hb=>?_) (fun hb=>?_)<;>simp only[za,zb,zc,zd,ze,zf,zg,zh,zi,u8i,zj,zk,zl]at hb
  ·rw[if_pos (by exact hb)]at r
   (repeat (first|refine au ?_|refine aj ?_|refine ag ‹_› (by first|exact .head _|exact .tail _ (.head _)) rfl ?_))
   refine iw (by omega) (by omega) ?_
   (repeat (first|refine au ?_|refine aj ?_))
   refine ax s5 (.tail .head) rfl rfl rfl (nle rfl) fun h6 s6=>?_
   have s6:St h [i] h6 [(q,true,.cells zE),(i,true,pO ((blk l).drop 2) D false)]:=s6
   (repeat (first|refine au ?_|refine aj ?_|refine ag ‹_› (by first|exact .head _|exact .tail _ (.head _)) rfl ?_))
   refine Qc _ fun h7 f7=>?_
   have s7:=s6.call f7
   refine EV 16 (by omega) (Pv ((blk l).drop 2)) (Zk _) (Yz _) (s7.get (.tail _ (.head _))) ⟨fun x l' h8 hm f8 e8=>?_,fun cs l' h8 hm f8 e8 hc ho=>?_⟩
   ·have s8:=s7.call1 f8 e8 (.tail .head)
    refine aN s8 bc (aw _) (aV _) .head fun h9 s9=>?_
    refine aL s9 (aw _) (.head _) ?_
    exact r.good _ _ _ hm s9.fr (s9.get (.tail _ (.head _)))
   ·have s8:=s7.call1 f8 e8 (.tail .head)
    refine aN s8 bc hc ho .head fun h9 s9=>?_
    refine aL s9 hc (.head _) ?_
    exact r.bad _ _ _ hm s9.fr (s9.get (.tail _ (.head _))) hc ho
  ·rw[if_neg (by simpa [Pv] using hb)]at r
   exact XA s5 r
 ·rw[if_neg (by rw[hx];simp)]at r
  exact XA s4 r
theorem Rt {one:PF}(ho:Ai de [] D one) (hs:ja one):∀ R,R≤5→Ai cK [I ((5-R:Nat):Int)] D (hQ one R)
 | 0,_=>fun l h Q i e r=>by
   refine qY _ _ _ _ ?_
   unfold pf
   refine aM (St.start1 e) fun q h1 s1=>?_
   refine qu ?_
   (repeat (first|refine ef ?_|refine aA ?_))
   refine ah (fun _=>?_) (fun hb=>(by exfalso;first|(simp at hb;done)|(simp at hb;omega)|(revert hb;decide)|omega))
   refine ho l h1 _ i (s1.get (.tail _ (.head _))) ⟨fun x l' h2 hm f2 e2=>?_,fun cs l' h2 hm f2 e2 hc ho=>?_⟩
   ·have s2:=s1.call1 f2 e2 (.tail .head)
    refine aN s2 bc (aw _) (aV _) .head fun h3 s3=>?_
    refine aL s3 (aw _) (.head _) ?_
    exact r.good _ _ _ hm s3.fr (s3.get (.tail _ (.head _)))
   ·have s2:=s1.call1 f2 e2 (.tail .head)
    refine aN s2 bc hc ho .head fun h3 s3=>?_
    refine aL s3 hc (.head _) ?_
    exact r.bad _ _ _ hm s3.fr (s3.get (.tail _ (.head _))) hc ho
 | R+1,hR=>fun l h Q i e r=>by
   have ih:=Rt ho hs R (by omega)
   have ihs:=qH hs R (by omega)
   have hlv:5-(R+1)=4-R:=by omega
   have hnx:(((5-(R+1):Nat):Int)+1)=((5-R:Nat):Int):=by omega
   have hlv5:4-R<levelsL.length:=by show 4-R<5;omega
   have hmem:levelsL[4-R]∈levelsL:=by simp
   obtain⟨hk1,hk2,hk3⟩:=yO _ hmem
   have hks:(levelsL[4-R]?).getD []=levelsL[4-R]:=by simp[hlv5]
   generalize hkse:levelsL[4-R]=ks at hk1 hk2 hk3 hks
   have RK:∀ h',Row (fun k:Nat=>[I (k:Nat)]) 1 h' (.full ks.length (ks.flatMap fun k=>[I (k:Nat)])) ks:=fun h'=>Row.full (enc:=fun k:Nat=>[I (k:Nat)]) (fun _=>rfl) ks
   refine qY _ _ _ _ ?_
   unfold pf
   refine aM (St.start1 e) fun q h1 s1=>?_
   refine qu ?_
   (repeat (first|refine ef ?_|refine aA ?_))
   refine ah (fun hb=>absurd hb (by simp[levelsL];omega)) (fun _=>?_)
   refine aI (by omega) ?_
   rw[hnx]
   have LV:∀ {h':ae} {K:AV→Prop},(∀ p,Pt h' p [.full ks.length (ks.flatMap fun k=>[I (k:Nat)])]→K p)→an 1 (.full levelsL.length (levelsL.flatMap RQ)) (I ((5-(R+1):Nat):Int)) K:=fun {h' K} k=>by
    rw[hlv]
    refine (Row.full (h:=h') (enc:=RQ) (fun _=>rfl) levelsL).idx (fun _=>rfl) hlv5 fun p t=>k p ?_
    rw[hkse]at t;exact t
   refine ih l h1 _ i (s1.get (.tail _ (.head _))) ⟨fun x l1 h2 hm f2 e2=>?_,fun cs l1 h2 hm f2 e2 hc ho2=>?_⟩
   ·have s2:=s1.call1 f2 e2 (.tail .head)
    have hm2:hQ one (R+1) l=eZ (hQ one R) ks l1.length x l1:=by
     conv=>lhs;unfold hQ
     rw[hm,hks]
    rw[hm2]at r
    refine aM s2 fun q2 h3 s3=>?_
    refine aN s3 bc (aw _) (aV _) .head fun h4 s4=>?_
    refine qu ?_
    refine LV (h':=h4) fun p t=>?_
    refine aK t ?_
    refine T9 ks hk2 hk3 (RK _) (s4.get (.tail _ (.tail _ (.head _)))) (jL (s4.get (i:=i) (.tail _ (.tail _ (.head _))))) (fun h' _=>RK h') fun h5 f5 e5=>?_
    have s5:=s4.call1 f5 e5 (.tail (.tail .head))
    clear s4 s3 s2 s1 f5 e5 f2 e2 t p
    refine aQ (fun n vs h'=>∃ (cs:List AV) (k:Nat) (l2:Str) (b:Bool),vs=[I (k:Nat)]∧cs.length=4∧cs.all AV.one=true∧St h [i] h' [(q2,true,.cells cs),(q,true,.cells zE),(i,true,pO l2 D b)]∧
     ((b=false∧∃ y l3,cs=br y∧l3.length≤n∧dC ks l3=(k,l2)∧eZ (hQ one R) ks l1.length x l1=eZ (hQ one R) ks n y l3)∨(b=true∧k=0∧eZ (hQ one R) ks l1.length x l1=none))) l1.length
     ⟨br x,(dC ks l1).1,(dC ks l1).2,false,rfl,aw _,aV _,s5,.inl ⟨rfl,x,l1,rfl,Nat.le_refl _,rfl,rfl⟩⟩ ?_
    rintro n vs h' ⟨cs,k,l2,b,rfl,hc,ho3,s6,hcase⟩
    unfold kU
    have fin:(b=false∧∃ y,cs=br y∧eZ (hQ one R) ks l1.length x l1=some (y,l2))∨(b=true∧eZ (hQ one R) ks l1.length x l1=none)→
      ap 4 (.ptr q2 0) h' fun t46=>ak 4 (.ptr q 0) t46 h' fun h17=>ap 4 (.ptr q 0) h17 fun r18=>Q r18 h17:=by
     intro hh
     refine aL s6 hc (.head _) ?_
     refine aN s6 bc hc ho3 (.tail .head) fun h8 s8=>?_
     refine aL s8 hc (.tail _ (.head _)) ?_
     rcases hh with ⟨rfl,y,rfl,he⟩|⟨rfl,he⟩
     ·exact r.good _ _ _ he s8.fr (s8.get (.tail _ (.tail _ (.head _))))
     ·exact r.bad _ _ _ he s8.fr (s8.get (.tail _ (.tail _ (.head _)))) hc ho3
    refine bU ?_
    refine ah (fun hz=>?_) (fun hz=>?_)<;>simp only[za,zb,zc,zd,ze,zf,zg,zh,zi,u8i,zj,zk,zl]at hz
    ·(repeat (first|refine au ?_|refine aj ?_|refine bm ?_|refine ag ‹_› (by first|exact .head _|exact .tail _ (.tail _ (.head _))) rfl ?_))
     rcases hcase with ⟨rfl,y,l3,rfl,hl3,hkm,hlp⟩|⟨rfl,rfl,hno⟩
     ·refine ah (fun _=>?_) (fun h=>by cases h)
      have hk0:k≠0:=by omega
      obtain⟨hl4,hl5⟩:=qz ks hk1 l3
      rw[hkm]at hl4 hl5
      have hl5:=hl5 hk0
      simp only at hl5
      obtain⟨n',rfl⟩:∃ m,n=m+1:=⟨n-1,by omega⟩
      rw[eZ,hkm]at hlp
      simp only[if_neg hk0]at hlp
      refine aL s6 (aw _) (.head _) ?_
      refine aI (by omega) ?_
      rw[hnx]
      refine ih l2 h' _ i (s6.get (.tail _ (.tail _ (.head _)))) ⟨fun z l4 h7 hm3 f7 e7=>?_,fun cs2 l4 h7 hm3 f7 e7 hc2 ho4=>?_⟩
      ·have s7:=s6.call1 f7 e7 (.tail (.tail .head))
       rw[hm3]at hlp
       refine⟨aL s7 (aw _) (.head _) rfl,?_⟩
       refine aB rfl (by simp[AV.isTup,AV.cells,aw]) ?_
       rw[show ([AV.agg (br y),AV.agg (br z)].flatMap fun x=>x.cells)=br y++br z by simp[AV.cells]]
       (repeat refine aD rfl ?_)
       refine aN s7 (aw _) rfl rfl .head fun h8 s8=>?_
       refine qu ?_
       refine LV (h':=h8) fun p t=>?_
       refine aK t ?_
       refine T9 ks hk2 hk3 (RK _) (s8.get (.tail _ (.tail _ (.head _)))) (jL (s8.get (i:=i) (.tail _ (.tail _ (.head _))))) (fun h' _=>RK h') fun h9 f9 e9=>?_
       have s9:=s8.call1 f9 e9 (.tail (.tail .head))
       have hsh:=ihs _ _ _ hm3
       exact⟨n',by omega,br (.bin k y z),_,_,false,rfl,rfl,rfl,s9,.inl ⟨rfl,.bin k y z,l4,rfl,by omega,rfl,hlp⟩⟩
      ·have s7:=s6.call1 f7 e7 (.tail (.tail .head))
       rw[hm3]at hlp
       refine⟨aL s7 (aw _) (.head _) rfl,?_⟩
       refine aB rfl (by simp[AV.isTup,AV.cells,aw,hc2]) ?_
       (repeat refine aD rfl ?_)
       refine aN s7 (aw _) rfl rfl .head fun h8 s8=>?_
       refine qu ?_
       refine LV (h':=h8) fun p t=>?_
       refine aK t ?_
       refine Gk ks hk2 hk3 (RK _) (s8.get (.tail _ (.tail _ (.head _)))) (fun h' _=>RK h') fun l5 h9 f9 e9=>?_
       have s9:=s8.call1 f9 e9 (.tail (.tail .head))
       exact⟨n',by omega,_,0,_,true,rfl,rfl,rfl,s9,.inr ⟨rfl,rfl,hlp⟩⟩
     ·exact absurd hz (by simp)
    ·have hk0:k=0:=by omega
     subst hk0
     refine fin ?_
     rcases hcase with ⟨rfl,y,l3,rfl,hl3,hkm,hlp⟩|⟨rfl,_,hno⟩
     ·refine .inl ⟨rfl,y,rfl,?_⟩
      rw[hlp]
      cases n with
      | zero=>rw[eZ,hkm];simp
      | succ n=>rw[eZ,hkm];simp
     ·exact .inr ⟨rfl,hno⟩
   ·have s2:=s1.call1 f2 e2 (.tail .head)
    have hm2:hQ one (R+1) l=none:=by
     conv=>lhs;unfold hQ
     rw[hm]
    rw[hm2]at r
    refine aM s2 fun q2 h3 s3=>?_
    refine aN s3 bc hc ho2 .head fun h4 s4=>?_
    refine qu ?_
    refine LV (h':=h4) fun p t=>?_
    refine aK t ?_
    refine Gk ks hk2 hk3 (RK _) (s4.get (.tail _ (.tail _ (.head _)))) (fun h' _=>RK h') fun l5 h5 f5 e5=>?_
    have s5:=s4.call1 f5 e5 (.tail (.tail .head))
    refine aQ (fun n vs h'=>vs=[I 0]∧h'=h5) 0 ⟨rfl,rfl⟩ ?_
    rintro n vs h' ⟨rfl,rfl⟩
    unfold kU
    refine bU ?_
    refine ah (fun hb=>absurd hb (by simp)) (fun _=>?_)
    refine aL s5 hc (.head _) ?_
    refine aN s5 bc hc ho2 (.tail .head) fun h8 s8=>?_
    refine aL s8 hc (.tail _ (.head _)) ?_
    exact r.bad _ _ _ rfl s8.fr (s8.get (.tail _ (.tail _ (.head _)))) hc ho2
end
end
section
variable [Tabs]
theorem Y2:∀ (d D:Nat),D+d=12→Ai de [] D (CD d)
 | 0,D,h=>by
   have:D=12:=by omega
   subst this
   exact TP (fun l h Q i e r=>Ed _ l h Q i e r) (fun l h Q i e r=>Ed _ l h Q i e r)
 | d+1,D,h=>by
   have i1:=Y2 d (D+1) (by omega)
   have i2:Ai cK [I 0] (D+1) (hQ (CD d) 5):=Rt i1 (uM d) 5 (Nat.le_refl _)
   exact TP (JR (XR i2) (by omega)) (JR (XM i1) (by omega))
theorem YR (l:Str) {h:ae}{Q:QT}(k1:∀ x,hO l=some x→∀ h',Fr [] h h'→Q (.tup [.agg (br x),B true]) h') (k0:hO l=none→∀ h',Fr [] h h'→Q (.tup [.agg zE,B false]) h'):C tc [T l] h Q:=by
 refine Jo _ _ _ ?_
 unfold IL
 refine aM (St.start h) fun q h1 s1=>?_
 (repeat refine aD rfl ?_)
 refine bB s1 rfl fun i h2 s2=>?_
 have s2:St h [] h2 [(i,true,pO l 0 false),(q,true,.cells zE)]:=s2
 refine Rt (Y2 12 0 rfl) (uM 12) 5 (Nat.le_refl _) l h2 _ i (s2.get (.head _)) ⟨fun x l' h3 hm f3 e3=>?_,fun cs l' h3 hm f3 e3 hc ho=>?_⟩
 ·have s3:=s2.call1 f3 e3 .head
  refine aN s3 bc (aw _) (aV _) (.tail .head) fun h4 s4=>?_
  refine yS (s4.get (.head _)) fun h5 f5 e5=>?_
  have s5:=s4.call1 f5 e5 .head
  have hp:hO l=if blk l'=[] then some x else none:=by unfold hO;rw[hm]
  (repeat (first|refine au ?_|refine aj ?_|refine nD ?_|refine ag ‹_› (.head _) rfl ?_))
  refine ah (fun hb=>?_) (fun hb=>?_)
  ·rw[if_neg (by simpa using hb)]at hp
   (repeat refine aD rfl ?_)
   refine aN s5 (aw _) rfl rfl (.tail .head) fun h6 s6=>?_
   refine aL s6 rfl (.tail _ (.head _)) ?_
   exact k0 hp _ s6.fr
  ·rw[if_pos (by simpa using hb)]at hp
   refine aL s5 (aw _) (.tail _ (.head _)) ?_
   refine aN s5 (aw _) (aw _) (aV _) (.tail .head) fun h6 s6=>?_
   refine aL s6 (aw _) (.tail _ (.head _)) ?_
   exact k1 x hp _ s6.fr
 ·have s3:=s2.call1 f3 e3 .head
  refine aN s3 bc hc ho (.tail .head) fun h4 s4=>?_
  refine yS (s4.get (.head _)) fun h5 f5 e5=>?_
  have s5:=s4.call1 f5 e5 .head
  have hp:hO l=none:=by unfold hO;rw[hm]
  (repeat (first|refine au ?_|refine aj ?_|refine ag ‹_› (.head _) rfl ?_|refine aD rfl ?_))
  refine aN s5 hc rfl rfl (.tail .head) fun h6 s6=>?_
  refine aL s6 rfl (.tail _ (.head _)) ?_
  exact k0 hp _ s6.fr
def mostI:Int:=1099511627776
abbrev Ev:=Int×Int
def evV (e:Ev):AV:=.tup [I e.1,I e.2]
def iz (n:Int):Ev:=if n < -1099511627776∨1099511627776<n then (0,6) else (n,0)
section
variable {h:ae}{Q:QT}
theorem lc (n:Int) (k:Q (evV (iz n)) h):C cN [I n] h Q:=by
 refine Jg _ _ _ ?_
 unfold H3
 unfold iz at k
 (repeat refine aJ ?_)
 refine ah (fun h1=>?_) (fun h1=>?_)<;>simp only[za,zb,zc,zd,ze,zf,zg,zh,zi,u8i,zj,zk,zl]at h1
 ·rw[if_pos (.inl h1)]at k;exact k
 (repeat refine bD ?_)
 refine ah (fun h2=>?_) (fun h2=>?_)<;>simp only[za,zb,zc,zd,ze,zf,zg,zh,zi,u8i,zj,zk,zl]at h2
 ·rw[if_pos (.inr h2)]at k;exact k
 ·rw[if_neg (by omega)]at k;exact k
def Aw (a b:Int):Ev:=if a=0∨b=0 then (0,0) else if (mostI.tdiv (max b (-b)))<max a (-a) then (0,6) else iz (a*b)
theorem Qx (a b:Int) (ha:-1099511627776≤a∧a≤1099511627776) (hb:-1099511627776≤b∧b≤1099511627776) (k:Q (evV (Aw a b)) h):C oy [I a,I b] h Q:=by
 refine IX _ _ _ _ ?_
 unfold Hl
 unfold Aw mostI at k
 (repeat refine aA ?_)
 refine ah (fun h1=>?_) (fun h1=>?_)<;>simp only[za,zb,zc,zd,ze,zf,zg,zh,zi,u8i,zj,zk,zl]at h1
 ·rw[if_pos (.inl h1)]at k;exact k
 (repeat refine aA ?_)
 refine ah (fun h2=>?_) (fun h2=>?_)<;>simp only[za,zb,zc,zd,ze,zf,zg,zh,zi,u8i,zj,zk,zl]at h2
 ·rw[if_pos (.inr h2)]at k;exact k
 rw[if_neg (by omega)]at k
 refine aaH ?_
 refine Sj (by omega) ?_
 (repeat refine Ht ?_)
 refine Sj (by omega) ?_
 (repeat refine Ht ?_)
 have hm:1≤max b (-b):=by omega
 have hq0:0≤Int.tdiv 1099511627776 (max b (-b)):=Int.tdiv_nonneg (by omega) (by omega)
 have hq1:Int.tdiv 1099511627776 (max b (-b))≤1099511627776:=by
  rw[Int.tdiv_eq_ediv_of_nonneg (by omega)];exact Int.ediv_le_self _ (by omega)
 refine nY (by omega) (by omega) ?_
 refine bD ?_
 refine ah (fun h3=>?_) (fun h3=>?_)<;>simp only[za,zb,zc,zd,ze,zf,zg,zh,zi,u8i,zj,zk,zl]at h3
 ·rw[if_pos h3]at k;exact k
 ·rw[if_neg (by omega)]at k
  have hmul:max a (-a)*max b (-b)≤1099511627776:=by
   have h4:max a (-a)≤Int.tdiv 1099511627776 (max b (-b)):=by omega
   have h5:max a (-a)*max b (-b)≤Int.tdiv 1099511627776 (max b (-b))*max b (-b):=Int.mul_le_mul_of_nonneg_right h4 (by omega)
   rw[Int.tdiv_eq_ediv_of_nonneg (by omega)]at h5
   have h6:=Int.ediv_mul_le 1099511627776 (show max b (-b)≠0 by omega)
   omega
  have hab:-1099511627776≤a*b∧a*b≤1099511627776:=by
   have e1:(a*b).natAbs=(max a (-a)*max b (-b)).natAbs:=by
    rw[Int.natAbs_mul,Int.natAbs_mul]
    congr 1<;>omega
   have h7:0≤max a (-a)*max b (-b):=Int.mul_nonneg (by omega) (by omega)
   omega
  rw[tR (by omega)]
  refine lc _ ?_
  (repeat refine aG rfl ?_)
  exact k
def HU (kd:Nat) (a b:Int):Ev:=
 if kd=5 then iz (a+b) else if kd=6 then iz (a-b) else if kd=7 then Aw a b else if kd=8 then iz (Fz .i64 a b) else if kd=9 then iz (orI .i64 a b)
 else if b<0∨40<b then (0,6) else if kd=11 then iz (Mh .i64 a b.toNat) else Aw a (2^b.toNat)
theorem aa5 (kd:Nat) (a b:Int) (ha:-1099511627776≤a∧a≤1099511627776) (hb:-1099511627776≤b∧b≤1099511627776) (k:Q (evV (HU kd a b)) h):C vH [I (kd:Nat),I a,I b] h Q:=by
 refine Nh _ _ _ _ _ ?_
 unfold K6
 unfold HU at k
 (repeat refine aA ?_)
 refine ah (fun h5=>?_) (fun h5=>?_)<;>simp only[za,zb,zc,zd,ze,zf,zg,zh,zi,u8i,zj,zk,zl]at h5
 ·rw[if_pos (by omega)]at k
  (repeat refine aI (by omega) ?_)
  refine lc _ ?_
  (repeat refine aG rfl ?_);exact k
 rw[if_neg (by omega)]at k
 (repeat refine aA ?_)
 refine ah (fun h6=>?_) (fun h6=>?_)<;>simp only[za,zb,zc,zd,ze,zf,zg,zh,zi,u8i,zj,zk,zl]at h6
 ·rw[if_pos (by omega)]at k
  (repeat refine cD (by omega) ?_)
  refine lc _ ?_
  (repeat refine aG rfl ?_);exact k
 rw[if_neg (by omega)]at k
 (repeat refine aA ?_)
 refine ah (fun h7=>?_) (fun h7=>?_)<;>simp only[za,zb,zc,zd,ze,zf,zg,zh,zi,u8i,zj,zk,zl]at h7
 ·rw[if_pos (by omega)]at k
  refine Qx a b ha hb ?_
  (repeat refine aG rfl ?_);exact k
 rw[if_neg (by omega)]at k
 (repeat refine aA ?_)
 refine ah (fun h8=>?_) (fun h8=>?_)<;>simp only[za,zb,zc,zd,ze,zf,zg,zh,zi,u8i,zj,zk,zl]at h8
 ·rw[if_pos (by omega)]at k
  refine pV ?_
  refine lc _ ?_
  (repeat refine aG rfl ?_);exact k
 rw[if_neg (by omega)]at k
 (repeat refine aA ?_)
 refine ah (fun h9=>?_) (fun h9=>?_)<;>simp only[za,zb,zc,zd,ze,zf,zg,zh,zi,u8i,zj,zk,zl]at h9
 ·rw[if_pos (by omega)]at k
  refine u0 ?_
  refine lc _ ?_
  (repeat refine aG rfl ?_);exact k
 rw[if_neg (by omega)]at k
 (repeat refine aJ ?_)
 refine ah (fun hn=>?_) (fun hn=>?_)<;>simp only[za,zb,zc,zd,ze,zf,zg,zh,zi,u8i,zj,zk,zl]at hn
 ·rw[if_pos (.inl hn)]at k;exact k
 (repeat refine bD ?_)
 refine ah (fun hg=>?_) (fun hg=>?_)<;>simp only[za,zb,zc,zd,ze,zf,zg,zh,zi,u8i,zj,zk,zl]at hg
 ·rw[if_pos (.inr hg)]at k;exact k
 rw[if_neg (by omega)]at k
 (repeat refine aA ?_)
 refine ah (fun h11=>?_) (fun h11=>?_)<;>simp only[za,zb,zc,zd,ze,zf,zg,zh,zi,u8i,zj,zk,zl]at h11
 ·rw[if_pos (by omega)]at k
  refine ym (by omega) ?_
  refine lc _ ?_
  (repeat refine aG rfl ?_);exact k
 ·rw[if_neg (by omega)]at k
  refine kP (by omega) ?_
  obtain⟨n,rfl⟩:∃ n:Nat,b=n:=⟨b.toNat,by omega⟩
  have hn40:n≤40:=by omega
  have hp:2^n≤2^40:=Nat.pow_le_pow_right (by omega) hn40
  have hpi:((2:Int)^n)=((2^n:Nat):Int):=by simp
  have hp0:0<2^n:=Nat.two_pow_pos n
  have e1:min (n:Int).toNat IntKind.i64.bits=n:=by
   show min (n:Int).toNat 64=n
   omega
  rw[e1,Int.one_mul,tR (by rw[hpi];omega)]
  rw[Int.toNat_natCast]at k
  refine Qx a _ ha (by rw[hpi];omega) ?_
  (repeat refine aG rfl ?_);exact k
abbrev Sy:=Str×Int
def syE (y:Sy):List AV:=[T y.1,I y.2]
def je (here:Int) (syms:List Sy):Ex→Ev
 | .none=>(0,6)
 | .num n=>iz n
 | .name s=>match syms.find? fun y=>decide (y.1=s) with
   | some y=>iz y.2
   | none=>(0,4)
 | .here=>iz here
 | .neg e=>if (je here syms e).2≠0 then (0,(je here syms e).2) else iz (-(je here syms e).1)
 | .bin k a b=>if (je here syms a).2≠0 then (0,(je here syms a).2) else if (je here syms b).2≠0 then (0,(je here syms b).2) else HU k (je here syms a).1 (je here syms b).1
theorem iT (n:Int):-1099511627776≤(iz n).1∧(iz n).1≤1099511627776:=by unfold iz;split<;>simp<;>omega
theorem Va (a b:Int):-1099511627776≤(Aw a b).1∧(Aw a b).1≤1099511627776:=by
 unfold Aw;split
 ·simp
 ·split
  ·simp
  ·exact iT _
theorem NR (k:Nat) (a b:Int):-1099511627776≤(HU k a b).1∧(HU k a b).1≤1099511627776:=by
 unfold HU
 repeat' split
 all_goals first|exact iT _|exact Va _ _|simp
theorem Gx (here:Int) (syms:List Sy):∀ e:Ex,-1099511627776≤(je here syms e).1∧(je here syms e).1≤1099511627776
 | .none=>by simp[je]
 | .num n=>iT _
 | .name s=>by
   unfold je;split
   ·exact iT _
   ·simp
 | .here=>iT _
 | .neg e=>by
   unfold je;split
   ·simp
   ·exact iT _
 | .bin k a b=>by
   unfold je;split
   ·simp
   ·split
    ·simp
    ·exact NR _ _ _
def okE:Ex→Prop
 | .neg e=>okE e
 | .bin k a b=>(5≤k∧k≤11)∧okE a∧okE b
 | _=>True
theorem Rj {α:Type}(p:α→Bool):∀ l:List α,(ga p l=-1∧l.find? p=none)∨∃ (i:Nat) (hi:i<l.length),ga p l=(i:Nat)∧l.find? p=some l[i]:=fun l=>by
 unfold ga
 cases h:l.findIdx? p with
 | none=>
   rw[List.findIdx?_eq_none_iff]at h
   exact .inl ⟨rfl,by rw[List.find?_eq_none];intro x hx;simp[h x hx]⟩
 | some i=>
   rw[List.findIdx?_eq_some_iff_getElem]at h
   obtain⟨hi,hp,hn⟩:=h
   refine .inr ⟨i,hi,rfl,?_⟩
   rw[List.find?_eq_some_iff_getElem]
   exact⟨hp,i,hi,rfl,fun j hj=>by simpa using hn j hj⟩
theorem F0 (here:Int) (syms:List Sy) (hl:syms.length<1000000):∀ (e:Ex),okE e→∀ (h:ae) (Q:QT) {v:AV},Row syE 2 h v syms→(∀ h',Fr [] h h'→Q (evV (je here syms e)) h')→C mX [.agg (br e),I here,v] h Q
 | .none,hk,h,Q,v,r,k=>by
   refine kx _ _ _ _ _ ?_
   unfold nX
   refine bB (St.start h) rfl fun i h1 s1=>?_
   have s1:St h [] h1 [(i,true,.cells (br .none))]:=s1
   (repeat (first|refine aj ?_|refine ef ?_|refine aA ?_|refine ag ‹_› (.head _) rfl ?_))
   exact k _ s1.fr
 | .num n,hk,h,Q,v,r,k=>by
   refine kx _ _ _ _ _ ?_
   unfold nX
   refine bB (St.start h) rfl fun i h1 s1=>?_
   have s1:St h [] h1 [(i,true,.cells (br (.num n)))]:=s1
   (repeat (first|refine aj ?_|refine aA ?_|refine ag ‹_› (.head _) rfl ?_))
   refine lc _ ?_
   (repeat refine aG rfl ?_)
   exact k _ s1.fr
 | .here,hk,h,Q,v,r,k=>by
   refine kx _ _ _ _ _ ?_
   unfold nX
   refine bB (St.start h) rfl fun i h1 s1=>?_
   have s1:St h [] h1 [(i,true,.cells (br .here))]:=s1
   (repeat (first|refine aj ?_|refine aA ?_|refine ag ‹_› (.head _) rfl ?_))
   refine lc _ ?_
   (repeat refine aG rfl ?_)
   exact k _ s1.fr
 | .name s,hk,h,Q,v,r,k=>by
   refine kx _ _ _ _ _ ?_
   unfold nX
   refine bB (St.start h) rfl fun i h1 s1=>?_
   have s1:St h [] h1 [(i,true,.cells (br (.name s)))]:=s1
   (repeat (first|refine aj ?_|refine aA ?_|refine ag ‹_› (.head _) rfl ?_))
   refine xc (enc:=syE) (fun _=>rfl) _ (fun y=>decide (y.1=s)) syms (by omega) (r.fr s1.fr) (fun x hx h2 Q f2 kq=>?_) fun h2 f2=>?_
   ·show ACall Pg qV _ _ _
    refine HJ _ _ _ _ ?_
    unfold Ec
    have s2:=St.startr (f2.get (s1.get (.head _)) (by simp))
    refine bB s2 rfl fun j h3 s3=>?_
    (repeat (first|refine aj ?_|refine aU ?_|refine ag ‹_› (by first|exact .head _|exact .tail _ (.head _)) rfl ?_))
    exact kq _ s3.fr
   ·have s2:=s1.call f2
    unfold je at k
    rcases Rj (fun y:Sy=>decide (y.1=s)) syms with ⟨e1,e2⟩|⟨j,hj,e1,e2⟩
    ·rw[e1]
     rw[e2]at k
     (repeat refine aJ ?_)
     exact k _ s2.fr
    ·rw[e1]
     rw[e2]at k
     (repeat refine aJ ?_)
     refine (r.fr s2.fr).idx (fun _=>rfl) hj fun p t=>?_
     refine x5 t (nle rfl) fun q t2=>?_
     refine aK t2 ?_
     refine lc _ ?_
     (repeat refine aG rfl ?_)
     exact k _ s2.fr
 | .neg e,hk,h,Q,v,r,k=>by
   refine kx _ _ _ _ _ ?_
   unfold nX
   refine bB (St.start h) rfl fun i h1 s1=>?_
   have s1:St h [] h1 [(i,true,.cells (br (.neg e)))]:=s1
   (repeat (first|refine aj ?_|refine ef ?_|refine aA ?_|refine ag ‹_› (.head _) rfl ?_))
   have R1:∀ h,Row br 4 h (.full 1 (br e)) [e]:=fun h=>by
    have:=Row.full (h:=h) (enc:=br) aw [e]
    simpa using this
   refine (R1 h1).idx aw (j:=0) (by simp) fun p t=>?_
   refine bq t (aw e).symm ?_
   refine F0 here syms hl e hk h1 _ (r.fr s1.fr) fun h2 f2=>?_
   have s2:=s1.call f2
   have hin:=Gx here syms e
   unfold je at k
   (repeat (first|refine aG rfl ?_|refine bU ?_))
   refine ah (fun h1=>?_) (fun h1=>?_)<;>simp only[za,zb,zc,zd,ze,zf,zg,zh,zi,u8i,zj,zk,zl]at h1
   ·rw[if_pos h1]at k
    exact k _ s2.fr
   ·rw[if_neg (by omega)]at k
    (repeat (first|refine aj ?_|refine ef ?_|refine aA ?_|refine ag ‹_› (.head _) rfl ?_))
    refine Sj (by simp[evV];omega) ?_
    refine lc _ ?_
    (repeat refine aG rfl ?_)
    exact k _ s2.fr
 | .bin kd a b,hk,h,Q,v,r,k=>by
   obtain⟨hkd,hka,hkb⟩:=hk
   refine kx _ _ _ _ _ ?_
   unfold nX
   refine bB (St.start h) rfl fun i h1 s1=>?_
   have s1:St h [] h1 [(i,true,.cells (br (.bin kd a b)))]:=s1
   have R2:∀ h,Row br 4 h (.full 2 (br a++br b)) [a,b]:=fun h=>by
    have:=Row.full (h:=h) (enc:=br) aw [a,b]
    simpa using this
   (repeat (first|refine aj ?_|refine aA ?_|refine ag ‹_› (.head _) rfl ?_))
   refine ah (fun hb=>absurd hb (by simp;omega)) (fun _=>?_)
   (repeat (first|refine aj ?_|refine aA ?_|refine ag ‹_› (.head _) rfl ?_))
   refine ah (fun hb=>absurd hb (by simp;omega)) (fun _=>?_)
   (repeat (first|refine aj ?_|refine aA ?_|refine ag ‹_› (.head _) rfl ?_))
   refine ah (fun hb=>absurd hb (by simp;omega)) (fun _=>?_)
   (repeat (first|refine aj ?_|refine ef ?_|refine aA ?_|refine ag ‹_› (.head _) rfl ?_))
   refine (R2 h1).idx aw (j:=0) (by simp) fun p t=>?_
   refine bq t (aw a).symm ?_
   refine F0 here syms hl a hka h1 _ (r.fr s1.fr) fun h2 f2=>?_
   have s2:=s1.call f2
   have hin:=Gx here syms a
   have hin2:=Gx here syms b
   unfold je at k
   (repeat (first|refine aG rfl ?_|refine bU ?_))
   refine ah (fun ha=>?_) (fun ha=>?_)<;>simp only[za,zb,zc,zd,ze,zf,zg,zh,zi,u8i,zj,zk,zl]at ha
   ·rw[if_pos ha]at k
    exact k _ s2.fr
   rw[if_neg (by omega)]at k
   (repeat (first|refine aj ?_|refine ef ?_|refine aA ?_|refine ag ‹_› (.head _) rfl ?_))
   refine (R2 h2).idx aw (j:=1) (by simp) fun p t=>?_
   refine bq t (aw b).symm ?_
   refine F0 here syms hl b hkb h2 _ (r.fr s2.fr) fun h3 f3=>?_
   have s3:=s2.call f3
   (repeat (first|refine aG rfl ?_|refine bU ?_))
   refine ah (fun hb=>?_) (fun hb=>?_)<;>simp only[za,zb,zc,zd,ze,zf,zg,zh,zi,u8i,zj,zk,zl]at hb
   ·rw[if_pos hb]at k
    exact k _ s3.fr
   rw[if_neg (by omega)]at k
   (repeat (first|refine aj ?_|refine ag ‹_› (.head _) rfl ?_))
   refine aa5 kd _ _ hin hin2 ?_
   (repeat refine aG rfl ?_)
   exact k _ s3.fr
end
end
section
variable [Tabs]
def wr (out:List Str) (n:Str):List Str:=if out.any (fun y=>decide (n=y))=true then out else out++[n]
def cb:Ex→List Str
 | .name s=>[s]
 | .neg e=>(cb e).foldl wr []
 | .bin _ a b=>(cb b).foldl wr ((cb a).foldl wr [])
 | _=>[]
def bo:Ex→Nat
 | .neg e=>1+bo e
 | .bin _ a b=>1+bo a+bo b
 | _=>1
theorem Xb (out:List Str) (n:Str):(wr out n).length≤out.length+1:=by unfold wr;split<;>simp
theorem yL:∀ (l out:List Str),(l.foldl wr out).length≤out.length+l.length
 | [],out=>by simp
 | n::l,out=>by
   have h1:=yL l (wr out n)
   have h2:=Xb out n
   simp only[List.foldl_cons,List.length_cons];omega
theorem lC:∀ e:Ex,(cb e).length≤bo e
 | .none=>by simp[cb]
 | .num _=>by simp[cb]
 | .here=>by simp[cb]
 | .name _=>by simp[cb,bo]
 | .neg e=>by
   have h1:=yL (cb e) []
   have h2:=lC e
   simp only[cb,bo,List.length_nil]at *;omega
 | .bin k a b=>by
   have h1:=yL (cb a) []
   have h2:=yL (cb b) ((cb a).foldl wr [])
   have h3:=lC a
   have h4:=lC b
   simp only[cb,bo,List.length_nil]at *;omega
def dZ:Ex→List Ex
 | .neg e=>[e]
 | .bin _ a b=>[a,b]
 | _=>[]
def VV:Ex→List Str
 | .name s=>[s]
 | _=>[]
theorem Wt (e:Ex):cb e=(dZ e).foldl (fun out c=>(cb c).foldl wr out) (VV e):=by cases e<;>rfl
theorem Cr {e c:Ex}(h:c∈dZ e):bo c<bo e:=by
 cases e<;>simp[dZ]at h
 ·subst h;simp[bo]
 ·rcases h with rfl|rfl<;>simp[bo]<;>omega
theorem Gj {e c:Ex}(hk:okE e) (h:c∈dZ e):okE c:=by
 cases e<;>simp[dZ]at h
 ·subst h;exact hk
 ·rcases h with rfl|rfl
  ·exact hk.2.1
  ·exact hk.2.2
abbrev sE:Str→List AV:=fun x=>[T x]
theorem IH (e:Ex) (h:ae):Row br 4 h ((br e)[3]'(by rw[aw];omega)) (dZ e):=by
 cases e with
 | none=>exact .nil
 | num n=>exact .nil
 | name s=>exact .nil
 | here=>exact .nil
 | neg e=>simpa [br,dZ] using Row.full (h:=h) (enc:=br) aw [e]
 | bin k a b=>simpa [br,dZ] using Row.full (h:=h) (enc:=br) aw [a,b]
theorem GH:∀ (n:Nat) (e:Ex),okE e→bo e≤n→n<100000000→∀ (h:ae) (Q:QT),(∀ h',Fr [] h h'→Q (.snap (cb e).length ((cb e).flatMap sE)) h')→C lf [.agg (br e)] h Q
 | 0,e,_,hn,_,h,Q,k=>by cases e<;>simp[bo]at hn
 | n+1,e,hok,hn,hn2,h,Q,k=>by
   refine Jx _ _ _ ?_
   unfold GI
   refine bB (St.start h) rfl fun i h1 s1=>?_
   have s1:St h [] h1 [(i,true,.cells (br e))]:=s1
   have RC:=IH e
   have rest:∀ (v:AV) (E:Own) (h2:ae),AccE 1 v (VV e).length ((VV e).flatMap sE) E→St h [] h2 (E++[(i,true,.cells (br e))])→mS v (.ptr i 0) h2 Q:=by
    intro v E h2 a s2
    unfold mS
    (repeat refine aj ?_)
    refine ag (a.rest s2) (.head _) (List.getElem?_eq_getElem (by rw[aw];decide)) ?_
    refine (RC h2).len ?_
    refine aQ (fun m vs h'=>∃ (j:Nat) (v:AV) (out:List Str) (E:Own),vs=[v,I (j:Nat)]∧m+j=(dZ e).length∧AccE 1 v out.length (out.flatMap sE) E∧St h [] h' (E++[(i,true,.cells (br e))])∧
     out=((dZ e).take j).foldl (fun out c=>(cb c).foldl wr out) (VV e)∧out.length≤1+j*n) (dZ e).length ⟨0,v,VV e,E,rfl,by omega,a,s2,rfl,by cases e<;>simp[VV]⟩ ?_
    rintro m vs h3 ⟨j,v,out,E,rfl,hm,a,s3,hout,hol⟩
    unfold xm
    (repeat refine aJ ?_)
    have hcl:(dZ e).length≤2:=by cases e<;>simp[dZ]
    refine ah (fun hb=>?_) (fun hb=>?_)<;>simp only[za,zb,zc,zd,ze,zf,zg,zh,zi,u8i,zj,zk,zl]at hb
    ·have hj:j<(dZ e).length:=hb
     have hc:=Cr (List.getElem_mem hj)
     refine (RC h3).idx aw hj fun p t=>?_
     refine bq t (aw _).symm ?_
     refine aM s3 fun q h4 s4=>?_
     refine aN s4 rfl (aw _) (aV _) .head fun h5 s5=>?_
     refine aL s5 (aw _) (.head _) ?_
     refine GH n (dZ e)[j] (Gj hok (List.getElem_mem hj)) (by omega) (by omega) h5 _ fun h6 f6=>?_
     have s6:=(s5.call f6).drop1
     have hnl:=lC (dZ e)[j]
     (repeat refine cz ?_)
     have RN6:∀ h,Row sE 1 h (.snap (cb (dZ e)[j]).length ((cb (dZ e)[j]).flatMap sE)) (cb (dZ e)[j]):=fun h=>Row.snap (enc:=sE) (fun _=>rfl) _
     generalize hns:cb (dZ e)[j]=ns at RN6 hnl ⊢
     have hb2:j*n≤2*n:=Nat.mul_le_mul_right _ (by omega)
     refine aQ (fun m2 vs h'=>∃ (q:Nat) (v:AV) (o:List Str) (E:Own),vs=[v,I (q:Nat)]∧m2+q=ns.length∧AccE 1 v o.length (o.flatMap sE) E∧St h [] h' (E++[(i,true,.cells (br e))])∧
      o=(ns.take q).foldl wr out∧o.length≤out.length+q) ns.length ⟨0,v,out,E,rfl,by omega,a,s6,rfl,by omega⟩ ?_
     rintro m2 vs h7 ⟨q2,v2,o,E2,rfl,hm2,a2,s7,ho,hoo⟩
     unfold yz
     (repeat refine aJ ?_)
     refine ah (fun hb3=>?_) (fun hb3=>?_)<;>simp only[za,zb,zc,zd,ze,zf,zg,zh,zi,u8i,zj,zk,zl]at hb3
     ·have hq:q2<ns.length:=hb3
      refine (RN6 h7).idx (fun _=>rfl) hq fun p t=>?_
      refine aK t ?_
      have RO:Row sE 1 h7 v2 o:=a2.rd s7
      refine Al ns[q2] o (by omega) RO ?_
      have hnext:(ns.take (q2+1)).foldl wr out=wr o ns[q2]:=by
       rw[List.take_succ_eq_append_getElem hq,List.foldl_append,← ho];rfl
      refine bm ?_
      cases hc2:o.any fun y=>decide (ns[q2]=y) with
      | true=>
        refine ah (fun h=>by cases h) (fun _=>?_)
        unfold m6 ti
        refine aI (by omega) ?_
        refine⟨m2-1,by omega,q2+1,v2,o,E2,rfl,by omega,a2,s7,?_,by omega⟩
        rw[hnext,wr,if_pos hc2]
      | false=>
        refine ah (fun _=>?_) (fun h=>by cases h)
        refine aB rfl rfl ?_
        refine a2.app s7 (xs:=[T ns[q2]]) (m:=1) (Rd.full rfl) rfl (by omega) fun v3 E3 h8 a3 s8=>?_
        unfold m6 ti
        refine aI (by omega) ?_
        refine⟨m2-1,by omega,q2+1,v3,o++[ns[q2]],E3,rfl,by omega,by simpa using a3,s8,?_,by simp;omega⟩
        rw[hnext,wr,if_neg (by simp[hc2])]
     ·have hq:ns.length≤q2:=by omega
      rw[List.take_of_length_le hq]at ho
      refine aI (by omega) ?_
      have hj1:(j+1)*n=j*n+n:=by rw[Nat.add_mul];omega
      refine⟨m-1,by omega,j+1,v2,o,E2,rfl,by omega,a2,s7,?_,by omega⟩
      rw[List.take_succ_eq_append_getElem hj,List.foldl_append,← hout,ho,← hns];rfl
    ·have hj:(dZ e).length≤j:=by omega
     rw[List.take_of_length_le hj,← Wt]at hout
     have hnl:=lC e
     have hol2:out.length=(cb e).length:=by rw[hout]
     refine Fy (by omega) (a.rd s3) fun h4 f4=>?_
     rw[hout]
     exact k h4 (s3.call f4).fr
   cases e with
   | name s=>
     (repeat (first|refine aj ?_|refine aA ?_|refine ag ‹_› (.head _) rfl ?_|refine aB rfl rfl ?_))
     refine oz s1 (Rd.full (n:=1) (cs:=[T s]) rfl) (by decide) (fun h=>by omega) fun j h2 _ s2=>?_
     exact rest _ [(j,true,.cells [T s])] h2 (.inr ⟨rfl,j,rfl,rfl⟩) s2
   | none=>
     refine aj (ag s1 (.head _) rfl (aA (ah (fun h=>absurd h (by decide)) (fun _=>?_))))
     exact rest _ [] _ (.none _) s1
   | num n=>
     refine aj (ag s1 (.head _) rfl (aA (ah (fun h=>absurd h (by decide)) (fun _=>?_))))
     exact rest _ [] _ (.none _) s1
   | here=>
     refine aj (ag s1 (.head _) rfl (aA (ah (fun h=>absurd h (by decide)) (fun _=>?_))))
     exact rest _ [] _ (.none _) s1
   | neg e=>
     refine aj (ag s1 (.head _) rfl (aA (ah (fun h=>absurd h (by decide)) (fun _=>?_))))
     exact rest _ [] _ (.none _) s1
   | bin k a b=>
     have hk2:=hok.1
     refine aj (ag s1 (.head _) rfl (aA (ah (fun h=>absurd h (by simp;omega)) (fun _=>?_))))
     exact rest _ [] _ (.none _) s1
end
section
variable [Tabs]
def Hp (fv:AV) (p:UInt8→Bool):Prop:=∀ (c:UInt8) (h:ae) (Q:QT),Q (B (p c)) h→CV fv [U8 c] h Q
section
variable {h:ae}{Q:QT}
def da (p:UInt8→Bool) (l:Str):Nat:=(l.takeWhile p).length
theorem Lk (p:UInt8→Bool) (l:Str):da p l≤l.length:=(List.takeWhile_sublist _).length_le
theorem K3 {p:UInt8→Bool}{l:Str}:da p l=l.length↔l.all p=true:=by
 unfold da
 constructor
 ·intro h
  have:l.takeWhile p=l:=(List.takeWhile_sublist p).eq_of_length h
  rw[List.all_eq_true]
  exact takeWhile_self.1 this
 ·intro h
  rw[List.all_eq_true]at h
  rw[takeWhile_self.2 h]
theorem uy {fv:AV}{p:UInt8→Bool}(ht:Hp fv p) (l:Str) (hl:l.length<4611686018427387904) (k:Q (I (da p l:Nat)) h):C fa [T l,fv] h Q:=by
 refine Jf _ _ _ _ ?_
 unfold H7
 refine aQ (fun n vs h'=>h'=h∧∃ i:Nat,vs=[I (i:Nat)]∧n+i=l.length∧∀ j (hj:j<l.length),j<i→p l[j]=true) l.length ⟨rfl,0,rfl,by omega,fun j _ hj=>by omega⟩ ?_
 rintro n vs h' ⟨rfl,i,rfl,hn,ha⟩
 unfold zJ
 (repeat (first|refine aZ ?_|refine aJ ?_))
 refine ah (fun hb=>?_) (fun hb=>?_)<;>simp only[za,zb,zc,zd,ze,zf,zg,zh,zi,u8i,zj,zk,zl]at hb
 ·have hi:i<l.length:=hb
  refine bR hi ?_
  refine ht l[i] _ _ ?_
  cases hp:p l[i] with
  | true=>
    refine ah (fun _=>?_) (fun h=>by cases h)
    (repeat refine aI (by omega) ?_)
    refine⟨n-1,by omega,rfl,i+1,rfl,by omega,fun j hj hj2=>?_⟩
    rcases Nat.lt_or_eq_of_le (Nat.le_of_lt_succ hj2) with h1|h1
    ·exact ha j hj h1
    ·subst h1;exact hp
  | false=>
    refine ah (fun h=>by cases h) (fun _=>?_)
    have:da p l=i:=by
     unfold da
     rw[sJ hi (fun j hj=>ha j (by omega) hj) hp];simp;omega
    rw[this]at k;exact k
 ·have:da p l=i:=by
   unfold da
   rw[zN fun j hj=>ha j hj (by omega)];omega
  rw[this]at k;exact k
abbrev sP (c:UInt8):Bool:=bu c.toNat
abbrev fL (c:UInt8):Bool:=dp c.toNat
theorem D7 (c:UInt8) (k:Q (B (sP c)) h):C d9 [U8 c] h Q:=by
 refine Js _ _ _ ?_
 unfold F9
 have e1:decide ((48:Int)≤c.toNat)=decide (48≤c.toNat):=wl (a:=48)
 have e2:decide ((c.toNat:Int)≤57)=decide (c.toNat≤57):=wl (b:=57)
 unfold sP bu at k
 refine bz ?_
 rw[e1]
 cases h1:decide (48≤c.toNat) with
 | true=>
   refine ah (fun _=>?_) (fun h=>by cases h)
   refine fK ?_
   rw[h1,Bool.true_and]at k
   rw[e2];exact k
 | false=>
   refine ah (fun h=>by cases h) (fun _=>?_)
   rw[h1,Bool.false_and]at k;exact k
theorem Wz (c:UInt8) (k:Q (B (fL c)) h):C lm [U8 c] h Q:=by
 refine Jh _ _ _ ?_
 unfold GM
 have e1:decide ((97:Int)≤c.toNat)=decide (97≤c.toNat):=wl (a:=97)
 have e2:decide ((c.toNat:Int)≤122)=decide (c.toNat≤122):=wl (b:=122)
 have e3:decide ((c.toNat:Int)=95)=decide (c.toNat=95):=acu (b:=95)
 unfold fL dp xV at k
 have tail:∀ (h':h=h),(Q (B (decide (c.toNat=95)||bu c.toNat)) h)→ai .eql (U8 c) (.lit (.int .u8 95)) fun t11=>ifB t11 (Q (B true) h) (C d9 [U8 c] h fun t15 h0=>Q t15 h0):=by
  intro _ k
  refine aA ?_
  rw[e3]
  cases h3:decide (c.toNat=95) with
  | true=>
    refine ah (fun _=>?_) (fun h=>by cases h)
    rw[h3,Bool.true_or]at k;exact k
  | false=>
    refine ah (fun h=>by cases h) (fun _=>?_)
    rw[h3,Bool.false_or]at k
    exact D7 c k
 refine bz ?_
 rw[e1]
 cases h1:decide (97≤c.toNat) with
 | true=>
   refine ah (fun _=>?_) (fun h=>by cases h)
   rw[h1,Bool.true_and]at k
   refine fK ?_
   rw[e2]
   cases h2:decide (c.toNat≤122) with
   | true=>
     refine ah (fun _=>?_) (fun h=>by cases h)
     rw[h2,Bool.true_or,Bool.true_or]at k;exact k
   | false=>
     refine ah (fun h=>by cases h) (fun _=>?_)
     rw[h2,Bool.false_or]at k
     exact tail rfl k
 | false=>
   refine ah (fun h=>by cases h) (fun _=>?_)
   rw[h1,Bool.false_and,Bool.false_or]at k
   exact tail rfl k
theorem Yn:Hp (.fn (.func lm) [] []) fL:=fun c h Q k=>Wz c k
theorem YD:Hp (.fn (.func d9) [] []) sP:=fun c h Q k=>D7 c k
theorem AK {p:UInt8→Bool}{l:Str}:decide (((da p l:Nat):Int)≠((l.length:Nat):Int))=!(l.all p):=by
 rw[Bool.eq_iff_iff,decide_eq_true_eq,Bool.not_eq_true',← Bool.not_eq_true,← K3];omega
theorem MN (s:Str) (hs:s.length<4611686018427387904) (k:Q (B (eH s)) h):C m3 [T s] h Q:=by
 refine M7 _ _ _ ?_
 unfold KU
 cases s with
 | nil=>(repeat refine aU ?_);exact k
 | cons c t=>
 dsimp only[eH]at k
 (repeat (first|refine aZ ?_|refine bD ?_|refine aU ?_))
 refine ah (fun hl=>?_) (fun hl=>?_)<;>simp only[za,zb,zc,zd,ze,zf,zg,zh,zi,u8i,zj,zk,zl]at hl
 ·have e:decide ((c::t).length≤12)=false:=by simp at hl ⊢;omega
  rw[e,Bool.false_and]at k
  exact k
 have e:decide ((c::t).length≤12)=true:=by simp at hl ⊢;omega
 rw[e,Bool.true_and]at k
 refine gV (by omega) (by simp) ?_
 refine D7 c ?_
 cases h2:sP c with
 | true=>
   refine ah (fun _=>?_) (fun h=>by cases h)
   rw[show bu c.toNat=true from h2]at k
   exact k
 | false=>
 refine ah (fun h=>by cases h) (fun _=>?_)
 rw[show bu c.toNat=false from h2]at k
 simp only[Bool.not_false,Bool.true_and]at k
 refine uy Yn _ hs ?_
 refine aZ ?_
 refine bU ?_
 rw[AK]
 cases h3:(c::t).all fL with
 | false=>
   refine ah (fun _=>?_) (fun h=>by cases h)
   rw[show ((c::t).all fun c=>dp c.toNat)=false from h3,Bool.false_and]at k
   exact k
 | true=>
 refine ah (fun h=>by cases h) (fun _=>?_)
 rw[show ((c::t).all fun c=>dp c.toNat)=true from h3,Bool.true_and]at k
 refine gV (by omega) (by simp) ?_
 refine bU ?_
 have e4:decide ((((c::t)[Int.toNat 0].toNat:Nat):Int)≠114)=decide (c≠114):=by
  rw[Bool.eq_iff_iff];simp[← UInt8.toNat_inj];omega
 rw[e4]
 cases h4:decide (c≠114) with
 | true=>
   refine ah (fun _=>?_) (fun h=>by cases h)
   rw[h4,Bool.true_or]at k
   exact k
 | false=>
 refine ah (fun h=>by cases h) (fun _=>?_)
 rw[h4,Bool.false_or]at k
 (repeat (first|refine aZ ?_|refine aA ?_))
 cases t with
 | nil=>refine ah (fun _=>?_) (fun hb=>(by exfalso;first|(simp at hb;done)|(simp at hb;omega)|(revert hb;decide)|omega));exact k
 | cons d t=>
 refine ah (fun h=>by simp at h;omega) (fun _=>?_)
 refine iw (by omega) (by simp;omega) ?_
 rw[show ((c::d::t).drop (Int.toNat 1))=d::t from rfl]
 refine uy YD (d::t) (by simp at hs ⊢;omega) ?_
 refine aZ ?_
 refine cD (by simp at hs ⊢;omega) ?_
 refine bU ?_
 rw[show (((c::d::t).length:Nat):Int)-1=(((d::t).length:Nat):Int) by simp,AK]
 exact k
def ju:Prop:=∀ (s:Str),1≤s.length→s.length≤2→s.all sP=true→∀ (h:ae) (Q:QT),Q (.tup [I (s.foldl (fun n c=>n*10+(c.toNat-48)) 0:Nat),.lit .nilIface]) h→C eI [T s] h Q
def abn (s:Str):Nat:=s.foldl (fun n c=>n*10+(c.toNat-48)) 0
def y3 (s:Str):Nat×Bool:=match s with
 | c::t=>if decide (c=114)&&(decide (t.length=1∨t.length=2)&&(t.all sP&&!(decide (t.length=2)&&decide (t.head?=some 48)))) then (abn t,decide (abn t<32)) else (0,false)
 | []=>(0,false)
theorem QD (hA:ju) (s:Str) (hs:s.length<4611686018427387904) (k:Q (.tup [I ((y3 s).1:Nat),B (y3 s).2]) h):C nH [T s] h Q:=by
 refine D6 _ _ _ ?_
 unfold Ag
 (repeat (first|refine aZ ?_|refine aJ ?_))
 cases s with
 | nil=>refine ah (fun _=>?_) (fun hb=>(by exfalso;first|(simp at hb;done)|(simp at hb;omega)|(revert hb;decide)|omega));exact k
 | cons c t=>
 dsimp only[y3]at k
 refine ah (fun h1=>?_) (fun h1=>?_)<;>simp only[za,zb,zc,zd,ze,zf,zg,zh,zi,u8i,zj,zk,zl]at h1
 ·have:t.length=0:=by simp at h1;omega
  rw[if_neg (by simp;omega)]at k
  exact k
 (repeat (first|refine aZ ?_|refine bD ?_))
 refine ah (fun h2=>?_) (fun h2=>?_)<;>simp only[za,zb,zc,zd,ze,zf,zg,zh,zi,u8i,zj,zk,zl]at h2
 ·rw[if_neg (by simp at h2 ⊢;omega)]at k
  exact k
 have ht:t.length=1∨t.length=2:=by simp at h1 h2;omega
 refine gV (by omega) (by simp) ?_
 (repeat refine bU ?_)
 have e4:decide ((((c::t)[Int.toNat 0].toNat:Nat):Int)≠114)=decide (c≠114):=by
  rw[Bool.eq_iff_iff];simp[← UInt8.toNat_inj];omega
 rw[e4]
 refine ah (fun h3=>?_) (fun h3=>?_)<;>simp only[za,zb,zc,zd,ze,zf,zg,zh,zi,u8i,zj,zk,zl]at h3
 ·rw[if_neg (by simp[h3])]at k
  exact k
 have h3:c=114:=by simpa using h3
 refine iw (by omega) (by simp;omega) ?_
 rw[show ((c::t).drop (Int.toNat 1))=t from rfl]
 refine uy YD t (by omega) ?_
 (repeat (first|refine aZ ?_|refine bU ?_|refine cD (by omega) ?_))
 rw[show (((c::t).length:Nat):Int)-1=((t.length:Nat):Int) by simp,AK]
 cases h5:t.all sP with
 | false=>
   refine ah (fun _=>?_) (fun h=>by cases h)
   rw[if_neg (by simp[h5])]at k
   exact k
 | true=>
 refine ah (fun h=>by cases h) (fun _=>?_)
 (repeat (first|refine aZ ?_|refine aA ?_))
 have fin:(!(decide (t.length=2)&&decide (t.head?=some 48)))=true→bl (T (c::t)) (some (I 1)) none fun t40=>C eI [t40] h fun t41 h1=>am 0 t41 fun t42=>am 1 t41 fun t43=>ai .lss t42 (I 32) fun t46=>Q (.tup [t42,t46]) h1:=by
  intro hz
  refine iw (by omega) (by simp;omega) ?_
  rw[show ((c::t).drop (Int.toNat 1))=t from rfl]
  refine hA t (by omega) (by omega) h5 _ _ ?_
  (repeat (first|refine aG rfl ?_|refine aJ ?_))
  rw[if_pos (by simp only[h3,h5,hz,decide_true,Bool.true_and,Bool.and_true,decide_eq_true_eq];exact ht)]at k
  have e5:decide (((t.foldl (fun n c=>n*10+(c.toNat-48)) 0:Nat):Int)<32)=decide (abn t<32):=by
   unfold abn;rw[Bool.eq_iff_iff,decide_eq_true_eq,decide_eq_true_eq];omega
  rw[e5]
  exact k
 cases h6:decide (t.length=2) with
 | true=>
   simp only[decide_eq_true_eq]at h6
   obtain⟨a,b,rfl⟩:∃ a b,t=[a,b]:=by
    match t,h6 with
    | [a,b],_=>exact⟨a,b,rfl⟩
   have e6:decide ((([c,a,b].length:Nat):Int)=3)=true:=by simp
   rw[e6]
   refine m5 (ah (fun _=>?_) (fun h=>by cases h)) ⟨_,rfl⟩
   refine gV (by omega) (by simp) ?_
   refine aA ?_
   have e7:decide ((([c,a,b][Int.toNat 1].toNat:Nat):Int)=48)=decide (a=48):=by
    rw[Bool.eq_iff_iff];simp[← UInt8.toNat_inj];omega
   rw[e7]
   refine ah (fun h8=>?_) (fun h8=>?_)<;>simp only[za,zb,zc,zd,ze,zf,zg,zh,zi,u8i,zj,zk,zl]at h8
   ·rw[if_neg (by simp[h8])]at k;exact k
   ·exact fin (by simp[h8])
 | false=>
   simp only[decide_eq_false_iff_not]at h6
   have e6:decide ((((c::t).length:Nat):Int)=3)=false:=by simp;omega
   rw[e6]
   refine m5 (ah (fun h=>by cases h) (fun _=>?_)) ⟨_,rfl⟩
   exact fin (by simp[h6])
def bZ (s:Str):List Str:=if s=[] then [] else (bM 44 s).map ub
theorem jD (c:UInt8):∀ (l x:Str),x∈bM c l→x.length≤l.length
 | [],x,h=>by simp[bM]at h;subst h;simp
 | a::l,x,h=>by
   unfold bM at h
   split at h
   ·rcases List.mem_cons.1 h with rfl|h
    ·simp
    ·have:=jD c l x h;simp;omega
   ·cases hs:bM c l with
    | nil=>rw[hs]at h;simp at h;subst h;simp
    | cons p ps=>
      rw[hs]at h
      rcases List.mem_cons.1 h with rfl|h
      ·have:=jD c l p (by rw[hs];simp);simp;omega
      ·have:=jD c l x (by rw[hs];simp[h]);simp;omega
theorem No (hI:gH) (s:Str) (hs:s.length<4000000000) (k:∀ h',Fr [] h h'→Q (.snap (bZ s).length ((bZ s).flatMap sE)) h'):C n8 [T s] h Q:=by
 refine ACall.conv ?_
 refine C1 _ _ _ ?_
 unfold zM
 unfold bZ at k
 (repeat refine aU ?_)
 refine ah (fun hb=>?_) (fun hb=>?_)<;>simp only[za,zb,zc,zd,ze,zf,zg,zh,zi,u8i,zj,zk,zl]at hb
 ·rw[if_pos hb]at k
  exact cY (k _ (Fr.refl _ _))
 rw[if_neg hb]at k
 refine K5 hI 44 s hs fun i h1 s1=>?_
 have hsum:=jD 44 s
 have hlen:=jH 44 s
 have hcnt:=List.count_le_length (a:=44) (l:=s)
 generalize bM 44 s=ps at s1 k hsum hlen ⊢
 (repeat refine XD ?_)
 refine aQ (fun n vs h'=>∃ j:Nat,vs=[I (j:Nat)]∧n+j=ps.length∧St h [] h' [(i,true,.cells (((ps.take j).map ub++ps.drop j).flatMap fun x=>[T x]))]) ps.length ⟨0,rfl,by omega,by simpa using s1⟩ ?_
 rintro n vs h2 ⟨j,rfl,hn,s2⟩
 unfold uo
 (repeat refine aJ ?_)
 have hll:((ps.take j).map ub++ps.drop j).length=ps.length:=by simp;omega
 refine ah (fun hb2=>?_) (fun hb2=>?_)<;>simp only[za,zb,zc,zd,ze,zf,zg,zh,zi,u8i,zj,zk,zl]at hb2
 ·have hj:j<ps.length:=hb2
  refine FW hj ?_
  rw[Nat.mul_one]
  have hx:((ps.take j).map ub++ps.drop j)[j]?=some ps[j]:=by
   rw[List.getElem?_append_right (by simp;omega),List.getElem?_drop]
   have:j+(j-((ps.take j).map ub).length)=j:=by simp;omega
   rw[this];simp[hj]
  refine ag (a:=T ps[j]) s2 (.head _) (by rw[XP,List.getElem?_map,hx];rfl) ?_
  refine FZ _ (by have:=hsum _ (List.getElem_mem hj);omega) fun h3 f3=>?_
  have s3:=s2.call f3
  refine FW hj ?_
  rw[Nat.mul_one]
  refine ax s3 .head rfl rfl rfl (by rw[eP _ 1 (fun _=>rfl),hll];omega) fun h4 s4=>?_
  rw[show (T (ub ps[j])).cells=[T (ub ps[j])] from rfl,AI (by omega)]at s4
  (repeat refine aI (by omega) ?_)
  refine⟨n-1,by omega,j+1,rfl,by omega,?_⟩
  have e:((ps.take j).map ub++ps.drop j).set j (ub ps[j])=(ps.take (j+1)).map ub++ps.drop (j+1):=by
   rw[List.set_append_right _ _ (by simp;omega),show j-((ps.take j).map ub).length=0 by simp;omega,List.drop_eq_getElem_cons hj,List.set_cons_zero,List.take_succ_eq_append_getElem hj,List.map_append,List.append_assoc];rfl
  rw[e]at s4;exact s4
 ·rw[List.take_of_length_le (by omega),List.drop_of_length_le (by omega),List.append_nil]at s2
  have:=mL (n:=ps.length) (sz:=1) (Q:=Q) (s2.get (i:=i) (.head _)) (by rw[eP _ 1 (fun _=>rfl)];simp) (by
   have:=k _ (s2.kill .head).fr
   simpa using this)
  exact this
end
end
section
structure Rq where
 kind:Int
 name:Str
 text:Str
 value:Int
abbrev rqL (r:Rq):List AV:=[I r.kind,T r.name,T r.text,I r.value]
abbrev rqE (r:Rq):AV:=.agg (rqL r)
abbrev reL (e:Int) (t:Str):List AV:=[I e,T t,.full 0 [],.full 0 []]
abbrev reE (e:Int) (t:Str):AV:=.agg (reL e t)
def mI (k:Int):Bool:=decide (k=1)||decide (k=3)
def ml (r:Rq):Bool:=
 if r.kind<1∨7<r.kind then false
 else if r.kind=7 then decide (r.name=[]∧r.text=[]∧r.value=0)
 else eH r.name&&(decide (r.text.length≤600)&&((decide (r.text=[])||mI r.kind)&&(decide (-1099511627776≤r.value∧r.value≤1099511627776)&&(decide (r.value=0)||decide (r.kind=5)))))
section
variable [Tabs]
variable {h0 h:ae}{M:List Nat}{L R:Own}{K:AV→Prop}{Q:QT}
theorem acI {op:BinOp}{ds:List TypeDesc}{xs ys:List AV}{b:Bool}(e:qh ds xs ys=some b) (k:rh op b K):US op ds (.agg xs) (.agg ys) K:=⟨by simp only[Fw,e];exact k⟩
theorem Vj {n:Int}(k:Q (B (mI n)) h):C q8 [I n] h Q:=by
 refine H4 _ _ _ ?_
 unfold Es
 unfold mI at k
 refine aA ?_
 refine ah (fun h1=>?_) (fun h1=>?_)<;>simp only[za,zb,zc,zd,ze,zf,zg,zh,zi,u8i,zj,zk,zl]at h1
 ·rw[decide_eq_true h1]at k;exact k
 ·rw[decide_eq_false h1,Bool.false_or]at k
  (repeat refine aA ?_)
  exact k
theorem HP {n:Int}(k:Q (B (decide (n=5))) h):C fP [I n] h Q:=by
 refine Fp _ _ _ ?_
 unfold Ci
 (repeat refine aA ?_)
 exact k
theorem adu (a b c d:Int) (n m t u:Str):qh [.int .i64,.string,.string,.int .i64] [I a,T n,T t,I c] [I b,T m,T u,I d]=some (decide (a=b)&&(decide (n=m)&&(decide (t=u)&&(decide (c=d)&&true)))):=by
 have hs:∀ x y:Str,((⟨⟨x⟩⟩:ByteArray)==⟨⟨y⟩⟩)=decide (x=y):=fun x y=>by
  rw[Bool.eq_iff_iff,decide_eq_true_eq]
  show ((⟨x⟩:Array UInt8)==⟨y⟩)=true↔_
  simp
 simp only[qh,Z2,if_true,hs]
 rfl
theorem JI (r:Rq) (hn:r.name.length<4611686018427387904) (k:∀ h',Fr [] h h'→Q (B (ml r)) h'):C tq [rqE r] h Q:=by
 refine Ja _ _ _ ?_
 unfold Hd
 refine bB (St.start h) rfl fun p h1 s1=>?_
 have k:=k h1 s1.fr
 unfold ml at k
 (repeat (first|refine aj ?_|refine aJ ?_|refine ag ‹_› (.head _) rfl ?_))
 refine ah (fun a1=>?_) (fun a1=>?_)<;>simp only[za,zb,zc,zd,ze,zf,zg,zh,zi,u8i,zj,zk,zl]at a1
 ·rw[if_pos (.inl a1)]at k;exact k
 ·(repeat (first|refine aj ?_|refine bD ?_|refine ag ‹_› (.head _) rfl ?_))
  refine ah (fun a2=>?_) (fun a2=>?_)<;>simp only[za,zb,zc,zd,ze,zf,zg,zh,zi,u8i,zj,zk,zl]at a2
  ·rw[if_pos (.inr a2)]at k;exact k
  ·rw[if_neg (by omega)]at k
   (repeat (first|refine aj ?_|refine aA ?_|refine ag ‹_› (.head _) rfl ?_))
   refine ah (fun a3=>?_) (fun a3=>?_)<;>simp only[za,zb,zc,zd,ze,zf,zg,zh,zi,u8i,zj,zk,zl]at a3
   ·rw[if_pos a3]at k
    refine aF s1 (.head _) (nle rfl) (aD rfl ?_)
    refine acI (adu _ _ _ _ _ _ _ _) ?_
    simp only[rh]
    have:(decide (r.kind=7)&&(decide (r.name=[])&&(decide (r.text=[])&&(decide (r.value=0)&&true))))=decide (r.name=[]∧r.text=[]∧r.value=0):=by
     rw[Bool.eq_iff_iff];simp[a3]
    rw[this];exact k
   ·rw[if_neg a3]at k
    (repeat (first|refine aj ?_|refine ag ‹_› (.head _) rfl ?_))
    refine MN _ hn ?_
    (repeat refine bm ?_)
    refine ah (fun a4=>?_) (fun a4=>?_)<;>simp only[za,zb,zc,zd,ze,zf,zg,zh,zi,u8i,zj,zk,zl]at a4
    ·rw[a4,Bool.false_and]at k;exact k
    ·rw[a4,Bool.true_and]at k
     (repeat (first|refine aj ?_|refine aZ ?_|refine bD ?_|refine ag ‹_› (.head _) rfl ?_))
     refine ah (fun a5=>?_) (fun a5=>?_)<;>simp only[za,zb,zc,zd,ze,zf,zg,zh,zi,u8i,zj,zk,zl]at a5
     ·rw[decide_eq_false (by omega),Bool.false_and]at k;exact k
     ·rw[decide_eq_true (by omega),Bool.true_and]at k
      (repeat (first|refine aj ?_|refine nD ?_|refine ag ‹_› (.head _) rfl ?_))
      have tl:-1099511627776≤r.value→r.value≤1099511627776→r.value=0→(decide (r.text=[])||mI r.kind)=true→Q (B true) h1:=fun b1 b2 b3 b4=>by
       simpa [b1,b2,b3,b4] using k
      have td:-1099511627776≤r.value→r.value≤1099511627776→r.value≠0→(decide (r.text=[])||mI r.kind)=true→Q (B (decide (r.kind=5))) h1:=fun b1 b2 b3 b4=>by
       simpa [b1,b2,b3,b4] using k
      have tn:¬ (-1099511627776≤r.value∧r.value≤1099511627776)→(decide (r.text=[])||mI r.kind)=true→Q (B false) h1:=fun b1 b4=>by
       rw[b4,decide_eq_false b1]at k;exact k
      have tw:¬ r.text=[]→mI r.kind=false→Q (B false) h1:=fun b1 b4=>by
       rw[b4,decide_eq_false b1]at k;exact k
      clear k
      refine ah (fun a6=>?_) (fun a6=>?_)<;>simp only[za,zb,zc,zd,ze,zf,zg,zh,zi,u8i,zj,zk,zl]at a6
      ·(repeat (first|refine aj ?_|refine ag ‹_› (.head _) rfl ?_))
       refine Vj ?_
       (repeat refine bm ?_)
       refine ah (fun a7=>?_) (fun a7=>?_)<;>simp only[za,zb,zc,zd,ze,zf,zg,zh,zi,u8i,zj,zk,zl]at a7
       ·exact tw a6 a7
       ·have b4:(decide (r.text=[])||mI r.kind)=true:=by rw[a7,Bool.or_true]
        ((repeat (first|refine aj ?_|refine bz ?_|refine ag ‹_› (.head _) rfl ?_));(refine ah (fun b1=>?_) (fun b1=>?_)<;>simp only[za,zb,zc,zd,ze,zf,zg,zh,zi,u8i,zj,zk,zl]at b1);((repeat (first|refine aj ?_|refine fK ?_|refine ag ‹_› (.head _) rfl ?_));(refine ah (fun b2=>?_) (fun b2=>?_)<;>simp only[za,zb,zc,zd,ze,zf,zg,zh,zi,u8i,zj,zk,zl]at b2);((repeat (first|refine aj ?_|refine aA ?_|refine ag ‹_› (.head _) rfl ?_));(refine ah (fun b3=>?_) (fun b3=>?_)<;>simp only[za,zb,zc,zd,ze,zf,zg,zh,zi,u8i,zj,zk,zl]at b3);exact tl b1 b2 b3 b4;((repeat (first|refine aj ?_|refine ag ‹_› (.head _) rfl ?_));refine HP ?_;exact td b1 b2 b3 b4));exact tn (by omega) b4);exact tn (by omega) b4)
      ·have b4:(decide (r.text=[])||mI r.kind)=true:=by rw[decide_eq_true a6,Bool.true_or]
       ((repeat (first|refine aj ?_|refine bz ?_|refine ag ‹_› (.head _) rfl ?_));(refine ah (fun b1=>?_) (fun b1=>?_)<;>simp only[za,zb,zc,zd,ze,zf,zg,zh,zi,u8i,zj,zk,zl]at b1);((repeat (first|refine aj ?_|refine fK ?_|refine ag ‹_› (.head _) rfl ?_));(refine ah (fun b2=>?_) (fun b2=>?_)<;>simp only[za,zb,zc,zd,ze,zf,zg,zh,zi,u8i,zj,zk,zl]at b2);((repeat (first|refine aj ?_|refine aA ?_|refine ag ‹_› (.head _) rfl ?_));(refine ah (fun b3=>?_) (fun b3=>?_)<;>simp only[za,zb,zc,zd,ze,zf,zg,zh,zi,u8i,zj,zk,zl]at b3);exact tl b1 b2 b3 b4;((repeat (first|refine aj ?_|refine ag ‹_› (.head _) rfl ?_));refine HP ?_;exact td b1 b2 b3 b4));exact tn (by omega) b4);exact tn (by omega) b4)
end
end
section
structure WkM where
 f:KL Str
 s:KL Int
def P0 (w:WkM) (n t:Str):WkM×Int×Str:=if dm n w.f=none∧8≤w.f.length then (w,10,[]) else ({ w with f:=rn n t w.f },0,[])
def O0 (w:WkM) (n:Str):WkM×Int×Str:=if dm n w.f=none then (w,9,[]) else ({ w with f:=FE n w.f },0,[])
def EU (w:WkM) (n t:Str):WkM×Int×Str:=match dm n w.f with
 | none=>(w,9,[])
 | some o=>if 600<o.length+t.length then (w,10,[]) else ({ w with f:=rn n (o++t) w.f },0,[])
def EX (w:WkM) (n:Str):WkM×Int×Str:=match dm n w.f with
 | none=>(w,9,[])
 | some o=>(w,0,o)
def O7 (w:WkM) (n:Str) (v:Int):WkM×Int×Str:=if dm n w.s=none∧8≤w.s.length then (w,10,[]) else ({ w with s:=rn n v w.s },0,[])
def xr (w:WkM) (n:Str):WkM×Int×Str:=if dm n w.s=none then (w,9,[]) else ({ w with s:=FE n w.s },0,[])
def PA (w:WkM) (r:Rq):WkM×Int×Str:=
 if r.kind=1 then P0 w r.name r.text else if r.kind=2 then O0 w r.name else if r.kind=3 then EU w r.name r.text
 else if r.kind=4 then EX w r.name else if r.kind=5 then O7 w r.name r.value else xr w r.name
def doW (w:WkM) (r:Rq):WkM×Int×Str:=if ml r=false then (w,12,[]) else PA w r
section
variable [Tabs]
variable {h0 h:ae}{M:List Nat}{L R:Own}{K:AV→Prop}{Q:QT}
def WkS (h0:ae) (M:List Nat) (h:ae) (i:Nat) (w:WkM) (R:Own):Prop:=∃ jf js xf xs,MapS T w.f xf∧MapS I w.s xs∧St h0 M h ((i,true,.cells [.map jf,.map js])::(jf,true,xf)::(js,true,xs)::R)
theorem nT {n:Int}(k:∀ h',Fr [] h h'→Q (reE n []) h'):C cj [I n] h Q:=by
 refine Q2 _ _ _ ?_
 unfold Ui
 refine aM (St.start h) fun i h1 s1=>?_
 refine aD rfl ?_
 refine ax s1 .head rfl rfl rfl (nle rfl) fun h2 s2=>?_
 refine aF s2 (.head _) (nle rfl) ?_
 exact k h2 s2.fr
theorem St.after (s:St h0 M h L) {h':ae}(f:Fr [] h h'):St h0 M h' L:=
 ⟨s.fr.trans f (by simp),fun e he=>f.get (s.at_ e he) (by simp),s.own,s.nd⟩
theorem abf (s:St h0 M h R) (k:∀ i h',WkS h0 M h' i ⟨[],[]⟩ R→Q (.ptr i 0) h'):C x8 [] h Q:=by
 refine O9 _ _ ?_
 unfold PC
 refine qQ s fun jf h1 s1=>?_
 refine qQ s1 fun js h2 s2=>?_
 refine aD rfl ?_
 refine bB s2 rfl fun i h3 s3=>?_
 exact k i h3 ⟨jf,js,_,_,.nil T,.nil I,s3.perm (.cons _ (.swap _ _ _))⟩
theorem aam {i:Nat}{w:WkM}{r:Rq}(s:WkS h0 M h i w R) (k:∀ h',WkS h0 M h' i (P0 w r.name r.text).1 R→Q (reE (P0 w r.name r.text).2.1 (P0 w r.name r.text).2.2) h'):C jS [.ptr i 0,rqE r] h Q:=by
 obtain⟨jf,js,xf,xs,mf,ms,s⟩:=s
 refine D3 _ _ _ _ ?_
 unfold z7
 (refine bB s rfl fun p h1 s1=>?_;refine aM s1 fun q h2 s2=>?_;(repeat (first|refine au ?_|refine aj ?_|refine ag ‹_› (by first|exact .head _|exact .tail _ (.head _)|exact .tail _ (.tail _ (.head _))) rfl ?_)))
 refine ur (s2.get (.tail _ (.tail _ (.tail _ (.head _))))) mf ?_
 unfold P0 at k
 (repeat (first|refine aG rfl ?_|refine bm ?_))
 have tail:¬ (dm r.name w.f=none∧8≤w.f.length)→aE (.ptr i 0) fun t29=>ab 0 t29 fun t30=>af t30 h2 fun t31=>ab 1 (.ptr p 0) fun t32=>af t32 h2 fun t33=>ab 2 (.ptr p 0) fun t34=>af t34 h2 fun t35=>bV .string t31 t33 t35 h2 fun h9=>C cj [(I 0)] h9 fun t36 h10=>ak 4 (.ptr q 0) t36 h10 fun h11=>ap 4 (.ptr q 0) h11 fun r12=>Q r12 h11:=fun hb=>by
  rw[if_neg hb]at k
  (repeat (first|refine au ?_|refine aj ?_|refine ag ‹_› (by first|exact .head _|exact .tail _ (.head _)|exact .tail _ (.tail _ (.head _))) rfl ?_))
  refine M6 s2 (.tail _ (.tail _ (.tail _ (.head _)))) mf fun o' mf' st=>?_
  have s2:=st (.tail (.tail (.tail .head)))
  (refine nT fun h3 f3=>?_;refine ax (s2.after f3) .head rfl rfl rfl (nle rfl) fun h4 s4=>?_;refine aF s4 (.head _) (nle rfl) ?_)
  exact k h4 ⟨_,_,_,_,mf',ms,s4.drop1.drop1⟩
 refine ah (fun hb=>?_) (fun hb=>?_)<;>simp only[za,zb,zc,zd,ze,zf,zg,zh,zi,u8i,zj,zk,zl]at hb
 ·(repeat (first|refine au ?_|refine aj ?_|refine ag ‹_› (by first|exact .head _|exact .tail _ (.tail _ (.head _))) rfl ?_))
  refine QC (s2.get (.tail _ (.tail _ (.tail _ (.head _))))) mf ?_
  (repeat refine bz ?_)
  have hn:dm r.name w.f=none:=by simpa using hb
  refine ah (fun hc=>?_) (fun hc=>?_)<;>simp only[za,zb,zc,zd,ze,zf,zg,zh,zi,u8i,zj,zk,zl]at hc
  ·rw[if_pos ⟨hn,by omega⟩]at k
   (refine nT fun h3 f3=>?_;refine ax (s2.after f3) .head rfl rfl rfl (nle rfl) fun h4 s4=>?_;refine aF s4 (.head _) (nle rfl) ?_)
   exact k h4 ⟨_,_,_,_,mf,ms,s4.drop1.drop1⟩
  ·exact tail fun h=>by omega
 ·exact tail fun h=>by simp[h.1]at hb
theorem aaG {i:Nat}{w:WkM}{r:Rq}(s:WkS h0 M h i w R) (k:∀ h',WkS h0 M h' i (O0 w r.name).1 R→Q (reE (O0 w r.name).2.1 (O0 w r.name).2.2) h'):C kj [.ptr i 0,rqE r] h Q:=by
 obtain⟨jf,js,xf,xs,mf,ms,s⟩:=s
 refine CL _ _ _ _ ?_
 unfold zt
 (refine bB s rfl fun p h1 s1=>?_;refine aM s1 fun q h2 s2=>?_;(repeat (first|refine au ?_|refine aj ?_|refine ag ‹_› (by first|exact .head _|exact .tail _ (.head _)|exact .tail _ (.tail _ (.head _))) rfl ?_)))
 refine ur (s2.get (.tail _ (.tail _ (.tail _ (.head _))))) mf ?_
 unfold O0 at k
 (repeat (first|refine aG rfl ?_|refine bm ?_))
 refine ah (fun hb=>?_) (fun hb=>?_)<;>simp only[za,zb,zc,zd,ze,zf,zg,zh,zi,u8i,zj,zk,zl]at hb
 ·have hn:dm r.name w.f=none:=by simpa using hb
  rw[if_pos hn]at k
  (refine nT fun h3 f3=>?_;refine ax (s2.after f3) .head rfl rfl rfl (nle rfl) fun h4 s4=>?_;refine aF s4 (.head _) (nle rfl) ?_)
  exact k h4 ⟨_,_,_,_,mf,ms,s4.drop1.drop1⟩
 ·have hn:dm r.name w.f≠none:=by intro h;rw[h]at hb;cases hb
  rw[if_neg hn]at k
  (repeat (first|refine au ?_|refine aj ?_|refine ag ‹_› (by first|exact .head _|exact .tail _ (.head _)|exact .tail _ (.tail _ (.head _))) rfl ?_))
  refine TI s2 (.tail _ (.tail _ (.tail _ (.head _)))) mf fun o' hz mf' st=>?_
  have s2:=st (.tail (.tail (.tail .head)))
  (refine nT fun h3 f3=>?_;refine ax (s2.after f3) .head rfl rfl rfl (nle rfl) fun h4 s4=>?_;refine aF s4 (.head _) (nle rfl) ?_)
  exact k h4 ⟨_,_,_,_,mf',ms,s4.drop1.drop1⟩
theorem ZE {i:Nat}{w:WkM}{r:Rq}(hw:∀ o,dm r.name w.f=some o→o.length≤600) (hr:r.text.length≤600) (s:WkS h0 M h i w R) (k:∀ h',WkS h0 M h' i (EU w r.name r.text).1 R→Q (reE (EU w r.name r.text).2.1 (EU w r.name r.text).2.2) h'):C jh [.ptr i 0,rqE r] h Q:=by
 obtain⟨jf,js,xf,xs,mf,ms,s⟩:=s
 refine Cd _ _ _ _ ?_
 unfold wC
 (refine bB s rfl fun p h1 s1=>?_;refine aM s1 fun q h2 s2=>?_;(repeat (first|refine au ?_|refine aj ?_|refine ag ‹_› (by first|exact .head _|exact .tail _ (.head _)|exact .tail _ (.tail _ (.head _))) rfl ?_)))
 refine ur (s2.get (.tail _ (.tail _ (.tail _ (.head _))))) mf ?_
 unfold EU at k
 cases hl:dm r.name w.f with
 | none=>
   rw[hl]at k
   (repeat (first|refine aG rfl ?_|refine bm ?_))
   refine ah (fun _=>?_) (fun h=>by cases h)
   (refine nT fun h3 f3=>?_;refine ax (s2.after f3) .head rfl rfl rfl (nle rfl) fun h4 s4=>?_;refine aF s4 (.head _) (nle rfl) ?_)
   exact k h4 ⟨_,_,_,_,mf,ms,s4.drop1.drop1⟩
 | some o=>
   rw[hl]at k
   have ho:=hw o hl
   (repeat (first|refine aj ?_|refine aZ ?_|refine aG rfl ?_|refine bm ?_|refine bD ?_|refine aI (by omega) ?_|refine ag ‹_› (by first|exact .head _|exact .tail _ (.head _)) rfl ?_))
   refine ah (fun hb=>?_) (fun hb=>?_)<;>simp only[za,zb,zc,zd,ze,zf,zg,zh,zi,u8i,zj,zk,zl]at hb
   ·have k:=k
    simp only at k
    rw[if_pos (show 600<o.length+r.text.length by omega)]at k
    (refine nT fun h3 f3=>?_;refine ax (s2.after f3) .head rfl rfl rfl (nle rfl) fun h4 s4=>?_;refine aF s4 (.head _) (nle rfl) ?_)
    exact k h4 ⟨_,_,_,_,mf,ms,s4.drop1.drop1⟩
   ·simp only at k
    rw[if_neg (show ¬ 600<o.length+r.text.length by omega)]at k
    (repeat (first|refine au ?_|refine aj ?_|refine ag ‹_› (by first|exact .head _|exact .tail _ (.head _)|exact .tail _ (.tail _ (.head _))) rfl ?_))
    refine d3 (by omega) ?_
    refine M6 s2 (.tail _ (.tail _ (.tail _ (.head _)))) mf fun o' mf' st=>?_
    have s2:=st (.tail (.tail (.tail .head)))
    (refine nT fun h3 f3=>?_;refine ax (s2.after f3) .head rfl rfl rfl (nle rfl) fun h4 s4=>?_;refine aF s4 (.head _) (nle rfl) ?_)
    exact k h4 ⟨_,_,_,_,mf',ms,s4.drop1.drop1⟩
theorem Xa {i:Nat}{w:WkM}{r:Rq}(s:WkS h0 M h i w R) (k:∀ h',WkS h0 M h' i (EX w r.name).1 R→Q (reE (EX w r.name).2.1 (EX w r.name).2.2) h'):C iW [.ptr i 0,rqE r] h Q:=by
 obtain⟨jf,js,xf,xs,mf,ms,s⟩:=s
 refine Ct _ _ _ _ ?_
 unfold xW
 (refine bB s rfl fun p h1 s1=>?_;refine aM s1 fun q h2 s2=>?_;(repeat (first|refine au ?_|refine aj ?_|refine ag ‹_› (by first|exact .head _|exact .tail _ (.head _)|exact .tail _ (.tail _ (.head _))) rfl ?_)))
 refine ur (s2.get (.tail _ (.tail _ (.tail _ (.head _))))) mf ?_
 unfold EX at k
 cases hl:dm r.name w.f with
 | none=>
   rw[hl]at k
   (repeat (first|refine aG rfl ?_|refine bm ?_))
   refine ah (fun _=>?_) (fun h=>by cases h)
   (refine nT fun h3 f3=>?_;refine ax (s2.after f3) .head rfl rfl rfl (nle rfl) fun h4 s4=>?_;refine aF s4 (.head _) (nle rfl) ?_)
   exact k h4 ⟨_,_,_,_,mf,ms,s4.drop1.drop1⟩
 | some o=>
   rw[hl]at k
   (repeat (first|refine aG rfl ?_|refine bm ?_|refine aD rfl ?_))
   refine ax s2 .head rfl rfl rfl (nle rfl) fun h4 s4=>?_
   refine aF s4 (.head _) (nle rfl) ?_
   exact k h4 ⟨_,_,_,_,mf,ms,s4.drop1.drop1⟩
theorem Ro {i:Nat}{w:WkM}{r:Rq}(s:WkS h0 M h i w R) (k:∀ h',WkS h0 M h' i (O7 w r.name r.value).1 R→Q (reE (O7 w r.name r.value).2.1 (O7 w r.name r.value).2.2) h'):C gM [.ptr i 0,rqE r] h Q:=by
 obtain⟨jf,js,xf,xs,mf,ms,s⟩:=s
 refine y5 _ _ _ _ ?_
 unfold uD
 (refine bB s rfl fun p h1 s1=>?_;refine aM s1 fun q h2 s2=>?_;(repeat (first|refine au ?_|refine aj ?_|refine ag ‹_› (by first|exact .head _|exact .tail _ (.head _)|exact .tail _ (.tail _ (.head _))) rfl ?_)))
 refine ur (s2.get (.tail _ (.tail _ (.tail _ (.tail _ (.head _)))))) ms ?_
 unfold O7 at k
 (repeat (first|refine aG rfl ?_|refine bm ?_))
 have tail:¬ (dm r.name w.s=none∧8≤w.s.length)→aE (.ptr i 0) fun t29=>ab 1 t29 fun t30=>af t30 h2 fun t31=>ab 1 (.ptr p 0) fun t32=>af t32 h2 fun t33=>ab 3 (.ptr p 0) fun t34=>af t34 h2 fun t35=>bV .string t31 t33 t35 h2 fun h9=>C cj [(I 0)] h9 fun t36 h10=>ak 4 (.ptr q 0) t36 h10 fun h11=>ap 4 (.ptr q 0) h11 fun r12=>Q r12 h11:=fun hb=>by
  rw[if_neg hb]at k
  (repeat (first|refine au ?_|refine aj ?_|refine ag ‹_› (by first|exact .head _|exact .tail _ (.head _)|exact .tail _ (.tail _ (.head _))) rfl ?_))
  refine M6 s2 (.tail _ (.tail _ (.tail _ (.tail _ (.head _))))) ms fun o' ms' st=>?_
  have s2:=st (.tail (.tail (.tail (.tail .head))))
  (refine nT fun h3 f3=>?_;refine ax (s2.after f3) .head rfl rfl rfl (nle rfl) fun h4 s4=>?_;refine aF s4 (.head _) (nle rfl) ?_)
  exact k h4 ⟨_,_,_,_,mf,ms',s4.drop1.drop1⟩
 refine ah (fun hb=>?_) (fun hb=>?_)<;>simp only[za,zb,zc,zd,ze,zf,zg,zh,zi,u8i,zj,zk,zl]at hb
 ·(repeat (first|refine au ?_|refine aj ?_|refine ag ‹_› (by first|exact .head _|exact .tail _ (.tail _ (.head _))) rfl ?_))
  refine QC (s2.get (.tail _ (.tail _ (.tail _ (.tail _ (.head _)))))) ms ?_
  (repeat refine bz ?_)
  have hn:dm r.name w.s=none:=by simpa using hb
  refine ah (fun hc=>?_) (fun hc=>?_)<;>simp only[za,zb,zc,zd,ze,zf,zg,zh,zi,u8i,zj,zk,zl]at hc
  ·rw[if_pos ⟨hn,by omega⟩]at k
   (refine nT fun h3 f3=>?_;refine ax (s2.after f3) .head rfl rfl rfl (nle rfl) fun h4 s4=>?_;refine aF s4 (.head _) (nle rfl) ?_)
   exact k h4 ⟨_,_,_,_,mf,ms,s4.drop1.drop1⟩
  ·exact tail fun h=>by omega
 ·exact tail fun h=>by simp[h.1]at hb
theorem Wg {i:Nat}{w:WkM}{r:Rq}(s:WkS h0 M h i w R) (k:∀ h',WkS h0 M h' i (xr w r.name).1 R→Q (reE (xr w r.name).2.1 (xr w r.name).2.2) h'):C im [.ptr i 0,rqE r] h Q:=by
 obtain⟨jf,js,xf,xs,mf,ms,s⟩:=s
 refine Ax _ _ _ _ ?_
 unfold wj
 (refine bB s rfl fun p h1 s1=>?_;refine aM s1 fun q h2 s2=>?_;(repeat (first|refine au ?_|refine aj ?_|refine ag ‹_› (by first|exact .head _|exact .tail _ (.head _)|exact .tail _ (.tail _ (.head _))) rfl ?_)))
 refine ur (s2.get (.tail _ (.tail _ (.tail _ (.tail _ (.head _)))))) ms ?_
 unfold xr at k
 (repeat (first|refine aG rfl ?_|refine bm ?_))
 refine ah (fun hb=>?_) (fun hb=>?_)<;>simp only[za,zb,zc,zd,ze,zf,zg,zh,zi,u8i,zj,zk,zl]at hb
 ·have hn:dm r.name w.s=none:=by simpa using hb
  rw[if_pos hn]at k
  (refine nT fun h3 f3=>?_;refine ax (s2.after f3) .head rfl rfl rfl (nle rfl) fun h4 s4=>?_;refine aF s4 (.head _) (nle rfl) ?_)
  exact k h4 ⟨_,_,_,_,mf,ms,s4.drop1.drop1⟩
 ·have hn:dm r.name w.s≠none:=by intro h;rw[h]at hb;cases hb
  rw[if_neg hn]at k
  (repeat (first|refine au ?_|refine aj ?_|refine ag ‹_› (by first|exact .head _|exact .tail _ (.head _)|exact .tail _ (.tail _ (.head _))) rfl ?_))
  refine TI s2 (.tail _ (.tail _ (.tail _ (.tail _ (.head _))))) ms fun o' hz ms' st=>?_
  have s2:=st (.tail (.tail (.tail (.tail .head))))
  (refine nT fun h3 f3=>?_;refine ax (s2.after f3) .head rfl rfl rfl (nle rfl) fun h4 s4=>?_;refine aF s4 (.head _) (nle rfl) ?_)
  exact k h4 ⟨_,_,_,_,mf,ms',s4.drop1.drop1⟩
abbrev deedL:List AV:=[(.fn (.func jS) [] []),(.fn (.func kj) [] []),(.fn (.func jh) [] []),(.fn (.func iW) [] []),(.fn (.func gM) [] []),(.fn (.func im) [] []),(.fn (.func ij) [] [])]
theorem PL {n:Nat}(hn:n<7) (k:∀ a,deedL[n]?=some a→Q a h):C qe [I ((n:Nat)+1)] h Q:=by
 refine Mw _ _ _ ?_
 unfold JU
 refine aB rfl rfl ?_
 refine cD (by omega) ?_
 rw[show ((n:Nat):Int)+1-1=((n:Nat):Int) by omega]
 refine (Row.full (h:=h) (enc:=fun x:AV=>[x]) (sz:=1) (fun _=>rfl) deedL).idx (fun _=>rfl) (show n<deedL.length from hn) fun p t=>?_
 refine aK t ?_
 exact k _ (List.getElem?_eq_getElem _)
structure WkOk (w:WkM):Prop where
 txt:∀ x∈w.f,x.2.length≤600
 fn:w.f.length≤8
 sn:w.s.length≤8
 fw:∀ x∈w.f,eH x.1=true
 sw:∀ x∈w.s,eH x.1=true
 sv:∀ x∈w.s,-1099511627776≤x.2∧x.2≤1099511627776
theorem aci {i:Nat}{w:WkM}{r:Rq}(hw:WkOk w) (hn:r.name.length<4611686018427387904) (h7:r.kind≠7) (s:WkS h0 M h i w R) (sf:SoK w.f) (k:∀ h',WkS h0 M h' i (doW w r).1 R→Q (reE (doW w r).2.1 (doW w r).2.2) h'):C iP [.ptr i 0,rqE r] h Q:=by
 obtain⟨jf,js,xf,xs,mf,ms,s⟩:=s
 refine vY _ _ _ _ ?_
 unfold vn
 (refine bB s rfl fun p h1 s1=>?_;refine aM s1 fun q h2 s2=>?_;(repeat refine aF ‹_› (by first|exact .head _|exact .tail _ (.head _)) (nle rfl) ?_))
 refine JI r hn fun h3 f3=>?_
 have s3:=s2.after f3
 unfold doW at k
 (repeat refine bm ?_)
 refine ah (fun hr=>?_) (fun hr=>?_)<;>simp only[za,zb,zc,zd,ze,zf,zg,zh,zi,u8i,zj,zk,zl]at hr
 ·rw[if_pos hr]at k
  refine nT fun h4 f4=>?_
  refine ax (s3.after f4) .head rfl rfl rfl (nle rfl) fun h5 s5=>?_
  refine aF s5 (.head _) (nle rfl) ?_
  exact k h5 ⟨_,_,_,_,mf,ms,s5.drop1.drop1⟩
 ·rw[if_neg (by rw[hr];simp)]at k
  (repeat (first|refine aj ?_|refine ag ‹_› (by first|exact .head _|exact .tail _ (.head _)) rfl ?_|refine aF ‹_› (by first|exact .head _|exact .tail _ (.head _)) (nle rfl) ?_))
  have hk:1≤r.kind∧r.kind≤6∧r.text.length≤600:=by
   unfold ml at hr
   by_cases h1:r.kind<1∨7<r.kind
   ·rw[if_pos h1]at hr;cases hr
   ·rw[if_neg h1,if_neg h7]at hr
    simp only[Bool.and_eq_true,decide_eq_true_eq]at hr
    exact⟨by omega,by omega,hr.2.1⟩
  obtain⟨n,hn⟩:=Int.eq_ofNat_of_zero_le (show 0≤r.kind-1 by omega)
  have hkn:r.kind=(n:Nat)+1:=by omega
  rw[hkn]
  refine PL (show n<7 by omega) fun a ha=>?_
  refine⟨aF s3 (.tail _ (.head _)) (nle rfl) rfl,?_⟩
  have fin:∀ {e:WkM×Int×Str},(∀ h',WkS h0 M h' i e.1 R→Q (reE e.2.1 e.2.2) h')→∀ h4,WkS h0 M h4 i e.1 ((q,true,.cells [I 0,S ⟨#[]⟩,.full 0 [],.full 0 []])::(p,true,.cells (AV.cells (rqE r)))::R)→ak 4 (.ptr q 0) (reE e.2.1 e.2.2) h4 fun h8=>ap 4 (.ptr q 0) h8 fun r9=>Q r9 h8:=fun k h4 s4=>by
   obtain⟨jf,js,xf,xs,mf,ms,s4⟩:=s4
   refine ax (o:=0) s4 (.tail (.tail (.tail .head))) rfl rfl rfl (nle rfl) fun h5 s5=>?_
   refine aF s5 (.tail _ (.tail _ (.tail _ (.head _)))) (nle rfl) ?_
   exact k h5 ⟨_,_,_,_,mf,ms,s5.sub (by exact ((((List.Sublist.refl _).cons _).cons _).cons_cons _).cons_cons _ |>.cons_cons _)⟩
  have s4:WkS h0 M h3 i w ((q,true,.cells [I 0,S ⟨#[]⟩,.full 0 [],.full 0 []])::(p,true,.cells (AV.cells (rqE r)))::R):=⟨jf,js,xf,xs,mf,ms,s3.perm (by
   refine (List.perm_append_comm (l₁:=[(q,true,AObj.cells [I 0,S ⟨#[]⟩,.full 0 [],.full 0 []]),(p,true,.cells (AV.cells (rqE r)))]) (l₂:=[(i,true,AObj.cells [AV.map jf,AV.map js]),(jf,true,xf),(js,true,xs)])).append_right R)⟩
  unfold PA at k
  have hc:n=0∨n=1∨n=2∨n=3∨n=4∨n=5:=by omega
  rcases hc with h|h|h|h|h|h<;>subst h<;>cases ha
  ·rw[if_pos (by omega)]at k;exact aam s4 (fin k)
  ·rw[if_neg (by omega),if_pos (by omega)]at k;exact aaG s4 (fin k)
  ·rw[if_neg (by omega),if_neg (by omega),if_pos (by omega)]at k
   exact ZE (fun o ho=>hw.txt _ ((ud sf.nd).1 ho)) hk.2.2 s4 (fin k)
  ·rw[if_neg (by omega),if_neg (by omega),if_neg (by omega),if_pos (by omega)]at k;exact Xa s4 (fin k)
  ·rw[if_neg (by omega),if_neg (by omega),if_neg (by omega),if_neg (by omega),if_pos (by omega)]at k;exact Ro s4 (fin k)
  ·rw[if_neg (by omega),if_neg (by omega),if_neg (by omega),if_neg (by omega),if_neg (by omega)]at k;exact Wg s4 (fin k)
end
end
section
section
variable [Tabs]
variable {h0 h:ae}{M:List Nat}{L R:Own}{K:AV→Prop}{Q:QT}
abbrev nmE:Str→List AV:=fun x=>[T x]
structure Md:Prop where
 k1:∃ tm,AO Pg dr c7 tm
 s1:∃ ks,qE Pg eu c7 ks
 k2:∃ tm,AO Pg ep d5 tm
 s2:∃ ks,qE Pg eu d5 ks
theorem P7 {α:Type}{enc:α→AV}{l:KL α}{f g f':FuncId}{tm ks:TypeId}(hK:AO Pg f g tm) (hS:qE Pg f' g ks) {j:Nat}{b:Bool}{o:AObj}(s:St h0 M h L) (e:(j,b,o)∈L) (m:MapS enc l o) (hl:l.length≤1000000) (hk:∀ x∈l,x.1.length≤1000000)
  {K2:QT} (k:∀ v E h',AccE 1 v (l.map (·.1)).length ((l.map (·.1)).flatMap nmE) E→St h0 M h' (E++L)→K2 v h'):C f [.map j] h fun t9 h1=>C f' [t9] h1 fun t10 h2=>K2 t10 h2:=by
 refine aai hK (s.get e) ?_
 have s1:=s.push (.keys j)
 refine Wx hS (s1.get (.head _)) (s1.get (.tail _ e)) m hl hk (fun h0=>?_) fun h0=>?_
 ·subst h0
  exact k _ [] _ (.none 1) s1.drop1
 ·have s2:=s1.push (.cells (l.map fun x=>oH x.1))
  refine k _ [((h++[AObj.keys j]).length,true,.cells (l.map fun x:List UInt8×α=>oH x.1))] _ (.inr ⟨by simp[eP nmE 1 (fun _=>rfl)],_,by rw[List.length_map],?_⟩) (s2.sub (((List.Sublist.refl _).cons _).cons_cons _))
  have:(l.map fun x=>oH x.1)=(l.map (·.1)).flatMap nmE:=by
   rw[List.flatMap_map]
   induction l with
   | nil=>rfl
   | cons a l ih=>simp only[List.map_cons,List.flatMap_cons,List.singleton_append];congr 1;exact List.map_eq_flatMap
  rw[this]
theorem AccE.row {α:Type}{enc:α→List AV}{sz:Nat}{v:AV}{l:List α}{E:Own}(a:AccE sz v l.length (l.flatMap enc) E) (s:St h0 M h (E++L)):Row enc sz h v l:=a.rd s
theorem Ca {n:Nat}{cs:List AV}(hb:n*32≤1099511627776) {v:AV}{h:ae}(r:Rd h 2 v n cs) {Q:QT}(k:∀ h',Fr [] h h'→Q (.snap n cs) h'):C dk [v] h Q:=by
 refine ACall.conv ?_
 refine fg _ _ _ ?_
 unfold dS
 have hl:=r.len
 refine lO r (fun h0=>?_) ?_
 ·refine ah (fun _=>?_) (fun hb=>by cases hb)
  subst h0
  have:cs=[]:=by simpa using hl
  subst this
  exact cY (k _ (Fr.refl _ _))
 ·refine ah (fun hb=>by cases hb) (fun _=>?_)
  refine aB rfl rfl ?_
  refine oz (St.start h) r hb (fun h0=>?_) fun i h1 hn s=>?_
  ·subst h0
   have:cs=[]:=by simpa using hl
   subst this
   exact cY (k _ (Fr.refl _ _))
  ·exact mL (s.get (.head _)) hl (k _ (s.kill .head).fr)
theorem Pc (p:AV) (a:Str) (b:Str) (k:∀ h',Fr [] h h'→Q (.agg [T a,T b]) h'):C fY [p,T a,T b] h Q:=by
 refine Cj _ _ _ _ _ ?_
 unfold xx
 refine aM (St.start h) fun i h1 s1=>?_
 refine aD rfl ?_
 refine ax s1 .head rfl rfl rfl (nle rfl) fun h2 s2=>?_
 refine aF s2 (.head _) (nle rfl) ?_
 exact k h2 s2.fr
theorem LF (hks:Md) {l:KL Str}{j:Nat}{b:Bool}{o:AObj}(p:AV) (s:St h0 M h L) (e:(j,b,o)∈L) (m:MapS T l o) (hl:l.length≤1000000) (hk:∀ x∈l,x.1.length≤1000000) (k:∀ h',St h0 M h' L→Q (.snap l.length (l.flatMap (fun x:Str×Str=>[T x.1,T x.2]))) h'):C eG [.map j,.fn (.func fY) [p] []] h Q:=by
 refine pk _ _ _ _ ?_
 unfold kz
 obtain⟨tm,hK⟩:=hks.k1
 obtain⟨ks,hS⟩:=hks.s1
 refine P7 hK hS s e m hl hk fun v EK h1 av s1=>?_
 refine (av.row s1).len ?_
 rw[List.length_map]
 refine aQ (fun n vs h'=>∃ (q:Nat) (a:AV) (E:Own),vs=[a,I (q:Nat)]∧n+q=l.length∧AccE 2 a q ((l.take q).flatMap (fun x:Str×Str=>[T x.1,T x.2])) E∧St h0 M h' (E++(EK++L))) l.length ⟨0,.full 0 [],[],rfl,by omega,by rw[List.take_zero];exact .none 2,s1⟩ ?_
 rintro n vs h2 ⟨q,a,E,rfl,hn,ha,s2⟩
 unfold iQ
 refine aJ ?_
 refine ah (fun hq=>?_) (fun hq=>?_)<;>simp only[za,zb,zc,zd,ze,zf,zg,zh,zi,u8i,zj,zk,zl]at hq
 ·have hq:q<l.length:=hq
  refine (av.row s2.swap).idx (fun _=>rfl) (j:=q) (by simpa using hq) fun pp t=>?_
  refine aK t ?_
  have hx:(l.map (·.1))[q]'(by simpa using hq)=l[q].1:=List.getElem_map _
  rw[hx]
  have m':=m
  obtain⟨es,n',rfl,mr⟩:=m'
  refine KI (s2.get (List.mem_append_right _ (List.mem_append_right _ e))) m ?_
  have hlk:dm l[q].1 l=some l[q].2:=(ud mr.so.nd).2 (List.getElem_mem _)
  rw[hlk]
  show ACall Pg fY [p,T l[q].1,T l[q].2] h2 _
  refine Pc p _ _ fun h3 f3=>?_
  refine aB rfl rfl ?_
  have s3:=s2.after f3
  refine ha.app (m:=1) (xs:=[T l[q].1,T l[q].2]) s3 (Rd.full rfl) rfl (by omega) fun a' E' h4 ha' s4=>?_
  refine aI (by omega) ?_
  refine⟨n-1,by omega,q+1,a',E',rfl,by omega,?_,s4⟩
  rw[List.take_succ_eq_append_getElem hq,List.flatMap_append];exact ha'
 ·have hql:l.take q=l:=List.take_of_length_le (by omega)
  rw[hql]at ha
  have:q=l.length:=by omega
  subst this
  refine Ca (by omega) (ha.rd s2) fun h3 f3=>?_
  exact k h3 ((av.rest (ha.rest s2)).after f3)
theorem Wh (hks:Md) {i:Nat}{w:WkM}(hl:w.f.length≤1000000) (hk:∀ x∈w.f,x.1.length≤1000000) (s:WkS h0 M h i w R) (k:∀ h',WkS h0 M h' i w R→Q (.snap w.f.length (w.f.flatMap (fun x:Str×Str=>[T x.1,T x.2]))) h'):C lL [.ptr i 0] h Q:=by
 obtain⟨jf,js,xf,xs,mf,ms,s⟩:=s
 refine Aj _ _ _ ?_
 unfold vV
 (repeat (first|refine au ?_|refine aj ?_|refine ag ‹_› (.head _) rfl ?_))
 refine LF hks _ s (.tail _ (.head _)) mf hl hk fun h' s'=>?_
 exact k h' ⟨jf,js,xf,xs,mf,ms,s'⟩
theorem R9 (p:AV) (a:Str) (b:Int) (k:∀ h',Fr [] h h'→Q (.agg [T a,I b]) h'):C gR [p,T a,I b] h Q:=by
 refine Dn _ _ _ _ _ ?_
 unfold Aa
 refine aM (St.start h) fun i h1 s1=>?_
 refine aD rfl ?_
 refine ax s1 .head rfl rfl rfl (nle rfl) fun h2 s2=>?_
 refine aF s2 (.head _) (nle rfl) ?_
 exact k h2 s2.fr
theorem Od (hks:Md) {l:KL Int}{j:Nat}{b:Bool}{o:AObj}(p:AV) (s:St h0 M h L) (e:(j,b,o)∈L) (m:MapS I l o) (hl:l.length≤1000000) (hk:∀ x∈l,x.1.length≤1000000) (k:∀ h',St h0 M h' L→Q (.snap l.length (l.flatMap (fun x:Str×Int=>[T x.1,I x.2]))) h'):C gy [.map j,.fn (.func gR) [p] []] h Q:=by
 refine tv _ _ _ _ ?_
 unfold nk
 obtain⟨tm,hK⟩:=hks.k2
 obtain⟨ks,hS⟩:=hks.s2
 refine P7 hK hS s e m hl hk fun v EK h1 av s1=>?_
 refine (av.row s1).len ?_
 rw[List.length_map]
 refine aQ (fun n vs h'=>∃ (q:Nat) (a:AV) (E:Own),vs=[a,I (q:Nat)]∧n+q=l.length∧AccE 2 a q ((l.take q).flatMap (fun x:Str×Int=>[T x.1,I x.2])) E∧St h0 M h' (E++(EK++L))) l.length ⟨0,.full 0 [],[],rfl,by omega,by rw[List.take_zero];exact .none 2,s1⟩ ?_
 rintro n vs h2 ⟨q,a,E,rfl,hn,ha,s2⟩
 unfold k5
 refine aJ ?_
 refine ah (fun hq=>?_) (fun hq=>?_)<;>simp only[za,zb,zc,zd,ze,zf,zg,zh,zi,u8i,zj,zk,zl]at hq
 ·have hq:q<l.length:=hq
  refine (av.row s2.swap).idx (fun _=>rfl) (j:=q) (by simpa using hq) fun pp t=>?_
  refine aK t ?_
  have hx:(l.map (·.1))[q]'(by simpa using hq)=l[q].1:=List.getElem_map _
  rw[hx]
  have m':=m
  obtain⟨es,n',rfl,mr⟩:=m'
  refine KI (s2.get (List.mem_append_right _ (List.mem_append_right _ e))) m ?_
  have hlk:dm l[q].1 l=some l[q].2:=(ud mr.so.nd).2 (List.getElem_mem _)
  rw[hlk]
  show ACall Pg gR [p,T l[q].1,I l[q].2] h2 _
  refine R9 p _ _ fun h3 f3=>?_
  refine aB rfl rfl ?_
  have s3:=s2.after f3
  refine ha.app (m:=1) (xs:=[T l[q].1,I l[q].2]) s3 (Rd.full rfl) rfl (by omega) fun a' E' h4 ha' s4=>?_
  refine aI (by omega) ?_
  refine⟨n-1,by omega,q+1,a',E',rfl,by omega,?_,s4⟩
  rw[List.take_succ_eq_append_getElem hq,List.flatMap_append];exact ha'
 ·have hql:l.take q=l:=List.take_of_length_le (by omega)
  rw[hql]at ha
  have:q=l.length:=by omega
  subst this
  refine C3 (by omega) (ha.rd s2) fun h3 f3=>?_
  exact k h3 ((av.rest (ha.rest s2)).after f3)
theorem XE (hks:Md) {i:Nat}{w:WkM}(hl:w.s.length≤1000000) (hk:∀ x∈w.s,x.1.length≤1000000) (s:WkS h0 M h i w R) (k:∀ h',WkS h0 M h' i w R→Q (.snap w.s.length (w.s.flatMap (fun x:Str×Int=>[T x.1,I x.2]))) h'):C mQ [.ptr i 0] h Q:=by
 obtain⟨jf,js,xf,xs,mf,ms,s⟩:=s
 refine Br _ _ _ ?_
 unfold xD
 (repeat (first|refine au ?_|refine aj ?_|refine ag ‹_› (.head _) rfl ?_))
 refine Od hks _ s (.tail _ (.tail _ (.head _))) ms hl hk fun h' s'=>?_
 exact k h' ⟨jf,js,xf,xs,mf,ms,s'⟩
end
end
section
theorem Gr {α:Type}{k:List UInt8}{v:α}:∀ {l:KL α},SoK l→(rn k v l).length=if dm k l=none then l.length+1 else l.length
 | [],_=>by simp[rn,dm]
 | (a,w)::r,s=>by
   obtain⟨s1,s2⟩:=List.pairwise_cons.1 s
   unfold rn dm
   by_cases h:k=a
   ·simp[h]
   ·rw[if_neg h,if_neg h]
    split
    ·rename_i h1
     have:dm k r=none:=lookK_none.2 fun x hx e=>TM (List.lt_trans h1 (s1 x hx)) e.symm
     simp[this]
    ·rw[List.length_cons,Gr s2];split<;>simp
theorem Ot {α:Type}{k:List UInt8}{l:KL α}:(FE k l).length≤l.length:=List.length_filter_le _ _
theorem Vp {r:Rq}(h:ml r=true) (h7:r.kind≠7):eH r.name=true∧r.text.length≤600∧-1099511627776≤r.value∧r.value≤1099511627776:=by
 unfold ml at h
 by_cases h1:r.kind<1∨7<r.kind
 ·rw[if_pos h1]at h;cases h
 ·rw[if_neg h1,if_neg h7]at h
  simp only[Bool.and_eq_true,decide_eq_true_eq]at h
  exact⟨h.1,h.2.1,h.2.2.2.1.1,h.2.2.2.1.2⟩
structure WkSo (w:WkM):Prop where
 f:SoK w.f
 s:SoK w.s
theorem WkSo.nil:WkSo ⟨[],[]⟩:=⟨List.Pairwise.nil,List.Pairwise.nil⟩
theorem WkOk.nil:WkOk ⟨[],[]⟩:=⟨by simp,by simp,by simp,by simp,by simp,by simp⟩
theorem WkSo.doW {w:WkM}(o:WkSo w) (r:Rq):WkSo (doW w r).1:=by
 unfold AL.doW PA P0 O0 EU EX O7 xr
 repeat' split
 all_goals first|exact o|exact⟨BV o.f,o.s⟩|exact⟨Ni o.f,o.s⟩|exact⟨o.f,BV o.s⟩|exact⟨o.f,Ni o.s⟩
theorem WkOk.doW {w:WkM}(o:WkOk w) (so:WkSo w) {r:Rq}(h7:r.kind≠7):WkOk (doW w r).1:=by
 unfold AL.doW
 split
 ·exact o
 rename_i hr
 obtain⟨r1,r2,r3,r4⟩:=Vp (by simpa using hr) h7
 have hdf:∀ k,WkOk ⟨FE k w.f,w.s⟩:=fun k=>⟨fun x hx=>o.txt x ((xi x).1 hx).1,Nat.le_trans Ot o.fn,o.sn,fun x hx=>o.fw x ((xi x).1 hx).1,o.sw,o.sv⟩
 have hds:∀ k,WkOk ⟨w.f,FE k w.s⟩:=fun k=>⟨o.txt,o.fn,Nat.le_trans Ot o.sn,o.fw,fun x hx=>o.sw x ((xi x).1 hx).1,fun x hx=>o.sv x ((xi x).1 hx).1⟩
 have hif:∀ t:Str,t.length≤600→¬ (dm r.name w.f=none∧8≤w.f.length)→WkOk ⟨rn r.name t w.f,w.s⟩:=fun t ht hc=>⟨fun x hx=>by
   rcases (oI so.f x).1 hx with rfl|⟨h,_⟩
   ·exact ht
   ·exact o.txt x h,by have:=o.fn;show (rn r.name t w.f).length≤8;rw[Gr so.f];split;exact (by rename_i hh;have:¬ 8≤w.f.length:=fun e=>hc ⟨hh,e⟩;omega);exact o.fn,o.sn,fun x hx=>by
   rcases (oI so.f x).1 hx with rfl|⟨h,_⟩
   ·exact r1
   ·exact o.fw x h,o.sw,o.sv⟩
 have his:¬ (dm r.name w.s=none∧8≤w.s.length)→WkOk ⟨w.f,rn r.name r.value w.s⟩:=fun hc=>⟨o.txt,o.fn,by have:=o.sn;show (rn r.name r.value w.s).length≤8;rw[Gr so.s];split;exact (by rename_i hh;have:¬ 8≤w.s.length:=fun e=>hc ⟨hh,e⟩;omega);exact o.sn,o.fw,fun x hx=>by
   rcases (oI so.s x).1 hx with rfl|⟨h,_⟩
   ·exact r1
   ·exact o.sw x h,fun x hx=>by
   rcases (oI so.s x).1 hx with rfl|⟨h,_⟩
   ·exact⟨r3,r4⟩
   ·exact o.sv x h⟩
 unfold PA
 split
 ·unfold P0;split
  ·exact o
  ·exact hif _ r2 ‹_›
 split
 ·unfold O0;split
  ·exact o
  ·exact hdf _
 split
 ·unfold EU;split
  ·exact o
  ·split
   ·exact o
   ·rename_i hl hc
    exact hif _ (by simp;omega) fun h=>by rw[h.1]at hl;cases hl
 split
 ·unfold EX;split<;>exact o
 split
 ·unfold O7;split
  ·exact o
  ·exact his ‹_›
 ·unfold xr;split
  ·exact o
  ·exact hds _
section
variable [Tabs]
variable {h0 h:ae}{M:List Nat}{L R R':Own}{K:AV→Prop}{KH:QT}{KS':ae→Prop}{Q:QT}{i:Nat}{w:WkM}
theorem WkS.so (s:WkS h0 M h i w R):WkSo w:=by
 obtain⟨jf,js,xf,xs,⟨_,_,_,mf⟩,⟨_,_,_,ms⟩,s⟩:=s
 exact⟨mf.so,ms.so⟩
theorem WkS.rest (s:WkS h0 M h i w R):St h0 M h R:=by
 obtain⟨jf,js,xf,xs,mf,ms,s⟩:=s
 exact s.drop1.drop1.drop1
theorem ac7 {a b c d:Nat×Bool×AObj}{R:Own}:(d::a::b::c::R).Perm (a::b::c::d::R):=
 (List.Perm.swap _ _ _).trans (((List.Perm.swap _ _ _).trans ((List.Perm.swap _ _ _).cons _)).cons _)
theorem Xl {cs:List AV}(s:WkS h0 M h i w R) (k:∀ p h',WkS h0 M h' i w ((p,true,.cells cs)::R)→KH (.ptr p 0) h'):cu cs h KH:=by
 obtain⟨jf,js,xf,xs,mf,ms,s⟩:=s
 exact aM s fun p h' s'=>k p h' ⟨jf,js,xf,xs,mf,ms,s'.perm ac7⟩
theorem ye {p o n:Nat}{cs:List AV}{u:AV}(s:WkS h0 M h i w R) (e:Sub R (p,true,.cells cs) R' (p,true,.cells (splice cs o u.cells))) (e1:u.isTup=false) (e2:u.cells.length=n) (e3:u.cells.all AV.one=true) (e4:o+n≤cs.length)
  (k:∀ h',WkS h0 M h' i w R'→KS' h'):ak n (.ptr p o) u h KS':=by
 obtain⟨jf,js,xf,xs,mf,ms,s⟩:=s
 exact ax s (.tail (.tail (.tail e))) e1 e2 e3 e4 fun h' s'=>k h' ⟨jf,js,xf,xs,mf,ms,s'⟩
theorem ld {p o:Nat}{b:Bool}{cs:List AV}{a:AV}(s:WkS h0 M h i w R) (e:(p,b,.cells cs)∈R) (e2:cs[o]?=some a) (k:K a):af (.ptr p o) h K:=ag s.rest e e2 k
theorem BC {p o n:Nat}{b:Bool}{cs:List AV}(s:WkS h0 M h i w R) (e:(p,b,.cells cs)∈R) (e2:o+n≤cs.length) (k:K (.agg ((cs.drop o).take n))):ap n (.ptr p o) h K:=aF s.rest e e2 k
theorem WkS.after (s:WkS h0 M h i w R) {h':ae}(f:Fr [] h h'):WkS h0 M h' i w R:=by
 obtain⟨jf,js,xf,xs,mf,ms,s⟩:=s
 exact⟨jf,js,xf,xs,mf,ms,s.after f⟩
theorem W6 {p o:Nat}(k:K (B false)):Fa .eql (.ptr p o) (.lit (.pointer none)) K:=⟨k⟩
theorem VL {a n:Int}(ha:-9223372036854775808≤a∧a≤9223372036854775807) (hn:0<n):(a.tmod n=a%n∧0≤a.tmod n)∨(a.tmod n=a%n-n∧a.tmod n<0):=by
 have h0:=Int.emod_nonneg a (show n≠0 by omega)
 have h4:=Int.emod_lt_of_pos a hn
 rw[Int.tmod_eq_emod]
 have hab:(n.natAbs:Int)=n:=by omega
 split
 ·exact .inl ⟨by omega,by omega⟩
 ·right;rw[hab];exact⟨rfl,by omega⟩
theorem mz {a n:Int}(hn:0<n) (hn2:n≤1000000000000000000) (ha:-9223372036854775808≤a∧a≤9223372036854775807) (k:Q (I (a%n)) h):C ej [I a,I n] h Q:=by
 refine xp _ _ _ _ ?_
 unfold xt
 refine mJ (by omega) ?_
 have h0:=Int.emod_nonneg a (show n≠0 by omega)
 have h4:=Int.emod_lt_of_pos a hn
 have h3:=VL ha hn
 refine aJ ?_
 refine ah (fun hb=>?_) (fun hb=>?_)<;>simp only[za,zb,zc,zd,ze,zf,zg,zh,zi,u8i,zj,zk,zl]at hb
 ·refine aI (by omega) ?_
  rw[show a.tmod n+n=a%n by omega]
  exact k
 ·rw[← show a.tmod n=a%n by omega]at k
  exact k
def names9:List Str:=[[109,97,105,110],[97],[98,49],[120],[108,105,98],[101,110,100],[99],[100],[101],[102],[98,97,115,101],[107]]
def K7 (n:Int):Str:=names9[(n%12).toNat]?.getD []
theorem JN {n:Int}:∃ h:(n%12).toNat<names9.length,K7 n=names9[(n%12).toNat]:=by
 have h1:=Int.emod_nonneg n (show (12:Int)≠0 by decide)
 have h2:=Int.emod_lt_of_pos n (show (0:Int)<12 by decide)
 have h:(n%12).toNat<names9.length:=by show _<12;omega
 exact⟨h,by unfold K7;rw[List.getElem?_eq_getElem h];rfl⟩
theorem Rf (n:Int):eH (K7 n)=true∧(K7 n).length≤4:=by
 obtain⟨h,e⟩:=JN (n:=n)
 rw[e]
 have:∀ x∈names9,eH x=true∧x.length≤4:=by decide
 exact this _ (List.getElem_mem _)
theorem MT {n:Int}(hn:-9223372036854775808≤n∧n≤9223372036854775807) (k:Q (T (K7 n)) h):C vN [I n] h Q:=by
 refine Mo _ _ _ ?_
 unfold Lc
 refine aB rfl rfl ?_
 refine mz (by decide) (by decide) hn ?_
 obtain⟨hh,e⟩:=JN (n:=n)
 rw[e]at k
 have h1:=Int.emod_nonneg n (show (12:Int)≠0 by decide)
 have h3:n%12=(((n%12).toNat:Nat):Int):=by omega
 rw[h3]
 refine (Row.full (h:=h) (enc:=nmE) (sz:=1) (fun _=>rfl) names9).idx (fun _=>rfl) hh fun p t=>?_
 exact aK t k
def Zj:Prop:=∀ (h:ae) (Q:QT),Q (B true) h→C sL [] h Q
end
end
section
theorem V1 [Tabs]:L8 Pg tb5 spK 100 sL [] .leaf 0 (fun r t _=>Nw (B true) r t)=true:=by kernel_rfl
theorem ack [Tabs5]:Zj:=fun h Q q=>lZ Tabs5.tb acw (d:=100) (B true) rfl rfl V1 q
end
section
theorem adt [Tabs]:Md:=⟨⟨_,NQ⟩,⟨_,G4⟩,⟨_,Qi⟩,⟨_,IG⟩⟩
