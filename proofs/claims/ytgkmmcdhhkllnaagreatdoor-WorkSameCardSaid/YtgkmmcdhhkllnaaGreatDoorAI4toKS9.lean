import Derived.Test.YtgkmmcdhhkllnaaGreatDoorAI3
import Derived.Laws.RangeString
import Derived.Laws.RangeAny
import Derived.Test.YtgkmmcdhhkllnaaGreatDoorMP1toAI2
import Derived.Test.YtgkmmcdhhkllnaaGreatDoorF9
import Derived.Test.YtgkmmcdhhkllnaaGreatDoorSPK
set_option linter.all false
set_option autoImplicit true
set_option relaxedAutoImplicit true
set_option maxRecDepth 100000
namespace Go.Proofs.YtgkmmcdhhkllnaaGreatDoor.AL
noncomputable section
section
variable [Tabs]
def xN:List Str→List Int→Int→Option Int
 | k::ks,v::vs,b=>match pg k v with
   | some n=>xN ks vs (orI .u32 b n)
   | none=>none
 | _,_,b=>some b
def np (op:Nat) (vs:List Int):Option Int:=
 if (cV (bq op)).length=vs.length then xN (cV (bq op)) vs (Mq op) else none
theorem Q4 {ks:List Str}{vs:List Int}{i:Nat}(h1:i<ks.length) (h2:i<vs.length) (b:Int):xN (ks.drop i) (vs.drop i) b=match pg ks[i] vs[i] with|some n=>xN (ks.drop (i+1)) (vs.drop (i+1)) (orI .u32 b n)|none=>none:=by
 rw[List.drop_eq_getElem_cons h1,List.drop_eq_getElem_cons h2,xN]
omit [Tabs] in
theorem D2:∀ r∈tbl,(cV r.kinds).length≤3:=by decide
theorem TW (hF:cB) (hL:dJ) {op:Nat}(ho:op<tbl.length) (vs:List Int) (hv:∀ v∈vs,dW v) {fv:AV}{h:ae}(r:Row (fun v:Int=>[I v]) 1 h fv vs) {Q:QT}(q:PutK (np op vs) h Q):C rT [.agg [I (op:Nat),fv]] h Q:=by
 refine QJ _ _ _ ?_
 unfold QI
 have hfv:fv.isTup=false∧fv.cells=[fv]:=by
  have:=r.1;unfold Ah at this;split at this<;>first|exact⟨rfl,rfl⟩|cases this
 refine bC (St.start h) rfl fun i h1 s1=>?_
 have e1:(AV.agg [I (op:Nat),fv]).cells=[I (op:Nat),fv]:=rfl
 rw[e1]at s1
 (repeat (first|refine aj ?_|refine ag ‹_› (.head _) rfl ?_))
 refine Up ho fun h2 f2=>?_
 have s2:=s1.call f2
 (repeat refine aU ?_)
 have hn:HB op≠[]:=by rw[DU ho];exact Ty _ (by simp)
 refine ah (fun hb=>absurd (by simpa using hb) hn) (fun _=>?_)
 (repeat (first|refine aj ?_|refine ag ‹_› (.head _) rfl ?_))
 refine acS ho _ ?_
 show ACall Pg oo _ _ _
 refine aaa _ fun h3 f3=>?_
 have s3:=s2.call f3
 refine⟨ag s3 (.head _) rfl rfl,?_⟩
 refine acb ho _ ?_
 show ACall Pg lB _ _ _
 refine aaN hF (by simp) fun h4 f4=>?_
 have s4:=s3.call f4
 rw[← jQ ho,← Vn ho]
 have hk:∀ k∈cV (bq op),k∈aan:=fun k hk=>Xp tbl[op] (by simp) k (by rw[← jQ ho];exact hk)
 (repeat (first|refine aj ?_|refine cA ?_|refine ag ‹_› (.head _) rfl ?_))
 refine (r.fr s4.fr).len ?_
 refine cc ?_
 refine ah (fun hl=>?_) (fun hl=>?_)<;>simp only[za,zb,zc,zd,ze,zf,zg,zh,zi,u8i,zj,zk,zl]at hl
 ·exact q.none s4.fr 0 (by unfold np;rw[if_neg (by omega)])
 have hl:(cV (bq op)).length=vs.length:=by omega
 unfold np at q
 rw[if_pos hl]at q
 have h3:(cV (bq op)).length≤3:=by rw[jQ ho];exact D2 _ (by simp)
 (repeat refine cA ?_)
 have RK:∀ h,Row (fun x=>[T x]) 1 h (.snap (cV (bq op)).length ((cV (bq op)).flatMap fun x=>[T x])) (cV (bq op)):=fun h=>Row.snap (enc:=fun x=>[T x]) (fun _=>rfl) _
 refine aO (fun n vs' h'=>St h [] h' [(i,true,.cells [I (op:Nat),fv])]∧∃ (j:Nat) (x y:AV) (b:Int),vs'=[x,y,U32 b,I (j:Nat)]∧n+j=vs.length∧xN (cV (bq op)) vs (Mq op)=xN ((cV (bq op)).drop j) (vs.drop j) b) vs.length ⟨s4,0,_,_,_,rfl,by omega,rfl⟩ ?_
 rintro n vs' h5 ⟨s5,j,x,y,b,rfl,hn,hc⟩
 unfold Ez
 (repeat refine aJ ?_)
 refine ah (fun hb=>?_) (fun hb=>?_)<;>simp only[za,zb,zc,zd,ze,zf,zg,zh,zi,u8i,zj,zk,zl]at hb
 ·have hj:j<(cV (bq op)).length:=hb
  refine (RK h5).idx (fun _=>rfl) hj fun p t=>?_
  refine aK t ?_
  (repeat (first|refine aj ?_|refine ag ‹_› (.head _) rfl ?_))
  refine (r.fr s5.fr).idx (fun _=>rfl) (show j<vs.length by omega) fun p2 t2=>?_
  refine aK t2 ?_
  rw[Q4 hj (by omega)]at hc
  refine ab8 hL (hk _ (by simp)) _ (hv _ (by simp)) fun b2 h6 f6 hb2=>?_
  have s6:=s5.call f6
  (repeat (first|refine aG rfl ?_|refine bi ?_))
  cases hp:pg (cV (bq op))[j] vs[j] with
  | none=>
    refine ah (fun _=>?_) (fun h=>by cases h)
    rw[hp]at hc
    exact q.none s6.fr 0 hc
  | some m=>
    refine ah (fun h=>by cases h) (fun _=>?_)
    rw[hp]at hc
    have:=hb2 m hp
    subst this
    refine vy ?_
    refine aI (by omega) ?_
    exact⟨n-1,by omega,s6,j+1,_,_,_,rfl,by omega,hc⟩
 ·have hj:vs.length≤j:=by omega
  rw[List.drop_of_length_le (by omega),List.drop_of_length_le (by omega)]at hc
  exact q.some s5.fr (by rw[hc];simp[xN])
theorem QW (hF:cB) (hL:dJ) {op:Nat}(ho:op<tbl.length) (vs:List Int) (hv:∀ v∈vs,dW v) {fv:AV}{h:ae}(r:Row (fun v:Int=>[I v]) 1 h fv vs) {Q:QT}(k:∀ h',Fr [] h h'→Q (B (np op vs).isSome) h'):C qg [.agg [I (op:Nat),fv]] h Q:=by
 refine L6 _ _ _ ?_
 unfold KF
 refine bC (St.start h) rfl fun i h1 s1=>?_
 (repeat refine aF ‹_› (.head _) (nle rfl) ?_)
 refine TW hF hL ho vs hv (r.fr s1.fr) fun b h2 f2 _=>?_
 (repeat refine aG rfl ?_)
 exact k _ (s1.call f2).fr
def YS (b:Int):List Int:=[IntKind.u8.wrap (Nx .u32 b 24),IntKind.u8.wrap (Nx .u32 b 16),IntKind.u8.wrap (Nx .u32 b 8),IntKind.u8.wrap b]
def Jk (op:Nat) (vs:List Int):Option (List Int):=(np op vs).map fun b=>(YS b).drop (4-mF op)
abbrev BI (n:Int):AV:=.lit (.int .u8 n)
theorem WQ (hF:cB) (hL:dJ) {op:Nat}(ho:op<tbl.length) (vs:List Int) (hv:∀ v∈vs,dW v) {bs:List Int}(he:Jk op vs=some bs) {fv:AV}{h:ae}(r:Row (fun v:Int=>[I v]) 1 h fv vs) {Q:QT}(k:∀ h',Fr [] h h'→Q (.tup [.snap bs.length (bs.flatMap fun x=>[BI x]),B true]) h'):C tf [.agg [I (op:Nat),fv]] h Q:=by
 refine Jo _ _ _ ?_
 unfold Gz
 refine bC (St.start h) rfl fun i h1 s1=>?_
 (repeat refine aF ‹_› (.head _) (nle rfl) ?_)
 unfold Jk at he
 cases hc:np op vs with
 | none=>rw[hc]at he;cases he
 | some b0=>
 rw[hc]at he
 refine TW hF hL ho vs hv (r.fr s1.fr) fun b h2 f2 hb=>?_
 have:=hb b0 hc
 subst this
 have s2:=s1.call f2
 rw[hc]
 (repeat (first|refine aG rfl ?_|refine bi ?_))
 refine ah (fun h=>by cases h) (fun _=>?_)
 refine xH (by decide) ?_
 refine eF ?_
 refine xH (by decide) ?_
 refine eF ?_
 refine xH (by decide) ?_
 refine eF ?_
 refine eF ?_
 (repeat (first|refine aj ?_|refine ag ‹_› (.head _) rfl ?_|refine aB rfl rfl ?_))
 refine TY ho fun h3 f3=>?_
 have s3:=s2.call f3
 have hsz:mF op=2∨mF op=4:=by unfold mF;split<;>simp
 simp only[Option.map_some,Option.some.injEq]at he
 rcases hsz with e|e<;>rw[e]at he ⊢<;>subst he
 ·refine cC (by decide) ?_
  refine (⟨(⟨⟨by decide,by decide,by decide⟩,?_⟩:iK 1 (.full 4 _) (some (I 2)) none _)⟩:lA 1 (.full 4 _) (some (I 2)) none _)
  refine sS (n:=2) (cs:=[BI _,BI _]) (by decide) (Rd.snap rfl) fun h4 f4=>?_
  exact k _ (s3.call f4).fr
 ·refine cC (by decide) ?_
  refine (⟨(⟨⟨by decide,by decide,by decide⟩,?_⟩:iK 1 (.full 4 _) (some (I 0)) none _)⟩:lA 1 (.full 4 _) (some (I 0)) none _)
  refine sS (n:=4) (cs:=[BI _,BI _,BI _,BI _]) (by decide) (Rd.snap rfl) fun h4 f4=>?_
  exact k _ (s3.call f4).fr
end
section
variable [Tabs]
abbrev R32 (n:Nat):AV:=.lit (.int .i32 (n:Nat))
def adr (fv:AV) (p:Nat→Bool):Prop:=∀ (c:Nat) (h:ae) (Q:QT),Q (B (p c)) h→CV fv [R32 c] h Q
theorem UE {h0 h:ae}{M:List Nat}{L:Own}{l:Str}{i k:Nat}(s:St h0 M h ((i,true,.siter ⟨⟨l⟩⟩ k)::L)) {K:QT}(k0:l.length≤k→K (.tup [B false]) h)
  (k1:∀ (hk:k<l.length) (r w:Nat) (h':ae),St h0 M h' ((i,true,.siter ⟨⟨l⟩⟩ (k+w))::L)→1≤w→(l[k].toNat<128→r=l[k].toNat∧w=1)→(128≤l[k].toNat→128≤r)→K (.tup [B true,I (k:Nat),R32 r]) h'):Ba (.ptr i 0) h K:=⟨by
 simp only[vP,s.get (.head _)]
 have hsz:(⟨⟨l⟩⟩:ByteArray).size=l.length:=rfl
 split
 ·rename_i hk
  have hk':k<l.length:=hk
  have hget:((⟨⟨l⟩⟩:ByteArray)[k]'hk)=l[k]:=rfl
  rcases Nat.lt_or_ge l[k].toNat 128 with ha|ha
  ·have:=decode_ascii ⟨⟨l⟩⟩ k hk (by rw[hget];exact ha)
   rw[this,hget]
   exact k1 hk' _ 1 _ (s.turn .head) (Nat.le_refl _) (fun _=>⟨rfl,rfl⟩) (fun h=>by omega)
  ·obtain⟨g1,g2⟩:=decode_high ⟨⟨l⟩⟩ k hk (by rw[hget];exact ha)
   exact k1 hk' _ _ _ (s.turn .head) g2 (fun h=>by omega) (fun _=>g1)
 ·exact k0 (by omega)⟩
theorem takeWhile_self {p:UInt8→Bool}:∀ {l:Str},l.takeWhile p=l↔∀ x∈l,p x=true
 | []=>by simp
 | a::l=>by
   cases h:p a with
   | true=>rw[List.takeWhile_cons_of_pos h];simp[h,takeWhile_self (l:=l)]
   | false=>rw[List.takeWhile_cons_of_neg (by simp[h])];simp[h]
theorem zP {p:UInt8→Bool}{l:Str}(h:∀ j (hj:j<l.length),p l[j]=true):l.takeWhile p=l:=by
 rw[takeWhile_self]
 intro x hx
 obtain⟨j,hj,rfl⟩:=List.getElem_of_mem hx
 exact h j hj
theorem tt {p:UInt8→Bool}{l:Str}{k:Nat}(hk:k<l.length) (h:∀ j (hj:j<k),p (l[j]'(by omega))=true) (hn:p l[k]=false):l.takeWhile p=l.take k:=by
 conv=>lhs;rw[← List.take_append_drop k l]
 rw[List.takeWhile_append_of_pos,List.drop_eq_getElem_cons hk,List.takeWhile_cons_of_neg (by simp[hn]),List.append_nil]
 intro x hx
 obtain⟨j,hj,rfl⟩:=List.getElem_of_mem hx
 rw[List.length_take]at hj
 rw[List.getElem_take]
 exact h j (by omega)
theorem YH {fv:AV}{p:Nat→Bool}(ht:adr fv p) (hp:∀ c,128≤c→p c=false) (l:Str) {h:ae}{Q:QT}(k:∀ h',Fr [] h h'→Q (T (l.takeWhile fun c=>p c.toNat)) h'):C cP [T l,fv] h Q:=by
 refine SK _ _ _ _ ?_
 unfold T6
 refine JW (St.start h) fun i h1 s1=>?_
 refine aO (fun n vs h'=>∃ k:Nat,(∃ x,vs=[x])∧n+k=l.length∧St h [] h' [(i,true,.siter ⟨⟨l⟩⟩ k)]∧∀ j (hj:j<l.length),j<k→p l[j].toNat=true) l.length ⟨0,⟨_,rfl⟩,by omega,s1,fun j _ hj=>by omega⟩ ?_
 rintro n vs h' ⟨m,⟨x,rfl⟩,hn,s2,ha⟩
 unfold Hx
 refine UE s2 (fun hk=>?_) fun hk r w h3 s3 hw h7 h8=>?_
 ·(repeat refine aG rfl ?_)
  have:=k h' s2.fr
  rw[zP fun j hj=>ha j hj (by omega)]at this
  exact this
 ·(repeat refine aG rfl ?_)
  refine ht r _ _ ?_
  (repeat refine bi ?_)
  rcases Nat.lt_or_ge l[m].toNat 128 with h9|h9
  ·obtain⟨rfl,rfl⟩:=h7 h9
   cases hpm:p l[m].toNat with
   | true=>
     refine ah (fun h=>by cases h) (fun _=>?_)
     refine⟨n-1,by omega,m+1,⟨_,rfl⟩,by omega,s3,fun j hj hj2=>?_⟩
     rcases Nat.lt_or_eq_of_le (Nat.le_of_lt_succ hj2) with h1|h1
     ·exact ha j hj h1
     ·subst h1;exact hpm
   | false=>
     refine ah (fun _=>?_) (fun h=>by cases h)
     refine qt (by omega) (by omega) ?_
     have:=k h3 s3.fr
     rw[tt hk (fun j hj=>ha j (by omega) hj) hpm]at this
     simpa using this
  ·rw[hp r (h8 h9)]
   refine ah (fun _=>?_) (fun h=>by cases h)
   refine qt (by omega) (by omega) ?_
   have:=k h3 s3.fr
   rw[tt hk (fun j hj=>ha j (by omega) hj) (hp _ h9)]at this
   simpa using this
def x9 (c:Nat):Bool:=(decide (97≤c)&&decide (c≤122))||decide (c=95)
def bu (c:Nat):Bool:=decide (48≤c)&&decide (c≤57)
def dp (c:Nat):Bool:=x9 c||bu c
def wx (c:Nat):Bool:=bu c||(decide (97≤c)&&decide (c≤102))
theorem vZ {a b:Nat}:decide ((a:Int)≤(b:Int))=decide (a≤b):=by rw[Bool.eq_iff_iff,decide_eq_true_eq,decide_eq_true_eq];omega
theorem acO {a b:Nat}:decide ((a:Int)=(b:Int))=decide (a=b):=by rw[Bool.eq_iff_iff,decide_eq_true_eq,decide_eq_true_eq];omega
theorem Yt (c:Nat) {h:ae}{Q:QT}(k:Q (B (x9 c)) h):C sZ [R32 c] h Q:=by
 refine Jz _ _ _ ?_
 unfold G7
 have e1:decide ((97:Int)≤c)=decide (97≤c):=vZ (a:=97)
 have e2:decide ((c:Int)≤122)=decide (c≤122):=vZ (b:=122)
 have e3:decide ((c:Int)=95)=decide (c=95):=acO (b:=95)
 unfold x9 at k
 refine bz ?_
 rw[e1]
 cases h1:decide (97≤c) with
 | true=>
   refine ah (fun _=>?_) (fun h=>by cases h)
   rw[h1,Bool.true_and]at k
   refine fQ ?_
   rw[e2]
   cases h2:decide (c≤122) with
   | true=>
     refine ah (fun _=>?_) (fun h=>by cases h)
     rw[h2,Bool.true_or]at k;exact k
   | false=>
     refine ah (fun h=>by cases h) (fun _=>?_)
     refine aA ?_
     rw[e3];rw[h2,Bool.false_or]at k;exact k
 | false=>
   refine ah (fun h=>by cases h) (fun _=>?_)
   refine aA ?_
   rw[e3];rw[h1,Bool.false_and,Bool.false_or]at k;exact k
theorem Br (c:Nat) {h:ae}{Q:QT}(k:Q (B (bu c)) h):C cZ [R32 c] h Q:=by
 refine I5 _ _ _ ?_
 unfold H3
 have e1:decide ((48:Int)≤c)=decide (48≤c):=vZ (a:=48)
 have e2:decide ((c:Int)≤57)=decide (c≤57):=vZ (b:=57)
 unfold bu at k
 refine bz ?_
 rw[e1]
 cases h1:decide (48≤c) with
 | true=>
   refine ah (fun _=>?_) (fun h=>by cases h)
   refine fQ ?_
   rw[h1,Bool.true_and]at k
   rw[e2];exact k
 | false=>
   refine ah (fun h=>by cases h) (fun _=>?_)
   rw[h1,Bool.false_and]at k;exact k
theorem Zl (c:Nat) {h:ae}{Q:QT}(k:Q (B (dp c)) h):C eb [R32 c] h Q:=by
 refine JI _ _ _ ?_
 unfold Gy
 refine Yt c ?_
 unfold dp at k
 cases h1:x9 c with
 | true=>
   refine ah (fun _=>?_) (fun h=>by cases h)
   rw[h1,Bool.true_or]at k;exact k
 | false=>
   refine ah (fun h=>by cases h) (fun _=>?_)
   rw[h1,Bool.false_or]at k
   exact Br c k
theorem acm (c:Nat) {h:ae}{Q:QT}(k:Q (B (wx c)) h):C l6 [R32 c] h Q:=by
 refine Og _ _ _ ?_
 unfold OD
 refine Br c ?_
 unfold wx at k
 have e1:decide ((97:Int)≤c)=decide (97≤c):=vZ (a:=97)
 have e2:decide ((c:Int)≤102)=decide (c≤102):=vZ (b:=102)
 cases h1:bu c with
 | true=>
   refine ah (fun _=>?_) (fun h=>by cases h)
   rw[h1,Bool.true_or]at k;exact k
 | false=>
   refine ah (fun h=>by cases h) (fun _=>?_)
   rw[h1,Bool.false_or]at k
   refine bz ?_
   rw[e1]
   cases h2:decide (97≤c) with
   | true=>
     refine pk (ah (fun _=>?_) (fun h=>by cases h)) ⟨_,rfl⟩
     rw[h2,Bool.true_and]at k
     refine fQ ?_
     rw[e2];exact k
   | false=>
     refine pk (ah (fun h=>by cases h) (fun _=>?_)) ⟨_,rfl⟩
     rw[h2,Bool.false_and]at k;exact k
theorem vi (l:Str) {h:ae}{Q:QT}(k:∀ h',Fr [] h h'→Q (T (l.takeWhile fun c=>dp c.toNat)) h'):C cP [T l,.fn (.func eb) [] []] h Q:=
 YH (fv:=.fn (.func eb) [] []) (p:=dp) (fun c h Q k=>Zl c k) (fun c hc=>by simp[dp,x9,bu];omega) l k
theorem IV (l:Str) {h:ae}{Q:QT}(k:∀ h',Fr [] h h'→Q (T (l.takeWhile fun c=>bu c.toNat)) h'):C cP [T l,.fn (.func cZ) [] []] h Q:=
 YH (fv:=.fn (.func cZ) [] []) (p:=bu) (fun c h Q k=>Br c k) (fun c hc=>by simp[bu];omega) l k
theorem QX (l:Str) {h:ae}{Q:QT}(k:∀ h',Fr [] h h'→Q (T (l.takeWhile fun c=>wx c.toNat)) h'):C cP [T l,.fn (.func l6) [] []] h Q:=
 YH (fv:=.fn (.func l6) [] []) (p:=wx) (fun c h Q k=>acm c k) (fun c hc=>by simp[wx,bu];omega) l k
def eL (s:Str):Bool:=match s with
 | []=>false
 | c::t=>decide (s.length≤12)&&(!bu c.toNat&&(s.all (fun c=>dp c.toNat)&&(decide (c≠114)||(t.isEmpty||!(t.all fun c=>bu c.toNat)))))
theorem tM (p:UInt8→Bool) (l:Str):decide (l.takeWhile p=l)=l.all p:=by
 rw[Bool.eq_iff_iff];simp[takeWhile_self]
theorem Z9 (s:Str) {h:ae}{Q:QT}(k:∀ h',Fr [] h h'→Q (B (eL s)) h'):C mV [T s] h Q:=by
 refine M4 _ _ _ ?_
 unfold Kp
 cases s with
 | nil=>(repeat refine aU ?_);exact k _ (Fr.refl _ _)
 | cons c t=>
 dsimp only[eL]at k
 (repeat (first|refine aZ ?_|refine bL ?_|refine aU ?_))
 refine ah (fun hl=>?_) (fun hl=>?_)<;>simp only[za,zb,zc,zd,ze,zf,zg,zh,zi,u8i,zj,zk,zl]at hl
 ·have e:decide ((c::t).length≤12)=false:=by simp at hl ⊢;omega
  rw[e,Bool.false_and]at k
  exact k _ (Fr.refl _ _)
 have e:decide ((c::t).length≤12)=true:=by simp at hl ⊢;omega
 rw[e,Bool.true_and]at k
 refine ib (by omega) (by simp) ?_
 refine eF ?_
 have e3:IntKind.i32.wrap ((c::t)[Int.toNat 0].toNat:Int)=(c.toNat:Nat):=by
  have:=c.toNat_lt
  simp[IntKind.wrap,IntKind.bits,IntKind.signed];omega
 rw[e3]
 refine Br c.toNat ?_
 cases h2:bu c.toNat with
 | true=>
   refine ah (fun _=>?_) (fun h=>by cases h)
   rw[h2]at k
   exact k _ (Fr.refl _ _)
 | false=>
 refine ah (fun h=>by cases h) (fun _=>?_)
 rw[h2]at k
 simp only[Bool.not_false,Bool.true_and]at k
 refine vi _ fun h1 f1=>?_
 refine pi ?_
 rw[show decide ((c::t).takeWhile (fun c=>dp c.toNat)≠c::t)=!((c::t).all fun c=>dp c.toNat) by rw[← tM];simp]
 cases h3:(c::t).all fun c=>dp c.toNat with
 | false=>
   refine ah (fun _=>?_) (fun h=>by cases h)
   rw[h3,Bool.false_and]at k
   exact k _ f1
 | true=>
 refine ah (fun h=>by cases h) (fun _=>?_)
 rw[h3,Bool.true_and]at k
 refine ib (by omega) (by simp) ?_
 refine cc ?_
 have e4:decide ((((c::t)[Int.toNat 0].toNat:Nat):Int)≠114)=decide (c≠114):=by
  rw[Bool.eq_iff_iff];simp[← UInt8.toNat_inj];omega
 rw[e4]
 cases h4:decide (c≠114) with
 | true=>
   refine ah (fun _=>?_) (fun h=>by cases h)
   rw[h4,Bool.true_or]at k
   exact k _ f1
 | false=>
 refine ah (fun h=>by cases h) (fun _=>?_)
 rw[h4,Bool.false_or]at k
 (repeat (first|refine aZ ?_|refine aA ?_))
 cases t with
 | nil=>refine ah (fun _=>?_) (fun hb=>(by exfalso;first|(simp at hb;done)|(simp at hb;omega)|(revert hb;decide)|omega));exact k _ f1
 | cons d t=>
 refine ah (fun h=>by simp at h;omega) (fun _=>?_)
 refine iy (by omega) (by simp;omega) ?_
 refine iy (by omega) (by simp;omega) ?_
 refine IV _ fun h5 f5=>?_
 refine pi ?_
 have:=k h5 (f1.trans f5 (by simp))
 rw[show ((c::d::t).drop (Int.toNat 1))=d::t from rfl]
 rw[show decide ((d::t).takeWhile (fun c=>bu c.toNat)≠d::t)=!((d::t).all fun c=>bu c.toNat) by rw[← tM];simp]
 exact this
end
section
variable [Tabs]
inductive Ex where
 | none
 | num (n:Nat)
 | name (s:Str)
 | here
 | neg (e:Ex)
 | bin (k:Nat) (a b:Ex)
 deriving DecidableEq
def br:Ex→List AV
 | .none=>[I 0,I 0,T [],.full 0 []]
 | .num n=>[I 1,I (n:Nat),T [],.full 0 []]
 | .name s=>[I 2,I 0,T s,.full 0 []]
 | .here=>[I 3,I 0,T [],.full 0 []]
 | .neg e=>[I 4,I 0,T [],.full 1 (br e)]
 | .bin k a b=>[I (k:Nat),I 0,T [],.full 2 (br a++br b)]
theorem aw (e:Ex):(br e).length=4:=by cases e<;>rfl
theorem aW (e:Ex):(br e).all AV.one=true:=by cases e<;>rfl
abbrev pO (l:Str) (d:Nat) (b:Bool):AObj:=.cells [T l,I (d:Nat),B b]
abbrev blk (l:Str):Str:=iR 32 l
theorem nQ (c:UInt8):∀ l:Str,iR c (iR c l)=iR c l
 | []=>rfl
 | x::l=>by
   by_cases h:x=c
   ·rw[iR,if_pos h];exact nQ c l
   ·rw[iR,if_neg h,iR,if_neg h]
theorem nC (c:UInt8):∀ l:Str,(iR c l).length≤l.length
 | []=>by simp[iR]
 | x::l=>by
   have:=nC c l
   unfold iR;split<;>simp<;>omega
section
variable {i d:Nat}{l:Str}{h:ae}{Q:QT}
theorem vB {b:Bool}(e:h[i]?=some (pO l d b)) (k:∀ h',Fr [i] h h'→h'[i]?=some (pO l d true)→Q (.agg (br .none)) h'):C bX [.ptr i 0] h Q:=by
 refine y6 _ _ _ ?_
 unfold uy
 have s:=St.start1 e
 refine aM s fun j h1 s1=>?_
 (repeat (first|refine au ?_|refine aj ?_))
 refine ax s1 (.tail .head) rfl rfl rfl (nle rfl) fun h2 s2=>?_
 (repeat refine aD rfl ?_)
 refine ax s2 .head rfl rfl rfl (nle rfl) fun h3 s3=>?_
 (repeat refine aF ‹_› (.head _) (nle rfl) ?_)
 exact k _ s3.fr (s3.get (.tail _ (.head _)))
theorem yL {b:Bool}(e:h[i]?=some (pO l d b)) (k:∀ h',Fr [i] h h'→h'[i]?=some (pO (blk l) d b)→Q (.tup []) h'):C fJ [.ptr i 0] h Q:=by
 refine ww _ _ _ ?_
 unfold qG
 have s:=St.start1 e
 (repeat (first|refine au ?_|refine aj ?_|refine ag ‹_› (.head _) rfl ?_))
 refine Nj 32 (by decide) l ?_
 (repeat (first|refine au ?_|refine aj ?_))
 refine ax s .head rfl rfl rfl (nle rfl) fun h2 s2=>?_
 exact k _ s2.fr (s2.get (.head _))
theorem BE {m:Str}(e:h[i]?=some (pO l d false)) (k1:m.isPrefixOf (blk l)=true→∀ h',Fr [i] h h'→h'[i]?=some (pO ((blk l).drop m.length) d false)→Q (B true) h')
  (k0:m.isPrefixOf (blk l)=false→∀ h',Fr [i] h h'→h'[i]?=some (pO (blk l) d false)→Q (B false) h'):C cn [.ptr i 0,T m] h Q:=by
 refine pv _ _ _ _ ?_
 unfold nP
 refine yL e fun h1 f1 e1=>?_
 have s:=(St.start1 e).call1 f1 e1 .head
 (repeat (first|refine au ?_|refine aj ?_|refine ag ‹_› (.head _) rfl ?_))
 refine CK ?_
 (repeat refine bi ?_)
 cases hp:m.isPrefixOf (blk l) with
 | true=>
   refine ah (fun h=>by cases h) (fun _=>?_)
   have hle:=(List.isPrefixOf_iff_prefix.1 hp).length_le
   (repeat (first|refine au ?_|refine aj ?_|refine aZ ?_|refine ag ‹_› (.head _) rfl ?_))
   refine iy (by omega) (by omega) ?_
   (repeat (first|refine au ?_|refine aj ?_))
   refine ax s .head rfl rfl rfl (nle rfl) fun h2 s2=>?_
   exact k1 hp _ s2.fr (s2.get (.head _))
 | false=>
   refine ah (fun _=>?_) (fun h=>by cases h)
   exact k0 hp _ s.fr (s.get (.head _))
theorem GD {m:Str}(e:h[i]?=some (pO l d true)) (k0:∀ h',Fr [i] h h'→h'[i]?=some (pO (blk l) d true)→Q (B false) h'):C cn [.ptr i 0,T m] h Q:=by
 refine pv _ _ _ _ ?_
 unfold nP
 refine yL e fun h1 f1 e1=>?_
 have s:=(St.start1 e).call1 f1 e1 .head
 (repeat (first|refine au ?_|refine aj ?_|refine ag ‹_› (.head _) rfl ?_))
 exact k0 _ s.fr (s.get (.head _))
def signsL:List Str:=[[],[],[],[46],[45],[43],[45],[42],[38],[124],[60,60],[62,62]]
abbrev sg (k:Nat):Str:=(signsL[k]?).getD []
def levelsL:List (List Nat):=[[9],[8],[10,11],[5,6],[7]]
def SP (ks:List Nat):List AV:=[.full ks.length (ks.flatMap fun k=>[I (k:Nat)])]
theorem Qd (k:Q (.full signsL.length (signsL.flatMap fun x=>[T x])) h):C tx [] h Q:=by
 refine JH _ _ ?_
 unfold Hl
 (repeat refine aB rfl rfl ?_)
 exact k
theorem qy (k:Q (.full levelsL.length (levelsL.flatMap SP)) h):C jw [] h Q:=by
 refine I1 _ _ ?_
 unfold Fd
 (repeat refine aB rfl rfl ?_)
 exact k
def dG:List Nat→Str→Nat×Str
 | [],l=>(0,l)
 | k::ks,l=>if (sg k).isPrefixOf (blk l)=true then (k,(blk l).drop (sg k).length) else dG ks (blk l)
theorem Ut (ks:List Nat) (hk:∀ k∈ks,k<12) (hl:ks.length<1000) {v:AV}(r:Row (fun k:Nat=>[I (k:Nat)]) 1 h v ks) (e:h[i]?=some (pO l d false)) (hi:i<h.length)
  (hr:∀ h',Fr [i] h h'→Row (fun k:Nat=>[I (k:Nat)]) 1 h' v ks) (k:∀ h',Fr [i] h h'→h'[i]?=some (pO (dG ks l).2 d false)→Q (I ((dG ks l).1:Nat)) h'):C eO [.ptr i 0,v] h Q:=by
 refine py _ _ _ _ ?_
 unfold nA
 refine r.len ?_
 refine aO (fun n vs h'=>∃ (j:Nat) (b:AV) (l':Str),vs=[b,I (j:Nat)]∧n+j=ks.length∧Fr [i] h h'∧h'[i]?=some (pO l' d false)∧dG (ks.drop j) l'=dG ks l) ks.length ⟨0,_,l,rfl,by omega,Fr.refl _ _,e,rfl⟩ ?_
 rintro n vs h' ⟨j,b,l',rfl,hn,f1,e1,hm⟩
 unfold kL
 (repeat refine aJ ?_)
 refine ah (fun hb=>?_) (fun hb=>?_)<;>simp only[za,zb,zc,zd,ze,zf,zg,zh,zi,u8i,zj,zk,zl]at hb
 ·have hj:j<ks.length:=hb
  refine (hr h' f1).idx (fun _=>rfl) hj fun p t=>?_
  refine aK t ?_
  refine Qd ?_
  have hk12:ks[j]<signsL.length:=hk _ (by simp)
  refine (Row.full (h:=h') (enc:=fun x:Str=>[T x]) (fun _=>rfl) signsL).idx (fun _=>rfl) hk12 fun p t=>?_
  refine aK t ?_
  have hsg:signsL[ks[j]]=sg ks[j]:=by simp[sg,hk12]
  rw[List.drop_eq_getElem_cons hj,dG]at hm
  refine BE e1 (fun hp h2 f2 e2=>?_) (fun hp h2 f2 e2=>?_)
  ·refine ah (fun _=>?_) (fun h=>by cases h)
   rw[hsg]at hp e2
   rw[if_pos hp]at hm
   have:=k h2 (f1.trans f2 (by simp)) (by rw[← hm];exact e2)
   rw[← hm]at this;exact this
  ·refine ah (fun h=>by cases h) (fun _=>?_)
   rw[hsg]at hp
   rw[if_neg (by simp[hp])]at hm
   (repeat refine aI (by omega) ?_)
   exact⟨n-1,by omega,j+1,_,_,rfl,by omega,f1.trans f2 (by simp),e2,hm⟩
 ·rw[List.drop_of_length_le (by omega)]at hm
  have:=k h' f1 (by rw[← hm];exact e1)
  rw[← hm]at this;exact this
theorem Gs (ks:List Nat) (hk:∀ k∈ks,k<12) (hl:ks.length<1000) {v:AV}(r:Row (fun k:Nat=>[I (k:Nat)]) 1 h v ks) (e:h[i]?=some (pO l d true))
  (hr:∀ h',Fr [i] h h'→Row (fun k:Nat=>[I (k:Nat)]) 1 h' v ks) (k:∀ l' h',Fr [i] h h'→h'[i]?=some (pO l' d true)→Q (I 0) h'):C eO [.ptr i 0,v] h Q:=by
 refine py _ _ _ _ ?_
 unfold nA
 refine r.len ?_
 refine aO (fun n vs h'=>∃ (j:Nat) (b:AV) (l':Str),vs=[b,I (j:Nat)]∧n+j=ks.length∧Fr [i] h h'∧h'[i]?=some (pO l' d true)) ks.length ⟨0,_,l,rfl,by omega,Fr.refl _ _,e⟩ ?_
 rintro n vs h' ⟨j,b,l',rfl,hn,f1,e1⟩
 unfold kL
 (repeat refine aJ ?_)
 refine ah (fun hb=>?_) (fun hb=>?_)<;>simp only[za,zb,zc,zd,ze,zf,zg,zh,zi,u8i,zj,zk,zl]at hb
 ·have hj:j<ks.length:=hb
  refine (hr h' f1).idx (fun _=>rfl) hj fun p t=>?_
  refine aK t ?_
  refine Qd ?_
  have hk12:ks[j]<signsL.length:=hk _ (by simp)
  refine (Row.full (h:=h') (enc:=fun x:Str=>[T x]) (fun _=>rfl) signsL).idx (fun _=>rfl) hk12 fun p t=>?_
  refine aK t ?_
  refine GD e1 (fun h2 f2 e2=>?_)
  refine ah (fun h=>by cases h) (fun _=>?_)
  (repeat refine aI (by omega) ?_)
  exact⟨n-1,by omega,j+1,_,_,rfl,by omega,f1.trans f2 (by simp),e2⟩
 ·exact k _ h' f1 e1
end
structure PRes (i D:Nat) (m:Option (Ex×Str)) (h:ae) (Q:QT):Prop where
 good:∀ x l' h',m=some (x,l')→Fr [i] h h'→h'[i]?=some (pO l' D false)→Q (.agg (br x)) h'
 bad:∀ cs l' h',m=none→Fr [i] h h'→h'[i]?=some (pO l' D true)→cs.length=4→cs.all AV.one=true→Q (.agg cs) h'
theorem PRes.fr {i D:Nat}{m:Option (Ex×Str)}{h h1:ae}{Q:QT}(r:PRes i D m h Q) (f:Fr [i] h h1):PRes i D m h1 Q:=
 ⟨fun x l' h' e f'=>r.good x l' h' e (f.trans f' (by simp)),fun cs l' h' e f'=>r.bad cs l' h' e (f.trans f' (by simp))⟩
abbrev PF:=Str→Option (Ex×Str)
def je (f:PF):Prop:=∀ l x l',f l=some (x,l')→l'.length≤l.length
def pt (c:UInt8):Nat:=if 97≤c.toNat then c.toNat-97+10 else c.toNat-48
def qV (base:Nat):Str→Nat→Option Nat
 | [],n=>some n
 | c::cs,n=>if 4294967296≤n*base+pt c then none else qV base cs (n*base+pt c)
def fa (sub:PF) (ks:List Nat):Nat→Ex→Str→Option (Ex×Str)
 | 0,x,l=>if (dG ks l).1=0 then some (x,(dG ks l).2) else none
 | n+1,x,l=>if (dG ks l).1=0 then some (x,(dG ks l).2) else match sub (dG ks l).2 with
   | none=>none
   | some (y,l2)=>fa sub ks n (.bin (dG ks l).1 x y) l2
def gP (one:PF):Nat→PF
 | 0=>one
 | r+1=>fun l=>match gP one r l with
   | none=>none
   | some (x,l1)=>fa (gP one r) ((levelsL[4-r]?).getD []) l1.length x l1
def gY (two:PF):PF:=fun l=>match two l with
 | none=>none
 | some (x,l1)=>if ([41]:Str).isPrefixOf (blk l1)=true then some (x,(blk l1).drop 1) else none
def eY (one:PF):PF:=fun l=>match one l with
 | none=>none
 | some (x,l1)=>some (.neg x,l1)
def gv (l:Str):Str:=l.takeWhile fun c=>dp c.toNat
def HJ (l:Str):Str:=l.takeWhile fun c=>bu c.toNat
def Qc (l:Str):Str:=l.takeWhile fun c=>wx c.toNat
def fy (base:Nat) (l ds:Str):Option (Ex×Str):=match qV base ds 0 with
 | none=>none
 | some n=>if gv (l.drop ds.length)=[] then some (.num n,l.drop ds.length) else none
def IE:PF:=fun l=>
 if HJ l≠[] then fy 10 l (HJ l)
 else if eL (gv l)=true then some (.name (gv l),l.drop (gv l).length) else none
def BT:PF:=fun l=>
 if ([48,120]:Str).isPrefixOf l=true then (if Qc (l.drop 2)≠[] then fy 16 (l.drop 2) (Qc (l.drop 2)) else IE l) else IE l
def rR (group minus:PF):PF:=fun l=>
 if ([40]:Str).isPrefixOf (blk l)=true then group ((blk l).drop 1)
 else if ([45]:Str).isPrefixOf (blk l)=true then minus ((blk l).drop 1)
 else if ([46]:Str).isPrefixOf (blk l)=true then some (.here,(blk l).drop 1)
 else BT (blk l)
def Cu:Nat→PF
 | 0=>rR (fun _=>none) fun _=>none
 | d+1=>rR (gY (gP (Cu d) 5)) (eY (Cu d))
def g8 (l:Str):Option Ex:=match gP (Cu 12) 5 l with
 | none=>none
 | some (x,l')=>if blk l'=[] then some x else none
theorem qu (ks:List Nat) (hk:∀ k∈ks,(sg k)≠[]):∀ l:Str,(dG ks l).2.length≤l.length∧((dG ks l).1≠0→(dG ks l).2.length<l.length):=by
 induction ks with
 | nil=>intro l;simp[dG]
 | cons k ks ih=>
   intro l
   unfold dG
   have hb:(blk l).length≤l.length:=nC 32 l
   split
   ·rename_i hp
    have hle:=(List.isPrefixOf_iff_prefix.1 hp).length_le
    have:0<(sg k).length:=List.length_pos_iff.2 (hk k (by simp))
    simp only[List.length_drop]
    exact⟨by omega,fun _=>by omega⟩
   ·obtain⟨h1,h2⟩:=ih (fun k hk'=>hk k (by simp[hk'])) (blk l)
    exact⟨by omega,fun h=>by have:=h2 h;omega⟩
theorem EG {sub:PF}(hs:je sub) (ks:List Nat) (hk:∀ k∈ks,(sg k)≠[]):∀ n x,je (fa sub ks n x)
 | 0,x,l,y,l',e=>by
   have:=(qu ks hk l).1
   unfold fa at e
   split at e
   ·cases e;exact this
   ·cases e
 | n+1,x,l,y,l',e=>by
   have:=(qu ks hk l).1
   unfold fa at e
   split at e
   ·cases e;exact this
   ·split at e
    ·cases e
    ·rename_i z l2 h2
     have h3:=hs _ _ _ h2
     have:=EG hs ks hk n _ _ _ _ e
     omega
theorem yU:∀ ks∈levelsL,(∀ k∈ks,sg k≠[])∧(∀ k∈ks,k<12)∧ks.length<1000:=by decide
theorem J9 {r:Nat}(h:r<5):(levelsL[r]?).getD []∈levelsL:=by
 have:r<levelsL.length:=h
 simp[this]
theorem qY {one:PF}(ho:je one):∀ r,r≤5→je (gP one r)
 | 0,_=>ho
 | r+1,hr=>fun l x l' e=>by
   unfold gP at e
   have ih:=qY ho r (by omega)
   cases h:gP one r l with
   | none=>rw[h]at e;cases e
   | some p=>
     obtain⟨y,l1⟩:=p
     rw[h]at e
     have h1:=ih _ _ _ h
     have:=EG ih _ (yU _ (J9 (by omega))).1 _ _ _ _ _ e
     omega
theorem CG {two:PF}(h2:je two):je (gY two):=fun l x l' e=>by
 unfold gY at e
 cases h:two l with
 | none=>rw[h]at e;cases e
 | some p=>
   obtain⟨y,l1⟩:=p
   rw[h]at e
   have h1:=h2 _ _ _ h
   have hb:(blk l1).length≤l1.length:=nC 32 l1
   simp only at e
   split at e
   ·cases e;simp;omega
   ·cases e
theorem MA {one:PF}(h2:je one):je (eY one):=fun l x l' e=>by
 unfold eY at e
 cases h:one l with
 | none=>rw[h]at e;cases e
 | some p=>
   obtain⟨y,l1⟩:=p
   rw[h]at e
   cases e
   exact h2 _ _ _ h
theorem yF (base:Nat) (l ds:Str) {x:Ex}{l':Str}(e:fy base l ds=some (x,l')):l'.length≤l.length:=by
 unfold fy at e
 split at e
 ·cases e
 ·split at e
  ·cases e;simp
  ·cases e
theorem H4:je IE:=fun l x l' e=>by
 unfold IE at e
 split at e
 ·exact yF _ _ _ e
 ·split at e
  ·cases e;simp
  ·cases e
theorem Qx:je BT:=fun l x l' e=>by
 unfold BT at e
 split at e
 ·split at e
  ·have:=yF _ _ _ e;simp at this;omega
  ·exact H4 _ _ _ e
 ·exact H4 _ _ _ e
theorem EC {group minus:PF}(hg:je group) (hm:je minus):je (rR group minus):=fun l x l' e=>by
 have hb:(blk l).length≤l.length:=nC 32 l
 unfold rR at e
 split at e
 ·have:=hg _ _ _ e;simp at this;omega
 ·split at e
  ·have:=hm _ _ _ e;simp at this;omega
  ·split at e
   ·cases e;simp;omega
   ·have:=Qx _ _ _ e;omega
theorem vo:∀ d,je (Cu d)
 | 0=>EC (fun l x l' e=>by cases e) (fun l x l' e=>by cases e)
 | d+1=>EC (CG (qY (vo d) 5 (Nat.le_refl _))) (MA (vo d))
end
section
variable [Tabs]
section
variable {i D:Nat}{l:Str}{h:ae}{Q:QT}
abbrev zE:List AV:=[I 0,I 0,T [],.full 0 []]
theorem aaq {cs:List AV}(h:cs.length=4):∃ a b c e,cs=[a,b,c,e]:=by
 match cs,h with
 | [a,b,c,e],_=>exact⟨a,b,c,e,rfl⟩
theorem aal {cs zs:List AV}(h:cs.length=4) (hz:zs.length=4):splice zs 0 cs=cs:=by
 simp[splice,h,hz]
theorem aN {h0 h:ae}{M:List Nat}{L L':Own}{j:Nat}{cs zs:List AV}{K:ae→Prop}(s:St h0 M h L) (hz:zs.length=4) (hc:cs.length=4) (ho:cs.all AV.one=true) (u:Sub L (j,true,.cells zs) L' (j,true,.cells cs))
  (k:∀ h',St h0 M h' L'→K h'):ak 4 (.ptr j 0) (.agg cs) h K:=by
 refine ax s (cs:=zs) (L':=L') ?_ rfl hc ho (by omega) k
 rw[show (AV.agg cs).cells=cs from rfl,aal hc hz];exact u
theorem aL {h0 h:ae}{M:List Nat}{L:Own}{j:Nat}{b:Bool}{cs:List AV}{K:AV→Prop}(s:St h0 M h L) (hc:cs.length=4) (u:(j,b,.cells cs)∈L) (k:K (.agg cs)):ap 4 (.ptr j 0) h K:=
 aF s u (by omega) (by rw[List.drop_zero,List.take_of_length_le (by omega)];exact k)
theorem bc:zE.length=4:=rfl
theorem ZH {cs:List AV}(hc:cs.length=4) (ho:cs.all AV.one=true) (e:h[i]?=some (pO l D false))
  (k1:gv l=[]→∀ h',Fr [i] h h'→h'[i]?=some (pO l D false)→Q (.agg cs) h') (k0:gv l≠[]→∀ h',Fr [i] h h'→h'[i]?=some (pO l D true)→Q (.agg zE) h'):C cM [.ptr i 0,.agg cs] h Q:=by
 refine o8 _ _ _ _ ?_
 unfold mY
 refine bC (St.start1 e) rfl fun j h1 s1=>?_
 refine aM s1 fun q h2 s2=>?_
 (repeat (first|refine au ?_|refine aj ?_|refine ag ‹_› (by first|exact .head _|exact .tail _ (.tail _ (.head _))) rfl ?_))
 refine vi l fun h3 f3=>?_
 have s3:=s2.call f3
 refine pi ?_
 refine ah (fun hb=>?_) (fun hb=>?_)<;>simp only[za,zb,zc,zd,ze,zf,zg,zh,zi,u8i,zj,zk,zl]at hb
 ·refine vB (s3.get (.tail _ (.tail _ (.head _)))) fun h4 f4 e4=>?_
  have s4:=s3.call1 f4 e4 (.tail (.tail .head))
  refine aN s4 bc (aw _) (aW _) .head fun h5 s5=>?_
  refine aL s5 (aw _) (.head _) ?_
  exact k0 hb _ s5.fr (s5.get (.tail _ (.tail _ (.head _))))
 ·have hb:gv l=[]:=by
   unfold gv
   simpa using hb
  refine aL s3 hc (.tail _ (.head _)) ?_
  refine aN s3 bc hc ho .head fun h5 s5=>?_
  refine aL s5 hc (.head _) ?_
  exact k1 hb _ s5.fr (s5.get (.tail _ (.tail _ (.head _))))
theorem Il {base:Nat}(hb:base≤16) (c:UInt8) (n:Nat) (hn:n<4294967296):n*base+pt c<9223372036854775807:=by
 have h1:=c.toNat_lt
 have h2:pt c<1000:=by unfold pt;split<;>omega
 have:n*base≤4294967296*16:=Nat.mul_le_mul (by omega) hb
 omega
theorem WM (base:Nat) (hb:base≤16) (ds:Str) (hds:∀ c∈ds,wx c.toNat=true) (hle:ds.length≤l.length) (e:h[i]?=some (pO l D false))
  (k1:∀ n,qV base ds 0=some n→∀ h',Fr [i] h h'→h'[i]?=some (pO (l.drop ds.length) D false)→Q (.agg (br (.num n))) h')
  (k0:qV base ds 0=none→∀ h',Fr [i] h h'→h'[i]?=some (pO l D true)→Q (.agg zE) h'):C cy [.ptr i 0,T ds,I (base:Nat)] h Q:=by
 refine wo _ _ _ _ _ ?_
 unfold qP
 refine aM (St.start1 e) fun q h1 s1=>?_
 refine JW s1 fun j h2 s2=>?_
 refine aO (fun n vs h'=>∃ (k m:Nat),vs=[I (m:Nat)]∧m<4294967296∧n+k=ds.length∧St h [i] h' [(j,true,.siter ⟨⟨ds⟩⟩ k),(q,true,.cells zE),(i,true,pO l D false)]∧qV base (ds.drop k) m=qV base ds 0) ds.length ⟨0,0,rfl,by omega,by omega,s2,rfl⟩ ?_
 rintro n vs h' ⟨k,m,rfl,hm,hn,s3,hnum⟩
 unfold me
 refine UE s3 (fun hk=>?_) fun hk r w h4 s4 hw h7 h8=>?_
 ·rw[List.drop_of_length_le (by omega),qV]at hnum
  (repeat (first|refine au ?_|refine aj ?_|refine aZ ?_|refine aG rfl ?_|refine ag ‹_› (by first|exact .tail _ (.head _)|exact .tail _ (.tail _ (.head _))) rfl ?_))
  refine iy (by omega) (by omega) ?_
  (repeat (first|refine au ?_|refine aj ?_))
  refine ax s3 (.tail (.tail .head)) rfl rfl rfl (nle rfl) fun h5 s5=>?_
  (repeat refine aD rfl ?_)
  refine aN s5 bc rfl rfl (.tail .head) fun h6 s6=>?_
  refine aL s6 rfl (.tail _ (.head _)) ?_
  exact k1 m hnum.symm _ s6.fr (s6.get (.tail _ (.tail _ (.head _))))
 ·have hhex:=hds ds[k] (by simp)
  have hlt:ds[k].toNat<128:=by
   unfold wx bu at hhex;simp at hhex;omega
  obtain⟨rfl,rfl⟩:=h7 hlt
  rw[List.drop_eq_getElem_cons hk,qV]at hnum
  have hd:=Il hb ds[k] m hm
  have hdv:pt ds[k]<1000:=by unfold pt;split<;>omega
  have hmb:(m:Int)*base=((m*base:Nat):Int):=by simp
  have fin:fF (I (pt ds[k]:Nat)) (I (m:Nat)) (.ptr q 0) (.ptr i 0) (I (base:Nat)) h4 (fun vs' h'=>∃ m_1,m_1<n∧∃ (k m:Nat),vs'=[I (m:Nat)]∧m<4294967296∧m_1+k=ds.length∧St h [i] h' [(j,true,.siter ⟨⟨ds⟩⟩ k),(q,true,.cells zE),(i,true,pO l D false)]∧qV base (ds.drop k) m=qV base ds 0) Q:=by
   unfold fF
   refine vx (by rw[hmb];omega) ?_
   rw[hmb]
   refine aI (by omega) ?_
   have e2:((m*base:Nat):Int)+(pt ds[k]:Nat)=((m*base+pt ds[k]:Nat):Int):=by simp
   rw[e2]
   refine bz ?_
   refine ah (fun hb=>?_) (fun hb=>?_)
   ·simp only[decide_eq_true_eq]at hb
    rw[if_pos (by omega)]at hnum
    refine vB (s4.get (.tail _ (.tail _ (.head _)))) fun h5 f5 e5=>?_
    have s5:=s4.call1 f5 e5 (.tail (.tail .head))
    refine aN s5 bc (aw _) (aW _) (.tail .head) fun h6 s6=>?_
    refine aL s6 (aw _) (.tail _ (.head _)) ?_
    exact k0 hnum.symm _ s6.fr (s6.get (.tail _ (.tail _ (.head _))))
   ·simp only[decide_eq_false_iff_not]at hb
    rw[if_neg (by omega)]at hnum
    exact⟨n-1,by omega,k+1,_,rfl,by omega,by omega,s4,hnum⟩
  (repeat refine aG rfl ?_)
  refine F4 ?_
  refine eF ?_
  refine bz ?_
  refine ah (fun hb=>?_) (fun hb=>?_)
  ·simp only[decide_eq_true_eq]at hb
   refine F4 ?_
   refine eF ?_
   have e1:IntKind.i64.wrap (IntKind.i32.wrap ((ds[k].toNat:Nat)-97))=((ds[k].toNat-97:Nat):Int):=by
    have:IntKind.i32.wrap ((ds[k].toNat:Nat)-97)=((ds[k].toNat-97:Nat):Int):=by
     simp[IntKind.wrap,IntKind.bits,IntKind.signed];omega
    rw[this];exact uk (by omega)
   rw[e1]
   refine aI (by omega) ?_
   have e2:((ds[k].toNat-97:Nat):Int)+10=(pt ds[k]:Nat):=by unfold pt;rw[if_pos (by omega)];omega
   rw[e2]
   exact fin
  ·simp only[decide_eq_false_iff_not]at hb
   have e1:IntKind.i64.wrap (IntKind.i32.wrap ((ds[k].toNat:Nat)-48))=(pt ds[k]:Nat):=by
    have h48:48≤ds[k].toNat:=by unfold wx bu at hhex;simp at hhex;omega
    have:IntKind.i32.wrap ((ds[k].toNat:Nat)-48)=((ds[k].toNat-48:Nat):Int):=by
     simp[IntKind.wrap,IntKind.bits,IntKind.signed];omega
    rw[this,uk (by omega)]
    unfold pt;rw[if_neg (by omega)]
   rw[e1]
   exact fin
theorem Yu (l:Str):(gv l).length≤l.length:=(List.takeWhile_sublist _).length_le
theorem ZN (l:Str):(HJ l).length≤l.length:=(List.takeWhile_sublist _).length_le
theorem ZC (l:Str):(Qc l).length≤l.length:=(List.takeWhile_sublist _).length_le
theorem tG {p:UInt8→Bool}:∀ {l:Str}{c:UInt8},c∈l.takeWhile p→p c=true
 | [],c,h=>by simp at h
 | a::l,c,h=>by
   cases hp:p a with
   | true=>
     rw[List.takeWhile_cons_of_pos hp]at h
     rcases List.mem_cons.1 h with rfl|h
     ·exact hp
     ·exact tG h
   | false=>rw[List.takeWhile_cons_of_neg (by simp[hp])]at h;simp at h
theorem ZP (l:Str):∀ c∈HJ l,wx c.toNat=true:=fun c hc=>by
 have:bu c.toNat=true:=tG hc
 unfold wx;rw[this];rfl
theorem Zs (l:Str):∀ c∈Qc l,wx c.toNat=true:=fun c hc=>tG hc
theorem E9 (base:Nat) (hb:base≤16) (ds:Str) (hds:∀ c∈ds,wx c.toNat=true) (hle:ds.length≤l.length) (e:h[i]?=some (pO l D false)) (r:PRes i D (fy base l ds) h Q):
  C cy [.ptr i 0,T ds,I (base:Nat)] h fun t h1=>C cM [.ptr i 0,t] h1 Q:=by
 refine WM base hb ds hds hle e (fun n hn h1 f1 e1=>?_) (fun hn h1 f1 e1=>?_)
 ·have hm:fy base l ds=if gv (l.drop ds.length)=[] then some (.num n,l.drop ds.length) else none:=by unfold fy;rw[hn]
  refine ZH (aw _) (aW _) e1 (fun h2 h3 f3 e3=>?_) (fun h2 h3 f3 e3=>?_)
  ·rw[if_pos h2]at hm
   exact r.good _ _ _ hm (f1.trans f3 (by simp)) e3
  ·rw[if_neg h2]at hm
   exact r.bad _ _ _ hm (f1.trans f3 (by simp)) e3 rfl rfl
 ·have hm:fy base l ds=none:=by unfold fy;rw[hn]
  refine o8 _ _ _ _ ?_
  unfold mY
  refine bC (St.start1 e1) rfl fun j h2 s2=>?_
  refine aM s2 fun q h3 s3=>?_
  (repeat (first|refine au ?_|refine aj ?_|refine ag ‹_› (by first|exact .head _|exact .tail _ (.tail _ (.head _))) rfl ?_))
  refine vi l fun h4 f4=>?_
  have s4:=s3.call f4
  refine pi ?_
  refine ah (fun hbb=>?_) (fun hbb=>?_)<;>simp only[za,zb,zc,zd,ze,zf,zg,zh,zi,u8i,zj,zk,zl]at hbb
  ·refine vB (s4.get (.tail _ (.tail _ (.head _)))) fun h5 f5 e5=>?_
   have s5:=s4.call1 f5 e5 (.tail (.tail .head))
   refine aN s5 bc (aw _) (aW _) .head fun h6 s6=>?_
   refine aL s6 (aw _) (.head _) ?_
   exact r.bad _ _ _ hm (f1.trans s6.fr (by simp)) (s6.get (.tail _ (.tail _ (.head _)))) rfl rfl
  ·refine aL s4 bc (.tail _ (.head _)) ?_
   refine aN s4 bc bc rfl .head fun h6 s6=>?_
   refine aL s6 bc (.head _) ?_
   exact r.bad _ _ _ hm (f1.trans s6.fr (by simp)) (s6.get (.tail _ (.tail _ (.head _)))) rfl rfl
def zW (f:FuncId) (args:List AV) (D:Nat) (m:PF):Prop:=∀ (l:Str) (h:ae) (Q:QT) (i:Nat),h[i]?=some (pO l D false)→PRes i D (m l) h Q→C f (.ptr i 0::args) h Q
theorem Y0 {two:PF}(ht:zW cL [I 0] D two):zW gj [] D (gY two):=fun l h Q i e r=>by
 refine yx _ _ _ ?_
 unfold rF
 refine aM (St.start1 e) fun q h1 s1=>?_
 refine ht l h1 _ i (s1.get (.tail _ (.head _))) ⟨fun x l' h2 hm f2 e2=>?_,fun cs l' h2 hm f2 e2 hc ho=>?_⟩
 ·have s2:=s1.call1 f2 e2 (.tail .head)
  have hm2:gY two l=if ([41]:Str).isPrefixOf (blk l')=true then some (x,(blk l').drop 1) else none:=by unfold gY;rw[hm]
  refine aM s2 fun q2 h3 s3=>?_
  refine aN s3 bc (aw _) (aW _) .head fun h4 s4=>?_
  refine BE (m:=[41]) (s4.get (.tail _ (.tail _ (.head _)))) (fun hp h5 f5 e5=>?_) (fun hp h5 f5 e5=>?_)
  ·have s5:=s4.call1 f5 e5 (.tail (.tail .head))
   rw[if_pos hp]at hm2
   refine bi ?_
   refine ah (fun h=>by cases h) (fun _=>?_)
   refine aL s5 (aw _) (.head _) ?_
   refine aN s5 bc (aw _) (aW _) (.tail .head) fun h6 s6=>?_
   refine aL s6 (aw _) (.tail _ (.head _)) ?_
   exact r.good _ _ _ hm2 s6.fr (s6.get (.tail _ (.tail _ (.head _))))
  ·have s5:=s4.call1 f5 e5 (.tail (.tail .head))
   rw[if_neg (by simp[hp])]at hm2
   refine bi ?_
   refine ah (fun _=>?_) (fun h=>by cases h)
   refine vB (s5.get (.tail _ (.tail _ (.head _)))) fun h6 f6 e6=>?_
   have s6:=s5.call1 f6 e6 (.tail (.tail .head))
   refine aN s6 bc (aw _) (aW _) (.tail .head) fun h7 s7=>?_
   refine aL s7 (aw _) (.tail _ (.head _)) ?_
   exact r.bad _ _ _ hm2 s7.fr (s7.get (.tail _ (.tail _ (.head _)))) rfl rfl
 ·have s2:=s1.call1 f2 e2 (.tail .head)
  have hm2:gY two l=none:=by unfold gY;rw[hm]
  refine aM s2 fun q2 h3 s3=>?_
  refine aN s3 bc hc ho .head fun h4 s4=>?_
  refine GD (m:=[41]) (s4.get (.tail _ (.tail _ (.head _)))) fun h5 f5 e5=>?_
  have s5:=s4.call1 f5 e5 (.tail (.tail .head))
  refine bi ?_
  refine ah (fun _=>?_) (fun h=>by cases h)
  refine vB (s5.get (.tail _ (.tail _ (.head _)))) fun h6 f6 e6=>?_
  have s6:=s5.call1 f6 e6 (.tail (.tail .head))
  refine aN s6 bc (aw _) (aW _) (.tail .head) fun h7 s7=>?_
  refine aL s7 (aw _) (.tail _ (.head _)) ?_
  exact r.bad _ _ _ hm2 s7.fr (s7.get (.tail _ (.tail _ (.head _)))) rfl rfl
theorem ZJ {one:PF}(ht:zW dk [] D one):zW gm [] D (eY one):=fun l h Q i e r=>by
 refine xk _ _ _ ?_
 unfold ry
 refine aM (St.start1 e) fun q h1 s1=>?_
 refine ht l h1 _ i (s1.get (.tail _ (.head _))) ⟨fun x l' h2 hm f2 e2=>?_,fun cs l' h2 hm f2 e2 hc ho=>?_⟩
 ·have s2:=s1.call1 f2 e2 (.tail .head)
  have hm2:eY one l=some (.neg x,l'):=by unfold eY;rw[hm]
  refine aB rfl (by simp[AV.isTup,AV.cells,aw]) ?_
  rw[show ([AV.agg (br x)].flatMap fun x=>x.cells)=br x by simp[AV.cells]]
  (repeat refine aD rfl ?_)
  refine aN s2 bc rfl rfl .head fun h7 s7=>?_
  refine aL s7 rfl (.head _) ?_
  exact r.good _ _ _ hm2 s7.fr (s7.get (.tail _ (.head _)))
 ·have s2:=s1.call1 f2 e2 (.tail .head)
  have hm2:eY one l=none:=by unfold eY;rw[hm]
  refine aB rfl (by simp[AV.isTup,AV.cells,hc]) ?_
  (repeat refine aD rfl ?_)
  refine aN s2 bc rfl rfl .head fun h7 s7=>?_
  refine aL s7 rfl (.head _) ?_
  exact r.bad _ _ _ hm2 s7.fr (s7.get (.tail _ (.head _))) rfl rfl
theorem Ko {f:FuncId}{m:PF}(hf:zW f [] (D+1) m) (hD:D<12):∀ (l:Str) (h:ae) (Q:QT) (i:Nat),h[i]?=some (pO l D false)→PRes i D (m l) h Q→C cW [.ptr i 0,.fn (.func f) [.ptr i 0] []] h Q:=fun l h Q i e r=>by
 refine nz _ _ _ _ ?_
 unfold lL
 refine aM (St.start1 e) fun q h1 s1=>?_
 (repeat (first|refine au ?_|refine aj ?_|refine bz ?_|refine ag ‹_› (by first|exact .head _|exact .tail _ (.head _)) rfl ?_))
 refine ah (fun hb=>absurd hb (by simp;omega)) (fun _=>?_)
 (repeat (first|refine au ?_|refine aj ?_|refine aI (by omega) ?_|refine ag ‹_› (by first|exact .head _|exact .tail _ (.head _)) rfl ?_))
 refine ax s1 (.tail .head) rfl rfl rfl (nle rfl) fun h2 s2=>?_
 have s2:St h [i] h2 [(q,true,.cells zE),(i,true,pO l (D+1) false)]:=s2
 show ACall Pg f [.ptr i 0] _ _
 refine hf l h2 _ i (s2.get (.tail _ (.head _))) ⟨fun x l' h3 hm f3 e3=>?_,fun cs l' h3 hm f3 e3 hc ho=>?_⟩
 ·have s3:=s2.call1 f3 e3 (.tail .head)
  refine aM s3 fun q2 h4 s4=>?_
  refine aN s4 bc (aw _) (aW _) .head fun h5 s5=>?_
  (repeat (first|refine au ?_|refine aj ?_|refine cC (by omega) ?_|refine ag ‹_› (by first|exact .head _|exact .tail _ (.tail _ (.head _))) rfl ?_))
  have eD:((D+1:Nat):Int)-1=(D:Nat):=by omega
  rw[eD]
  refine ax s5 (.tail (.tail .head)) rfl rfl rfl (nle rfl) fun h6 s6=>?_
  have s6:St h [i] h6 [(q2,true,.cells (br x)),(q,true,.cells zE),(i,true,pO l' D false)]:=s6
  refine aL s6 (aw _) (.head _) ?_
  refine aN s6 bc (aw _) (aW _) (.tail .head) fun h7 s7=>?_
  refine aL s7 (aw _) (.tail _ (.head _)) ?_
  exact r.good _ _ _ hm s7.fr (s7.get (.tail _ (.tail _ (.head _))))
 ·have s3:=s2.call1 f3 e3 (.tail .head)
  refine aM s3 fun q2 h4 s4=>?_
  refine aN s4 bc hc ho .head fun h5 s5=>?_
  (repeat (first|refine au ?_|refine aj ?_|refine cC (by omega) ?_|refine ag ‹_› (by first|exact .head _|exact .tail _ (.tail _ (.head _))) rfl ?_))
  have eD:((D+1:Nat):Int)-1=(D:Nat):=by omega
  rw[eD]
  refine ax s5 (.tail (.tail .head)) rfl rfl rfl (nle rfl) fun h6 s6=>?_
  have s6:St h [i] h6 [(q2,true,.cells cs),(q,true,.cells zE),(i,true,pO l' D true)]:=s6
  refine aL s6 hc (.head _) ?_
  refine aN s6 bc hc ho (.tail .head) fun h7 s7=>?_
  refine aL s7 hc (.tail _ (.head _)) ?_
  exact r.bad _ _ _ hm s7.fr (s7.get (.tail _ (.tail _ (.head _)))) hc ho
theorem EB (fv:AV):∀ (l:Str) (h:ae) (Q:QT) (i:Nat),h[i]?=some (pO l 12 false)→PRes i 12 none h Q→C cW [.ptr i 0,fv] h Q:=fun l h Q i e r=>by
 refine nz _ _ _ _ ?_
 unfold lL
 refine aM (St.start1 e) fun q h1 s1=>?_
 (repeat (first|refine au ?_|refine aj ?_|refine bz ?_|refine ag ‹_› (by first|exact .head _|exact .tail _ (.head _)) rfl ?_))
 refine ah (fun _=>?_) (fun hb=>(by exfalso;first|(simp at hb;done)|(simp at hb;omega)|(revert hb;decide)|omega))
 refine vB (s1.get (.tail _ (.head _))) fun h2 f2 e2=>?_
 have s2:=s1.call1 f2 e2 (.tail .head)
 refine aN s2 bc (aw _) (aW _) .head fun h3 s3=>?_
 refine aL s3 (aw _) (.head _) ?_
 exact r.bad _ _ _ rfl s3.fr (s3.get (.tail _ (.head _))) rfl rfl
end
end
section
variable [Tabs]
section
variable {i D:Nat}{l:Str}{h:ae}{Q:QT}
def abK (f:FuncId) (D:Nat) (m:PF):Prop:=∀ (l:Str) (h:ae) (Q:QT) (i:Nat),h[i]?=some (pO l D false)→PRes i D (m l) h Q→C cW [.ptr i 0,.fn (.func f) [.ptr i 0] []] h Q
theorem YY {h0:ae}{q:Nat}{b:Str}(s:St h0 [i] h [(q,true,.cells zE),(i,true,pO b D false)]) (r:PRes i D (IE b) h0 Q):
  aE (.ptr i 0) fun t61=>ab 0 t61 fun t62=>af t62 h fun t63=>C cP [t63,(.fn (.func cZ) [] [])] h fun t64 h22=>
   ai .neq t64 (S ⟨#[]⟩) fun t66=>ifB t66 (
    C cy [.ptr i 0,t64,(I 10)] h22 fun t70 h23=>C cM [.ptr i 0,t70] h23 fun t71 h24=>
    ak 4 (.ptr q 0) t71 h24 fun h25=>ap 4 (.ptr q 0) h25 fun r26=>Q r26 h25) (
    aE (.ptr i 0) fun t73=>ab 0 t73 fun t74=>af t74 h22 fun t75=>C cP [t75,(.fn (.func eb) [] [])] h22 fun t76 h27=>C mV [t76] h27 fun t78 h28=>
    ifB t78 (
     aE (.ptr i 0) fun t81=>ab 0 t81 fun t82=>af t82 h28 fun t83=>bF t76 fun t85=>bn t83 (some t85) none fun t86=>
     aE (.ptr i 0) fun t87=>ab 0 t87 fun t88=>ak 1 t88 t86 h28 fun h29=>ay [(I 0),(I 0),(S ⟨#[]⟩),(.full 0 [])] [(0,1,(I 2)),(2,1,t76)] fun t90=>
     ak 4 (.ptr q 0) t90 h29 fun h30=>ap 4 (.ptr q 0) h30 fun r31=>Q r31 h30) (
     C bX [.ptr i 0] h28 fun t92 h32=>ak 4 (.ptr q 0) t92 h32 fun h33=>ap 4 (.ptr q 0) h33 fun r34=>Q r34 h33)):=by
 (repeat (first|refine au ?_|refine aj ?_|refine ag ‹_› (by first|exact .head _|exact .tail _ (.head _)) rfl ?_))
 refine IV b fun h1 f1=>?_
 have s1:=s.call f1
 refine pi ?_
 unfold IE at r
 refine ah (fun hb=>?_) (fun hb=>?_)<;>simp only[za,zb,zc,zd,ze,zf,zg,zh,zi,u8i,zj,zk,zl]at hb
 ·rw[if_pos (by exact hb)]at r
  refine E9 10 (by omega) (HJ b) (ZP b) (ZN b) (s1.get (.tail _ (.head _))) ⟨fun x l' h2 hm f2 e2=>?_,fun cs l' h2 hm f2 e2 hc ho=>?_⟩
  ·have s2:=s1.call1 f2 e2 (.tail .head)
   refine aN s2 bc (aw _) (aW _) .head fun h3 s3=>?_
   refine aL s3 (aw _) (.head _) ?_
   exact r.good _ _ _ hm s3.fr (s3.get (.tail _ (.head _)))
  ·have s2:=s1.call1 f2 e2 (.tail .head)
   refine aN s2 bc hc ho .head fun h3 s3=>?_
   refine aL s3 hc (.head _) ?_
   exact r.bad _ _ _ hm s3.fr (s3.get (.tail _ (.head _))) hc ho
 ·rw[if_neg (by simpa [HJ] using hb)]at r
  (repeat (first|refine au ?_|refine aj ?_|refine ag ‹_› (by first|exact .head _|exact .tail _ (.head _)) rfl ?_))
  refine vi b fun h2 f2=>?_
  have s2:=s1.call f2
  refine Z9 _ fun h3 f3=>?_
  have s3:=s2.call f3
  refine ah (fun hw=>?_) (fun hw=>?_)
  ·rw[if_pos (by exact hw)]at r
   (repeat (first|refine au ?_|refine aj ?_|refine aZ ?_|refine ag ‹_› (by first|exact .head _|exact .tail _ (.head _)) rfl ?_))
   have hl:=Yu b
   unfold gv at hl
   refine iy (by omega) (by omega) ?_
   (repeat (first|refine au ?_|refine aj ?_))
   refine ax s3 (.tail .head) rfl rfl rfl (nle rfl) fun h4 s4=>?_
   (repeat refine aD rfl ?_)
   refine aN s4 bc rfl rfl .head fun h5 s5=>?_
   refine aL s5 rfl (.head _) ?_
   exact r.good _ _ _ rfl s5.fr (s5.get (.tail _ (.head _)))
  ·rw[if_neg (by unfold gv;rw[hw];simp)]at r
   refine vB (s3.get (.tail _ (.head _))) fun h4 f4 e4=>?_
   have s4:=s3.call1 f4 e4 (.tail .head)
   refine aN s4 bc (aw _) (aW _) .head fun h5 s5=>?_
   refine aL s5 (aw _) (.head _) ?_
   exact r.bad _ _ _ rfl s5.fr (s5.get (.tail _ (.head _))) rfl rfl
theorem UC {group minus:PF}(hG:abK gj D group) (hM:abK gm D minus):zW dk [] D (rR group minus):=fun l h Q i e r=>by
 refine A7 _ _ _ ?_
 unfold vY
 unfold rR at r
 refine aM (St.start1 e) fun q h1 s1=>?_
 refine BE (m:=[40]) (s1.get (.tail _ (.head _))) (fun hp h2 f2 e2=>?_) (fun hp h2 f2 e2=>?_)
 ·have s2:=s1.call1 f2 e2 (.tail .head)
  rw[if_pos hp]at r
  refine ah (fun _=>?_) (fun h=>by cases h)
  refine hG _ _ _ i (s2.get (.tail _ (.head _))) ⟨fun x l' h3 hm f3 e3=>?_,fun cs l' h3 hm f3 e3 hc ho=>?_⟩
  ·have s3:=s2.call1 f3 e3 (.tail .head)
   refine aN s3 bc (aw _) (aW _) .head fun h4 s4=>?_
   refine aL s4 (aw _) (.head _) ?_
   exact r.good _ _ _ hm s4.fr (s4.get (.tail _ (.head _)))
  ·have s3:=s2.call1 f3 e3 (.tail .head)
   refine aN s3 bc hc ho .head fun h4 s4=>?_
   refine aL s4 hc (.head _) ?_
   exact r.bad _ _ _ hm s4.fr (s4.get (.tail _ (.head _))) hc ho
 have s2:=s1.call1 f2 e2 (.tail .head)
 rw[if_neg (by simp[hp])]at r
 refine ah (fun h=>by cases h) (fun _=>?_)
 refine BE (m:=[45]) (s2.get (.tail _ (.head _))) (fun hp h3 f3 e3=>?_) (fun hp h3 f3 e3=>?_)
 ·have s3:=s2.call1 f3 e3 (.tail .head)
  rw[show blk (blk l)=blk l from nQ 32 l]at hp s3
  rw[if_pos hp]at r
  refine ah (fun _=>?_) (fun h=>by cases h)
  refine hM _ _ _ i (s3.get (.tail _ (.head _))) ⟨fun x l' h4 hm f4 e4=>?_,fun cs l' h4 hm f4 e4 hc ho=>?_⟩
  ·have s4:=s3.call1 f4 e4 (.tail .head)
   refine aN s4 bc (aw _) (aW _) .head fun h5 s5=>?_
   refine aL s5 (aw _) (.head _) ?_
   exact r.good _ _ _ hm s5.fr (s5.get (.tail _ (.head _)))
  ·have s4:=s3.call1 f4 e4 (.tail .head)
   refine aN s4 bc hc ho .head fun h5 s5=>?_
   refine aL s5 hc (.head _) ?_
   exact r.bad _ _ _ hm s5.fr (s5.get (.tail _ (.head _))) hc ho
 have s3:=s2.call1 f3 e3 (.tail .head)
 rw[show blk (blk l)=blk l from nQ 32 l]at hp s3
 rw[if_neg (by simp[hp])]at r
 refine ah (fun h=>by cases h) (fun _=>?_)
 refine BE (m:=[46]) (s3.get (.tail _ (.head _))) (fun hp h4 f4 e4=>?_) (fun hp h4 f4 e4=>?_)
 ·have s4:=s3.call1 f4 e4 (.tail .head)
  rw[show blk (blk l)=blk l from nQ 32 l]at hp s4
  rw[if_pos hp]at r
  refine ah (fun _=>?_) (fun h=>by cases h)
  (repeat refine aD rfl ?_)
  refine aN s4 bc rfl rfl .head fun h5 s5=>?_
  refine aL s5 rfl (.head _) ?_
  exact r.good _ _ _ rfl s5.fr (s5.get (.tail _ (.head _)))
 have s4:=s3.call1 f4 e4 (.tail .head)
 rw[show blk (blk l)=blk l from nQ 32 l]at hp s4
 rw[if_neg (by simp[hp])]at r
 refine ah (fun h=>by cases h) (fun _=>?_)
 unfold BT at r
 (repeat (first|refine au ?_|refine aj ?_|refine ag ‹_› (by first|exact .head _|exact .tail _ (.head _)) rfl ?_))
 refine CK ?_
 refine ah (fun hx=>?_) (fun hx=>?_)
 ·rw[if_pos hx]at r
  have hle:=(List.isPrefixOf_iff_prefix.1 hx).length_le
  have hle:2≤(blk l).length:=hle
  (repeat (first|refine au ?_|refine aj ?_|refine ag ‹_› (by first|exact .head _|exact .tail _ (.head _)) rfl ?_))
  refine iy (by omega) (by omega) ?_
  refine QX _ fun h5 f5=>?_
  have s5:=s4.call f5
  refine pi ?_
  refine ah (fun hb=>?_) (fun hb=>?_)<;>simp only[za,zb,zc,zd,ze,zf,zg,zh,zi,u8i,zj,zk,zl]at hb
  ·rw[if_pos (by exact hb)]at r
   (repeat (first|refine au ?_|refine aj ?_|refine ag ‹_› (by first|exact .head _|exact .tail _ (.head _)) rfl ?_))
   refine iy (by omega) (by omega) ?_
   (repeat (first|refine au ?_|refine aj ?_))
   refine ax s5 (.tail .head) rfl rfl rfl (nle rfl) fun h6 s6=>?_
   have s6:St h [i] h6 [(q,true,.cells zE),(i,true,pO ((blk l).drop 2) D false)]:=s6
   (repeat (first|refine au ?_|refine aj ?_|refine ag ‹_› (by first|exact .head _|exact .tail _ (.head _)) rfl ?_))
   refine QX _ fun h7 f7=>?_
   have s7:=s6.call f7
   refine E9 16 (by omega) (Qc ((blk l).drop 2)) (Zs _) (ZC _) (s7.get (.tail _ (.head _))) ⟨fun x l' h8 hm f8 e8=>?_,fun cs l' h8 hm f8 e8 hc ho=>?_⟩
   ·have s8:=s7.call1 f8 e8 (.tail .head)
    refine aN s8 bc (aw _) (aW _) .head fun h9 s9=>?_
    refine aL s9 (aw _) (.head _) ?_
    exact r.good _ _ _ hm s9.fr (s9.get (.tail _ (.head _)))
   ·have s8:=s7.call1 f8 e8 (.tail .head)
    refine aN s8 bc hc ho .head fun h9 s9=>?_
    refine aL s9 hc (.head _) ?_
    exact r.bad _ _ _ hm s9.fr (s9.get (.tail _ (.head _))) hc ho
  ·rw[if_neg (by simpa [Qc] using hb)]at r
   exact YY s5 r
 ·rw[if_neg (by rw[hx];simp)]at r
  exact YY s4 r
theorem Sv {one:PF}(ho:zW dk [] D one) (hs:je one):∀ R,R≤5→zW cL [I ((5-R:Nat):Int)] D (gP one R)
 | 0,_=>fun l h Q i e r=>by
   refine qT _ _ _ _ ?_
   unfold pq
   refine aM (St.start1 e) fun q h1 s1=>?_
   refine qy ?_
   (repeat (first|refine ej ?_|refine aA ?_))
   refine ah (fun _=>?_) (fun hb=>(by exfalso;first|(simp at hb;done)|(simp at hb;omega)|(revert hb;decide)|omega))
   refine ho l h1 _ i (s1.get (.tail _ (.head _))) ⟨fun x l' h2 hm f2 e2=>?_,fun cs l' h2 hm f2 e2 hc ho=>?_⟩
   ·have s2:=s1.call1 f2 e2 (.tail .head)
    refine aN s2 bc (aw _) (aW _) .head fun h3 s3=>?_
    refine aL s3 (aw _) (.head _) ?_
    exact r.good _ _ _ hm s3.fr (s3.get (.tail _ (.head _)))
   ·have s2:=s1.call1 f2 e2 (.tail .head)
    refine aN s2 bc hc ho .head fun h3 s3=>?_
    refine aL s3 hc (.head _) ?_
    exact r.bad _ _ _ hm s3.fr (s3.get (.tail _ (.head _))) hc ho
 | R+1,hR=>fun l h Q i e r=>by
   have ih:=Sv ho hs R (by omega)
   have ihs:=qY hs R (by omega)
   have hlv:5-(R+1)=4-R:=by omega
   have hnx:(((5-(R+1):Nat):Int)+1)=((5-R:Nat):Int):=by omega
   have hlv5:4-R<levelsL.length:=by show 4-R<5;omega
   have hmem:levelsL[4-R]∈levelsL:=by simp
   obtain⟨hk1,hk2,hk3⟩:=yU _ hmem
   have hks:(levelsL[4-R]?).getD []=levelsL[4-R]:=by simp[hlv5]
   generalize hkse:levelsL[4-R]=ks at hk1 hk2 hk3 hks
   have RK:∀ h',Row (fun k:Nat=>[I (k:Nat)]) 1 h' (.full ks.length (ks.flatMap fun k=>[I (k:Nat)])) ks:=fun h'=>Row.full (enc:=fun k:Nat=>[I (k:Nat)]) (fun _=>rfl) ks
   refine qT _ _ _ _ ?_
   unfold pq
   refine aM (St.start1 e) fun q h1 s1=>?_
   refine qy ?_
   (repeat (first|refine ej ?_|refine aA ?_))
   refine ah (fun hb=>absurd hb (by simp[levelsL];omega)) (fun _=>?_)
   refine aI (by omega) ?_
   rw[hnx]
   have LV:∀ {h':ae} {K:AV→Prop},(∀ p,Pt h' p [.full ks.length (ks.flatMap fun k=>[I (k:Nat)])]→K p)→am 1 (.full levelsL.length (levelsL.flatMap SP)) (I ((5-(R+1):Nat):Int)) K:=fun {h' K} k=>by
    rw[hlv]
    refine (Row.full (h:=h') (enc:=SP) (fun _=>rfl) levelsL).idx (fun _=>rfl) hlv5 fun p t=>k p ?_
    rw[hkse]at t;exact t
   refine ih l h1 _ i (s1.get (.tail _ (.head _))) ⟨fun x l1 h2 hm f2 e2=>?_,fun cs l1 h2 hm f2 e2 hc ho2=>?_⟩
   ·have s2:=s1.call1 f2 e2 (.tail .head)
    have hm2:gP one (R+1) l=fa (gP one R) ks l1.length x l1:=by
     conv=>lhs;unfold gP
     rw[hm,hks]
    rw[hm2]at r
    refine aM s2 fun q2 h3 s3=>?_
    refine aN s3 bc (aw _) (aW _) .head fun h4 s4=>?_
    refine qy ?_
    refine LV (h':=h4) fun p t=>?_
    refine aK t ?_
    refine Ut ks hk2 hk3 (RK _) (s4.get (.tail _ (.tail _ (.head _)))) (jI (s4.get (i:=i) (.tail _ (.tail _ (.head _))))) (fun h' _=>RK h') fun h5 f5 e5=>?_
    have s5:=s4.call1 f5 e5 (.tail (.tail .head))
    clear s4 s3 s2 s1 f5 e5 f2 e2 t p
    refine aO (fun n vs h'=>∃ (cs:List AV) (k:Nat) (l2:Str) (b:Bool),vs=[I (k:Nat)]∧cs.length=4∧cs.all AV.one=true∧St h [i] h' [(q2,true,.cells cs),(q,true,.cells zE),(i,true,pO l2 D b)]∧
     ((b=false∧∃ y l3,cs=br y∧l3.length≤n∧dG ks l3=(k,l2)∧fa (gP one R) ks l1.length x l1=fa (gP one R) ks n y l3)∨(b=true∧k=0∧fa (gP one R) ks l1.length x l1=none))) l1.length
     ⟨br x,(dG ks l1).1,(dG ks l1).2,false,rfl,aw _,aW _,s5,.inl ⟨rfl,x,l1,rfl,Nat.le_refl _,rfl,rfl⟩⟩ ?_
    rintro n vs h' ⟨cs,k,l2,b,rfl,hc,ho3,s6,hcase⟩
    unfold kO
    have fin:(b=false∧∃ y,cs=br y∧fa (gP one R) ks l1.length x l1=some (y,l2))∨(b=true∧fa (gP one R) ks l1.length x l1=none)→
      ap 4 (.ptr q2 0) h' fun t46=>ak 4 (.ptr q 0) t46 h' fun h17=>ap 4 (.ptr q 0) h17 fun r18=>Q r18 h17:=by
     intro hh
     refine aL s6 hc (.head _) ?_
     refine aN s6 bc hc ho3 (.tail .head) fun h8 s8=>?_
     refine aL s8 hc (.tail _ (.head _)) ?_
     rcases hh with ⟨rfl,y,rfl,he⟩|⟨rfl,he⟩
     ·exact r.good _ _ _ he s8.fr (s8.get (.tail _ (.tail _ (.head _))))
     ·exact r.bad _ _ _ he s8.fr (s8.get (.tail _ (.tail _ (.head _)))) hc ho3
    refine cc ?_
    refine ah (fun hz=>?_) (fun hz=>?_)<;>simp only[za,zb,zc,zd,ze,zf,zg,zh,zi,u8i,zj,zk,zl]at hz
    ·(repeat (first|refine au ?_|refine aj ?_|refine bi ?_|refine ag ‹_› (by first|exact .head _|exact .tail _ (.tail _ (.head _))) rfl ?_))
     rcases hcase with ⟨rfl,y,l3,rfl,hl3,hkm,hlp⟩|⟨rfl,rfl,hno⟩
     ·refine ah (fun _=>?_) (fun h=>by cases h)
      have hk0:k≠0:=by omega
      obtain⟨hl4,hl5⟩:=qu ks hk1 l3
      rw[hkm]at hl4 hl5
      have hl5:=hl5 hk0
      simp only at hl5
      obtain⟨n',rfl⟩:∃ m,n=m+1:=⟨n-1,by omega⟩
      rw[fa,hkm]at hlp
      simp only[if_neg hk0]at hlp
      refine aL s6 (aw _) (.head _) ?_
      refine aI (by omega) ?_
      rw[hnx]
      refine ih l2 h' _ i (s6.get (.tail _ (.tail _ (.head _)))) ⟨fun z l4 h7 hm3 f7 e7=>?_,fun cs2 l4 h7 hm3 f7 e7 hc2 ho4=>?_⟩
      ·have s7:=s6.call1 f7 e7 (.tail (.tail .head))
       rw[hm3]at hlp
       refine⟨aL s7 (aw _) (.head _) rfl,?_⟩
       refine aB rfl (by simp[AV.isTup,AV.cells,aw]) ?_
       rw[show ([AV.agg (br y),AV.agg (br z)].flatMap fun x=>x.cells)=br y++br z by simp[AV.cells]]
       (repeat refine aD rfl ?_)
       refine aN s7 (aw _) rfl rfl .head fun h8 s8=>?_
       refine qy ?_
       refine LV (h':=h8) fun p t=>?_
       refine aK t ?_
       refine Ut ks hk2 hk3 (RK _) (s8.get (.tail _ (.tail _ (.head _)))) (jI (s8.get (i:=i) (.tail _ (.tail _ (.head _))))) (fun h' _=>RK h') fun h9 f9 e9=>?_
       have s9:=s8.call1 f9 e9 (.tail (.tail .head))
       have hsh:=ihs _ _ _ hm3
       exact⟨n',by omega,br (.bin k y z),_,_,false,rfl,rfl,rfl,s9,.inl ⟨rfl,.bin k y z,l4,rfl,by omega,rfl,hlp⟩⟩
      ·have s7:=s6.call1 f7 e7 (.tail (.tail .head))
       rw[hm3]at hlp
       refine⟨aL s7 (aw _) (.head _) rfl,?_⟩
       refine aB rfl (by simp[AV.isTup,AV.cells,aw,hc2]) ?_
       (repeat refine aD rfl ?_)
       refine aN s7 (aw _) rfl rfl .head fun h8 s8=>?_
       refine qy ?_
       refine LV (h':=h8) fun p t=>?_
       refine aK t ?_
       refine Gs ks hk2 hk3 (RK _) (s8.get (.tail _ (.tail _ (.head _)))) (fun h' _=>RK h') fun l5 h9 f9 e9=>?_
       have s9:=s8.call1 f9 e9 (.tail (.tail .head))
       exact⟨n',by omega,_,0,_,true,rfl,rfl,rfl,s9,.inr ⟨rfl,rfl,hlp⟩⟩
     ·exact absurd hz (by simp)
    ·have hk0:k=0:=by omega
     subst hk0
     refine fin ?_
     rcases hcase with ⟨rfl,y,l3,rfl,hl3,hkm,hlp⟩|⟨rfl,_,hno⟩
     ·refine .inl ⟨rfl,y,rfl,?_⟩
      rw[hlp]
      cases n with
      | zero=>rw[fa,hkm];simp
      | succ n=>rw[fa,hkm];simp
     ·exact .inr ⟨rfl,hno⟩
   ·have s2:=s1.call1 f2 e2 (.tail .head)
    have hm2:gP one (R+1) l=none:=by
     conv=>lhs;unfold gP
     rw[hm]
    rw[hm2]at r
    refine aM s2 fun q2 h3 s3=>?_
    refine aN s3 bc hc ho2 .head fun h4 s4=>?_
    refine qy ?_
    refine LV (h':=h4) fun p t=>?_
    refine aK t ?_
    refine Gs ks hk2 hk3 (RK _) (s4.get (.tail _ (.tail _ (.head _)))) (fun h' _=>RK h') fun l5 h5 f5 e5=>?_
    have s5:=s4.call1 f5 e5 (.tail (.tail .head))
    refine aO (fun n vs h'=>vs=[I 0]∧h'=h5) 0 ⟨rfl,rfl⟩ ?_
    rintro n vs h' ⟨rfl,rfl⟩
    unfold kO
    refine cc ?_
    refine ah (fun hb=>absurd hb (by simp)) (fun _=>?_)
    refine aL s5 hc (.head _) ?_
    refine aN s5 bc hc ho2 (.tail .head) fun h8 s8=>?_
    refine aL s8 hc (.tail _ (.head _)) ?_
    exact r.bad _ _ _ rfl s8.fr (s8.get (.tail _ (.tail _ (.head _)))) hc ho2
end
end
section
variable [Tabs]
theorem Y2:∀ (d D:Nat),D+d=12→zW dk [] D (Cu d)
 | 0,D,h=>by
   have:D=12:=by omega
   subst this
   exact UC (fun l h Q i e r=>EB _ l h Q i e r) (fun l h Q i e r=>EB _ l h Q i e r)
 | d+1,D,h=>by
   have i1:=Y2 d (D+1) (by omega)
   have i2:zW cL [I 0] (D+1) (gP (Cu d) 5):=Sv i1 (vo d) 5 (Nat.le_refl _)
   exact UC (Ko (Y0 i2) (by omega)) (Ko (ZJ i1) (by omega))
theorem Ys (l:Str) {h:ae}{Q:QT}(k1:∀ x,g8 l=some x→∀ h',Fr [] h h'→Q (.tup [.agg (br x),B true]) h') (k0:g8 l=none→∀ h',Fr [] h h'→Q (.tup [.agg zE,B false]) h'):C tu [T l] h Q:=by
 refine Jq _ _ _ ?_
 unfold Iw
 refine aM (St.start h) fun q h1 s1=>?_
 (repeat refine aD rfl ?_)
 refine bC s1 rfl fun i h2 s2=>?_
 have s2:St h [] h2 [(i,true,pO l 0 false),(q,true,.cells zE)]:=s2
 refine Sv (Y2 12 0 rfl) (vo 12) 5 (Nat.le_refl _) l h2 _ i (s2.get (.head _)) ⟨fun x l' h3 hm f3 e3=>?_,fun cs l' h3 hm f3 e3 hc ho=>?_⟩
 ·have s3:=s2.call1 f3 e3 .head
  refine aN s3 bc (aw _) (aW _) (.tail .head) fun h4 s4=>?_
  refine yL (s4.get (.head _)) fun h5 f5 e5=>?_
  have s5:=s4.call1 f5 e5 .head
  have hp:g8 l=if blk l'=[] then some x else none:=by unfold g8;rw[hm]
  (repeat (first|refine au ?_|refine aj ?_|refine pi ?_|refine ag ‹_› (.head _) rfl ?_))
  refine ah (fun hb=>?_) (fun hb=>?_)
  ·rw[if_neg (by simpa using hb)]at hp
   (repeat refine aD rfl ?_)
   refine aN s5 (aw _) rfl rfl (.tail .head) fun h6 s6=>?_
   refine aL s6 rfl (.tail _ (.head _)) ?_
   exact k0 hp _ s6.fr
  ·rw[if_pos (by simpa using hb)]at hp
   refine aL s5 (aw _) (.tail _ (.head _)) ?_
   refine aN s5 (aw _) (aw _) (aW _) (.tail .head) fun h6 s6=>?_
   refine aL s6 (aw _) (.tail _ (.head _)) ?_
   exact k1 x hp _ s6.fr
 ·have s3:=s2.call1 f3 e3 .head
  refine aN s3 bc hc ho (.tail .head) fun h4 s4=>?_
  refine yL (s4.get (.head _)) fun h5 f5 e5=>?_
  have s5:=s4.call1 f5 e5 .head
  have hp:g8 l=none:=by unfold g8;rw[hm]
  (repeat (first|refine au ?_|refine aj ?_|refine ag ‹_› (.head _) rfl ?_|refine aD rfl ?_))
  refine aN s5 hc rfl rfl (.tail .head) fun h6 s6=>?_
  refine aL s6 rfl (.tail _ (.head _)) ?_
  exact k0 hp _ s6.fr
def mostI:Int:=1099511627776
abbrev Ev:=Int×Int
def evV (e:Ev):AV:=.tup [I e.1,I e.2]
def iu (n:Int):Ev:=if n < -1099511627776∨1099511627776<n then (0,6) else (n,0)
section
variable {h:ae}{Q:QT}
theorem k7 (n:Int) (k:Q (evV (iu n)) h):C cN [I n] h Q:=by
 refine Jw _ _ _ ?_
 unfold Ip
 unfold iu at k
 (repeat refine aJ ?_)
 refine ah (fun h1=>?_) (fun h1=>?_)<;>simp only[za,zb,zc,zd,ze,zf,zg,zh,zi,u8i,zj,zk,zl]at h1
 ·rw[if_pos (.inl h1)]at k;exact k
 (repeat refine bL ?_)
 refine ah (fun h2=>?_) (fun h2=>?_)<;>simp only[za,zb,zc,zd,ze,zf,zg,zh,zi,u8i,zj,zk,zl]at h2
 ·rw[if_pos (.inr h2)]at k;exact k
 ·rw[if_neg (by omega)]at k;exact k
def AG (a b:Int):Ev:=if a=0∨b=0 then (0,0) else if (mostI.tdiv (max b (-b)))<max a (-a) then (0,6) else iu (a*b)
theorem PQ (a b:Int) (ha:-1099511627776≤a∧a≤1099511627776) (hb:-1099511627776≤b∧b≤1099511627776) (k:Q (evV (AG a b)) h):C oe [I a,I b] h Q:=by
 refine Ju _ _ _ _ ?_
 unfold G8
 unfold AG mostI at k
 (repeat refine aA ?_)
 refine ah (fun h1=>?_) (fun h1=>?_)<;>simp only[za,zb,zc,zd,ze,zf,zg,zh,zi,u8i,zj,zk,zl]at h1
 ·rw[if_pos (.inl h1)]at k;exact k
 (repeat refine aA ?_)
 refine ah (fun h2=>?_) (fun h2=>?_)<;>simp only[za,zb,zc,zd,ze,zf,zg,zh,zi,u8i,zj,zk,zl]at h2
 ·rw[if_pos (.inr h2)]at k;exact k
 rw[if_neg (by omega)]at k
 refine aaT ?_
 refine Rp (by omega) ?_
 (repeat refine HD ?_)
 refine Rp (by omega) ?_
 (repeat refine HD ?_)
 have hm:1≤max b (-b):=by omega
 have hq0:0≤Int.tdiv 1099511627776 (max b (-b)):=Int.tdiv_nonneg (by omega) (by omega)
 have hq1:Int.tdiv 1099511627776 (max b (-b))≤1099511627776:=by
  rw[Int.tdiv_eq_ediv_of_nonneg (by omega)];exact Int.ediv_le_self _ (by omega)
 refine nI (by omega) (by omega) ?_
 refine bL ?_
 refine ah (fun h3=>?_) (fun h3=>?_)<;>simp only[za,zb,zc,zd,ze,zf,zg,zh,zi,u8i,zj,zk,zl]at h3
 ·rw[if_pos h3]at k;exact k
 ·rw[if_neg (by omega)]at k
  have hmul:max a (-a)*max b (-b)≤1099511627776:=by
   have h4:max a (-a)≤Int.tdiv 1099511627776 (max b (-b)):=by omega
   have h5:max a (-a)*max b (-b)≤Int.tdiv 1099511627776 (max b (-b))*max b (-b):=Int.mul_le_mul_of_nonneg_right h4 (by omega)
   rw[Int.tdiv_eq_ediv_of_nonneg (by omega)]at h5
   have h6:=Int.ediv_mul_le 1099511627776 (show max b (-b)≠0 by omega)
   omega
  have hab:-1099511627776≤a*b∧a*b≤1099511627776:=by
   have e1:(a*b).natAbs=(max a (-a)*max b (-b)).natAbs:=by
    rw[Int.natAbs_mul,Int.natAbs_mul]
    congr 1<;>omega
   have h7:0≤max a (-a)*max b (-b):=Int.mul_nonneg (by omega) (by omega)
   omega
  rw[uk (by omega)]
  refine k7 _ ?_
  (repeat refine aG rfl ?_)
  exact k
def GJ (kd:Nat) (a b:Int):Ev:=
 if kd=5 then iu (a+b) else if kd=6 then iu (a-b) else if kd=7 then AG a b else if kd=8 then iu (Fm .i64 a b) else if kd=9 then iu (orI .i64 a b)
 else if b<0∨40<b then (0,6) else if kd=11 then iu (Nx .i64 a b.toNat) else AG a (2^b.toNat)
theorem aat (kd:Nat) (a b:Int) (ha:-1099511627776≤a∧a≤1099511627776) (hb:-1099511627776≤b∧b≤1099511627776) (k:Q (evV (GJ kd a b)) h):C uZ [I (kd:Nat),I a,I b] h Q:=by
 refine NE _ _ _ _ _ ?_
 unfold JP
 unfold GJ at k
 (repeat refine aA ?_)
 refine ah (fun h5=>?_) (fun h5=>?_)<;>simp only[za,zb,zc,zd,ze,zf,zg,zh,zi,u8i,zj,zk,zl]at h5
 ·rw[if_pos (by omega)]at k
  (repeat refine aI (by omega) ?_)
  refine k7 _ ?_
  (repeat refine aG rfl ?_);exact k
 rw[if_neg (by omega)]at k
 (repeat refine aA ?_)
 refine ah (fun h6=>?_) (fun h6=>?_)<;>simp only[za,zb,zc,zd,ze,zf,zg,zh,zi,u8i,zj,zk,zl]at h6
 ·rw[if_pos (by omega)]at k
  (repeat refine cC (by omega) ?_)
  refine k7 _ ?_
  (repeat refine aG rfl ?_);exact k
 rw[if_neg (by omega)]at k
 (repeat refine aA ?_)
 refine ah (fun h7=>?_) (fun h7=>?_)<;>simp only[za,zb,zc,zd,ze,zf,zg,zh,zi,u8i,zj,zk,zl]at h7
 ·rw[if_pos (by omega)]at k
  refine PQ a b ha hb ?_
  (repeat refine aG rfl ?_);exact k
 rw[if_neg (by omega)]at k
 (repeat refine aA ?_)
 refine ah (fun h8=>?_) (fun h8=>?_)<;>simp only[za,zb,zc,zd,ze,zf,zg,zh,zi,u8i,zj,zk,zl]at h8
 ·rw[if_pos (by omega)]at k
  refine pZ ?_
  refine k7 _ ?_
  (repeat refine aG rfl ?_);exact k
 rw[if_neg (by omega)]at k
 (repeat refine aA ?_)
 refine ah (fun h9=>?_) (fun h9=>?_)<;>simp only[za,zb,zc,zd,ze,zf,zg,zh,zi,u8i,zj,zk,zl]at h9
 ·rw[if_pos (by omega)]at k
  refine vy ?_
  refine k7 _ ?_
  (repeat refine aG rfl ?_);exact k
 rw[if_neg (by omega)]at k
 (repeat refine aJ ?_)
 refine ah (fun hn=>?_) (fun hn=>?_)<;>simp only[za,zb,zc,zd,ze,zf,zg,zh,zi,u8i,zj,zk,zl]at hn
 ·rw[if_pos (.inl hn)]at k;exact k
 (repeat refine bL ?_)
 refine ah (fun hg=>?_) (fun hg=>?_)<;>simp only[za,zb,zc,zd,ze,zf,zg,zh,zi,u8i,zj,zk,zl]at hg
 ·rw[if_pos (.inr hg)]at k;exact k
 rw[if_neg (by omega)]at k
 (repeat refine aA ?_)
 refine ah (fun h11=>?_) (fun h11=>?_)<;>simp only[za,zb,zc,zd,ze,zf,zg,zh,zi,u8i,zj,zk,zl]at h11
 ·rw[if_pos (by omega)]at k
  refine xH (by omega) ?_
  refine k7 _ ?_
  (repeat refine aG rfl ?_);exact k
 ·rw[if_neg (by omega)]at k
  refine kM (by omega) ?_
  obtain⟨n,rfl⟩:∃ n:Nat,b=n:=⟨b.toNat,by omega⟩
  have hn40:n≤40:=by omega
  have hp:2^n≤2^40:=Nat.pow_le_pow_right (by omega) hn40
  have hpi:((2:Int)^n)=((2^n:Nat):Int):=by simp
  have hp0:0<2^n:=Nat.two_pow_pos n
  have e1:min (n:Int).toNat IntKind.i64.bits=n:=by
   show min (n:Int).toNat 64=n
   omega
  rw[e1,Int.one_mul,uk (by rw[hpi];omega)]
  rw[Int.toNat_natCast]at k
  refine PQ a _ ha (by rw[hpi];omega) ?_
  (repeat refine aG rfl ?_);exact k
abbrev Sy:=Str×Int
def syE (y:Sy):List AV:=[T y.1,I y.2]
def i7 (here:Int) (syms:List Sy):Ex→Ev
 | .none=>(0,6)
 | .num n=>iu n
 | .name s=>match syms.find? fun y=>decide (y.1=s) with
   | some y=>iu y.2
   | none=>(0,4)
 | .here=>iu here
 | .neg e=>if (i7 here syms e).2≠0 then (0,(i7 here syms e).2) else iu (-(i7 here syms e).1)
 | .bin k a b=>if (i7 here syms a).2≠0 then (0,(i7 here syms a).2) else if (i7 here syms b).2≠0 then (0,(i7 here syms b).2) else GJ k (i7 here syms a).1 (i7 here syms b).1
theorem iW (n:Int):-1099511627776≤(iu n).1∧(iu n).1≤1099511627776:=by unfold iu;split<;>simp<;>omega
theorem VV (a b:Int):-1099511627776≤(AG a b).1∧(AG a b).1≤1099511627776:=by
 unfold AG;split
 ·simp
 ·split
  ·simp
  ·exact iW _
theorem Qr (k:Nat) (a b:Int):-1099511627776≤(GJ k a b).1∧(GJ k a b).1≤1099511627776:=by
 unfold GJ
 repeat' split
 all_goals first|exact iW _|exact VV _ _|simp
theorem HQ (here:Int) (syms:List Sy):∀ e:Ex,-1099511627776≤(i7 here syms e).1∧(i7 here syms e).1≤1099511627776
 | .none=>by simp[i7]
 | .num n=>iW _
 | .name s=>by
   unfold i7;split
   ·exact iW _
   ·simp
 | .here=>iW _
 | .neg e=>by
   unfold i7;split
   ·simp
   ·exact iW _
 | .bin k a b=>by
   unfold i7;split
   ·simp
   ·split
    ·simp
    ·exact Qr _ _ _
def okE:Ex→Prop
 | .neg e=>okE e
 | .bin k a b=>(5≤k∧k≤11)∧okE a∧okE b
 | _=>True
theorem Tq {α:Type}(p:α→Bool):∀ l:List α,(fY p l=-1∧l.find? p=none)∨∃ (i:Nat) (hi:i<l.length),fY p l=(i:Nat)∧l.find? p=some l[i]:=fun l=>by
 unfold fY
 cases h:l.findIdx? p with
 | none=>
   rw[List.findIdx?_eq_none_iff]at h
   exact .inl ⟨rfl,by rw[List.find?_eq_none];intro x hx;simp[h x hx]⟩
 | some i=>
   rw[List.findIdx?_eq_some_iff_getElem]at h
   obtain⟨hi,hp,hn⟩:=h
   refine .inr ⟨i,hi,rfl,?_⟩
   rw[List.find?_eq_some_iff_getElem]
   exact⟨hp,i,hi,rfl,fun j hj=>by simpa using hn j hj⟩
theorem FX (here:Int) (syms:List Sy) (hl:syms.length<1000000):∀ (e:Ex),okE e→∀ (h:ae) (Q:QT) {v:AV},Row syE 2 h v syms→(∀ h',Fr [] h h'→Q (evV (i7 here syms e)) h')→C m3 [.agg (br e),I here,v] h Q
 | .none,hk,h,Q,v,r,k=>by
   refine kB _ _ _ _ _ ?_
   unfold nX
   refine bC (St.start h) rfl fun i h1 s1=>?_
   have s1:St h [] h1 [(i,true,.cells (br .none))]:=s1
   (repeat (first|refine aj ?_|refine ej ?_|refine aA ?_|refine ag ‹_› (.head _) rfl ?_))
   exact k _ s1.fr
 | .num n,hk,h,Q,v,r,k=>by
   refine kB _ _ _ _ _ ?_
   unfold nX
   refine bC (St.start h) rfl fun i h1 s1=>?_
   have s1:St h [] h1 [(i,true,.cells (br (.num n)))]:=s1
   (repeat (first|refine aj ?_|refine aA ?_|refine ag ‹_› (.head _) rfl ?_))
   refine k7 _ ?_
   (repeat refine aG rfl ?_)
   exact k _ s1.fr
 | .here,hk,h,Q,v,r,k=>by
   refine kB _ _ _ _ _ ?_
   unfold nX
   refine bC (St.start h) rfl fun i h1 s1=>?_
   have s1:St h [] h1 [(i,true,.cells (br .here))]:=s1
   (repeat (first|refine aj ?_|refine aA ?_|refine ag ‹_› (.head _) rfl ?_))
   refine k7 _ ?_
   (repeat refine aG rfl ?_)
   exact k _ s1.fr
 | .name s,hk,h,Q,v,r,k=>by
   refine kB _ _ _ _ _ ?_
   unfold nX
   refine bC (St.start h) rfl fun i h1 s1=>?_
   have s1:St h [] h1 [(i,true,.cells (br (.name s)))]:=s1
   (repeat (first|refine aj ?_|refine aA ?_|refine ag ‹_› (.head _) rfl ?_))
   refine yj (enc:=syE) (fun _=>rfl) _ (fun y=>decide (y.1=s)) syms (by omega) (r.fr s1.fr) (fun x hx h2 Q f2 kq=>?_) fun h2 f2=>?_
   ·show ACall Pg qX _ _ _
    refine IG _ _ _ _ ?_
    unfold Fc
    have s2:=St.startr (f2.get (s1.get (.head _)) (by simp))
    refine bC s2 rfl fun j h3 s3=>?_
    (repeat (first|refine aj ?_|refine aU ?_|refine ag ‹_› (by first|exact .head _|exact .tail _ (.head _)) rfl ?_))
    exact kq _ s3.fr
   ·have s2:=s1.call f2
    unfold i7 at k
    rcases Tq (fun y:Sy=>decide (y.1=s)) syms with ⟨e1,e2⟩|⟨j,hj,e1,e2⟩
    ·rw[e1]
     rw[e2]at k
     (repeat refine aJ ?_)
     exact k _ s2.fr
    ·rw[e1]
     rw[e2]at k
     (repeat refine aJ ?_)
     refine (r.fr s2.fr).idx (fun _=>rfl) hj fun p t=>?_
     refine x8 t (nle rfl) fun q t2=>?_
     refine aK t2 ?_
     refine k7 _ ?_
     (repeat refine aG rfl ?_)
     exact k _ s2.fr
 | .neg e,hk,h,Q,v,r,k=>by
   refine kB _ _ _ _ _ ?_
   unfold nX
   refine bC (St.start h) rfl fun i h1 s1=>?_
   have s1:St h [] h1 [(i,true,.cells (br (.neg e)))]:=s1
   (repeat (first|refine aj ?_|refine ej ?_|refine aA ?_|refine ag ‹_› (.head _) rfl ?_))
   have R1:∀ h,Row br 4 h (.full 1 (br e)) [e]:=fun h=>by
    have:=Row.full (h:=h) (enc:=br) aw [e]
    simpa using this
   refine (R1 h1).idx aw (j:=0) (by simp) fun p t=>?_
   refine bd t (aw e).symm ?_
   refine FX here syms hl e hk h1 _ (r.fr s1.fr) fun h2 f2=>?_
   have s2:=s1.call f2
   have hin:=HQ here syms e
   unfold i7 at k
   (repeat (first|refine aG rfl ?_|refine cc ?_))
   refine ah (fun h1=>?_) (fun h1=>?_)<;>simp only[za,zb,zc,zd,ze,zf,zg,zh,zi,u8i,zj,zk,zl]at h1
   ·rw[if_pos h1]at k
    exact k _ s2.fr
   ·rw[if_neg (by omega)]at k
    (repeat (first|refine aj ?_|refine ej ?_|refine aA ?_|refine ag ‹_› (.head _) rfl ?_))
    refine Rp (by simp[evV];omega) ?_
    refine k7 _ ?_
    (repeat refine aG rfl ?_)
    exact k _ s2.fr
 | .bin kd a b,hk,h,Q,v,r,k=>by
   obtain⟨hkd,hka,hkb⟩:=hk
   refine kB _ _ _ _ _ ?_
   unfold nX
   refine bC (St.start h) rfl fun i h1 s1=>?_
   have s1:St h [] h1 [(i,true,.cells (br (.bin kd a b)))]:=s1
   have R2:∀ h,Row br 4 h (.full 2 (br a++br b)) [a,b]:=fun h=>by
    have:=Row.full (h:=h) (enc:=br) aw [a,b]
    simpa using this
   (repeat (first|refine aj ?_|refine aA ?_|refine ag ‹_› (.head _) rfl ?_))
   refine ah (fun hb=>absurd hb (by simp;omega)) (fun _=>?_)
   (repeat (first|refine aj ?_|refine aA ?_|refine ag ‹_› (.head _) rfl ?_))
   refine ah (fun hb=>absurd hb (by simp;omega)) (fun _=>?_)
   (repeat (first|refine aj ?_|refine aA ?_|refine ag ‹_› (.head _) rfl ?_))
   refine ah (fun hb=>absurd hb (by simp;omega)) (fun _=>?_)
   (repeat (first|refine aj ?_|refine ej ?_|refine aA ?_|refine ag ‹_› (.head _) rfl ?_))
   refine (R2 h1).idx aw (j:=0) (by simp) fun p t=>?_
   refine bd t (aw a).symm ?_
   refine FX here syms hl a hka h1 _ (r.fr s1.fr) fun h2 f2=>?_
   have s2:=s1.call f2
   have hin:=HQ here syms a
   have hin2:=HQ here syms b
   unfold i7 at k
   (repeat (first|refine aG rfl ?_|refine cc ?_))
   refine ah (fun ha=>?_) (fun ha=>?_)<;>simp only[za,zb,zc,zd,ze,zf,zg,zh,zi,u8i,zj,zk,zl]at ha
   ·rw[if_pos ha]at k
    exact k _ s2.fr
   rw[if_neg (by omega)]at k
   (repeat (first|refine aj ?_|refine ej ?_|refine aA ?_|refine ag ‹_› (.head _) rfl ?_))
   refine (R2 h2).idx aw (j:=1) (by simp) fun p t=>?_
   refine bd t (aw b).symm ?_
   refine FX here syms hl b hkb h2 _ (r.fr s2.fr) fun h3 f3=>?_
   have s3:=s2.call f3
   (repeat (first|refine aG rfl ?_|refine cc ?_))
   refine ah (fun hb=>?_) (fun hb=>?_)<;>simp only[za,zb,zc,zd,ze,zf,zg,zh,zi,u8i,zj,zk,zl]at hb
   ·rw[if_pos hb]at k
    exact k _ s3.fr
   rw[if_neg (by omega)]at k
   (repeat (first|refine aj ?_|refine ag ‹_› (.head _) rfl ?_))
   refine aat kd _ _ hin hin2 ?_
   (repeat refine aG rfl ?_)
   exact k _ s3.fr
end
end
section
variable [Tabs]
def wu (out:List Str) (n:Str):List Str:=if out.any (fun y=>decide (n=y))=true then out else out++[n]
def bZ:Ex→List Str
 | .name s=>[s]
 | .neg e=>(bZ e).foldl wu []
 | .bin _ a b=>(bZ b).foldl wu ((bZ a).foldl wu [])
 | _=>[]
def bo:Ex→Nat
 | .neg e=>1+bo e
 | .bin _ a b=>1+bo a+bo b
 | _=>1
theorem ZV (out:List Str) (n:Str):(wu out n).length≤out.length+1:=by unfold wu;split<;>simp
theorem yP:∀ (l out:List Str),(l.foldl wu out).length≤out.length+l.length
 | [],out=>by simp
 | n::l,out=>by
   have h1:=yP l (wu out n)
   have h2:=ZV out n
   simp only[List.foldl_cons,List.length_cons];omega
theorem lG:∀ e:Ex,(bZ e).length≤bo e
 | .none=>by simp[bZ]
 | .num _=>by simp[bZ]
 | .here=>by simp[bZ]
 | .name _=>by simp[bZ,bo]
 | .neg e=>by
   have h1:=yP (bZ e) []
   have h2:=lG e
   simp only[bZ,bo,List.length_nil]at *;omega
 | .bin k a b=>by
   have h1:=yP (bZ a) []
   have h2:=yP (bZ b) ((bZ a).foldl wu [])
   have h3:=lG a
   have h4:=lG b
   simp only[bZ,bo,List.length_nil]at *;omega
def d3:Ex→List Ex
 | .neg e=>[e]
 | .bin _ a b=>[a,b]
 | _=>[]
def WE:Ex→List Str
 | .name s=>[s]
 | _=>[]
theorem Vd (e:Ex):bZ e=(d3 e).foldl (fun out c=>(bZ c).foldl wu out) (WE e):=by cases e<;>rfl
theorem Bg {e c:Ex}(h:c∈d3 e):bo c<bo e:=by
 cases e<;>simp[d3]at h
 ·subst h;simp[bo]
 ·rcases h with rfl|rfl<;>simp[bo]<;>omega
theorem Ic {e c:Ex}(hk:okE e) (h:c∈d3 e):okE c:=by
 cases e<;>simp[d3]at h
 ·subst h;exact hk
 ·rcases h with rfl|rfl
  ·exact hk.2.1
  ·exact hk.2.2
abbrev sE:Str→List AV:=fun x=>[T x]
theorem Hp (e:Ex) (h:ae):Row br 4 h ((br e)[3]'(by rw[aw];omega)) (d3 e):=by
 cases e with
 | none=>exact .nil
 | num n=>exact .nil
 | name s=>exact .nil
 | here=>exact .nil
 | neg e=>simpa [br,d3] using Row.full (h:=h) (enc:=br) aw [e]
 | bin k a b=>simpa [br,d3] using Row.full (h:=h) (enc:=br) aw [a,b]
theorem Gf:∀ (n:Nat) (e:Ex),okE e→bo e≤n→n<100000000→∀ (h:ae) (Q:QT),(∀ h',Fr [] h h'→Q (.snap (bZ e).length ((bZ e).flatMap sE)) h')→C lg [.agg (br e)] h Q
 | 0,e,_,hn,_,h,Q,k=>by cases e<;>simp[bo]at hn
 | n+1,e,hok,hn,hn2,h,Q,k=>by
   refine Je _ _ _ ?_
   unfold Gr
   refine bC (St.start h) rfl fun i h1 s1=>?_
   have s1:St h [] h1 [(i,true,.cells (br e))]:=s1
   have RC:=Hp e
   have rest:∀ (v:AV) (E:Own) (h2:ae),AccE 1 v (WE e).length ((WE e).flatMap sE) E→St h [] h2 (E++[(i,true,.cells (br e))])→mB v (.ptr i 0) h2 Q:=by
    intro v E h2 a s2
    unfold mB
    (repeat refine aj ?_)
    refine ag (a.rest s2) (.head _) (List.getElem?_eq_getElem (by rw[aw];decide)) ?_
    refine (RC h2).len ?_
    refine aO (fun m vs h'=>∃ (j:Nat) (v:AV) (out:List Str) (E:Own),vs=[v,I (j:Nat)]∧m+j=(d3 e).length∧AccE 1 v out.length (out.flatMap sE) E∧St h [] h' (E++[(i,true,.cells (br e))])∧
     out=((d3 e).take j).foldl (fun out c=>(bZ c).foldl wu out) (WE e)∧out.length≤1+j*n) (d3 e).length ⟨0,v,WE e,E,rfl,by omega,a,s2,rfl,by cases e<;>simp[WE]⟩ ?_
    rintro m vs h3 ⟨j,v,out,E,rfl,hm,a,s3,hout,hol⟩
    unfold yk
    (repeat refine aJ ?_)
    have hcl:(d3 e).length≤2:=by cases e<;>simp[d3]
    refine ah (fun hb=>?_) (fun hb=>?_)<;>simp only[za,zb,zc,zd,ze,zf,zg,zh,zi,u8i,zj,zk,zl]at hb
    ·have hj:j<(d3 e).length:=hb
     have hc:=Bg (List.getElem_mem hj)
     refine (RC h3).idx aw hj fun p t=>?_
     refine bd t (aw _).symm ?_
     refine aM s3 fun q h4 s4=>?_
     refine aN s4 rfl (aw _) (aW _) .head fun h5 s5=>?_
     refine aL s5 (aw _) (.head _) ?_
     refine Gf n (d3 e)[j] (Ic hok (List.getElem_mem hj)) (by omega) (by omega) h5 _ fun h6 f6=>?_
     have s6:=(s5.call f6).drop1
     have hnl:=lG (d3 e)[j]
     (repeat refine cA ?_)
     have RN6:∀ h,Row sE 1 h (.snap (bZ (d3 e)[j]).length ((bZ (d3 e)[j]).flatMap sE)) (bZ (d3 e)[j]):=fun h=>Row.snap (enc:=sE) (fun _=>rfl) _
     generalize hns:bZ (d3 e)[j]=ns at RN6 hnl ⊢
     have hb2:j*n≤2*n:=Nat.mul_le_mul_right _ (by omega)
     refine aO (fun m2 vs h'=>∃ (q:Nat) (v:AV) (o:List Str) (E:Own),vs=[v,I (q:Nat)]∧m2+q=ns.length∧AccE 1 v o.length (o.flatMap sE) E∧St h [] h' (E++[(i,true,.cells (br e))])∧
      o=(ns.take q).foldl wu out∧o.length≤out.length+q) ns.length ⟨0,v,out,E,rfl,by omega,a,s6,rfl,by omega⟩ ?_
     rintro m2 vs h7 ⟨q2,v2,o,E2,rfl,hm2,a2,s7,ho,hoo⟩
     unfold wX
     (repeat refine aJ ?_)
     refine ah (fun hb3=>?_) (fun hb3=>?_)<;>simp only[za,zb,zc,zd,ze,zf,zg,zh,zi,u8i,zj,zk,zl]at hb3
     ·have hq:q2<ns.length:=hb3
      refine (RN6 h7).idx (fun _=>rfl) hq fun p t=>?_
      refine aK t ?_
      have RO:Row sE 1 h7 v2 o:=a2.rd s7
      refine AQ ns[q2] o (by omega) RO ?_
      have hnext:(ns.take (q2+1)).foldl wu out=wu o ns[q2]:=by
       rw[List.take_succ_eq_append_getElem hq,List.foldl_append,← ho];rfl
      refine bi ?_
      cases hc2:o.any fun y=>decide (ns[q2]=y) with
      | true=>
        refine ah (fun h=>by cases h) (fun _=>?_)
        unfold mj sT
        refine aI (by omega) ?_
        refine⟨m2-1,by omega,q2+1,v2,o,E2,rfl,by omega,a2,s7,?_,by omega⟩
        rw[hnext,wu,if_pos hc2]
      | false=>
        refine ah (fun _=>?_) (fun h=>by cases h)
        refine aB rfl rfl ?_
        refine a2.app s7 (xs:=[T ns[q2]]) (m:=1) (Rd.full rfl) rfl (by omega) fun v3 E3 h8 a3 s8=>?_
        unfold mj sT
        refine aI (by omega) ?_
        refine⟨m2-1,by omega,q2+1,v3,o++[ns[q2]],E3,rfl,by omega,by simpa using a3,s8,?_,by simp;omega⟩
        rw[hnext,wu,if_neg (by simp[hc2])]
     ·have hq:ns.length≤q2:=by omega
      rw[List.take_of_length_le hq]at ho
      refine aI (by omega) ?_
      have hj1:(j+1)*n=j*n+n:=by rw[Nat.add_mul];omega
      refine⟨m-1,by omega,j+1,v2,o,E2,rfl,by omega,a2,s7,?_,by omega⟩
      rw[List.take_succ_eq_append_getElem hj,List.foldl_append,← hout,ho,← hns];rfl
    ·have hj:(d3 e).length≤j:=by omega
     rw[List.take_of_length_le hj,← Vd]at hout
     have hnl:=lG e
     have hol2:out.length=(bZ e).length:=by rw[hout]
     refine FH (by omega) (a.rd s3) fun h4 f4=>?_
     rw[hout]
     exact k h4 (s3.call f4).fr
   cases e with
   | name s=>
     (repeat (first|refine aj ?_|refine aA ?_|refine ag ‹_› (.head _) rfl ?_|refine aB rfl rfl ?_))
     refine ox s1 (Rd.full (n:=1) (cs:=[T s]) rfl) (by decide) (fun h=>by omega) fun j h2 _ s2=>?_
     exact rest _ [(j,true,.cells [T s])] h2 (.inr ⟨rfl,j,rfl,rfl⟩) s2
   | none=>
     refine aj (ag s1 (.head _) rfl (aA (ah (fun h=>absurd h (by decide)) (fun _=>?_))))
     exact rest _ [] _ (.none _) s1
   | num n=>
     refine aj (ag s1 (.head _) rfl (aA (ah (fun h=>absurd h (by decide)) (fun _=>?_))))
     exact rest _ [] _ (.none _) s1
   | here=>
     refine aj (ag s1 (.head _) rfl (aA (ah (fun h=>absurd h (by decide)) (fun _=>?_))))
     exact rest _ [] _ (.none _) s1
   | neg e=>
     refine aj (ag s1 (.head _) rfl (aA (ah (fun h=>absurd h (by decide)) (fun _=>?_))))
     exact rest _ [] _ (.none _) s1
   | bin k a b=>
     have hk2:=hok.1
     refine aj (ag s1 (.head _) rfl (aA (ah (fun h=>absurd h (by simp;omega)) (fun _=>?_))))
     exact rest _ [] _ (.none _) s1
end
section
variable [Tabs]
def GQ (fv:AV) (p:UInt8→Bool):Prop:=∀ (c:UInt8) (h:ae) (Q:QT),Q (B (p c)) h→CV fv [U8 c] h Q
section
variable {h:ae}{Q:QT}
def df (p:UInt8→Bool) (l:Str):Nat:=(l.takeWhile p).length
theorem Ka (p:UInt8→Bool) (l:Str):df p l≤l.length:=(List.takeWhile_sublist _).length_le
theorem KB {p:UInt8→Bool}{l:Str}:df p l=l.length↔l.all p=true:=by
 unfold df
 constructor
 ·intro h
  have:l.takeWhile p=l:=(List.takeWhile_sublist p).eq_of_length h
  rw[List.all_eq_true]
  exact takeWhile_self.1 this
 ·intro h
  rw[List.all_eq_true]at h
  rw[takeWhile_self.2 h]
theorem tJ {fv:AV}{p:UInt8→Bool}(ht:GQ fv p) (l:Str) (hl:l.length<4611686018427387904) (k:Q (I (df p l:Nat)) h):C fc [T l,fv] h Q:=by
 refine Jc _ _ _ _ ?_
 unfold GV
 refine aO (fun n vs h'=>h'=h∧∃ i:Nat,vs=[I (i:Nat)]∧n+i=l.length∧∀ j (hj:j<l.length),j<i→p l[j]=true) l.length ⟨rfl,0,rfl,by omega,fun j _ hj=>by omega⟩ ?_
 rintro n vs h' ⟨rfl,i,rfl,hn,ha⟩
 unfold zF
 (repeat (first|refine aZ ?_|refine aJ ?_))
 refine ah (fun hb=>?_) (fun hb=>?_)<;>simp only[za,zb,zc,zd,ze,zf,zg,zh,zi,u8i,zj,zk,zl]at hb
 ·have hi:i<l.length:=hb
  refine bR hi ?_
  refine ht l[i] _ _ ?_
  cases hp:p l[i] with
  | true=>
    refine ah (fun _=>?_) (fun h=>by cases h)
    (repeat refine aI (by omega) ?_)
    refine⟨n-1,by omega,rfl,i+1,rfl,by omega,fun j hj hj2=>?_⟩
    rcases Nat.lt_or_eq_of_le (Nat.le_of_lt_succ hj2) with h1|h1
    ·exact ha j hj h1
    ·subst h1;exact hp
  | false=>
    refine ah (fun h=>by cases h) (fun _=>?_)
    have:df p l=i:=by
     unfold df
     rw[tt hi (fun j hj=>ha j (by omega) hj) hp];simp;omega
    rw[this]at k;exact k
 ·have:df p l=i:=by
   unfold df
   rw[zP fun j hj=>ha j hj (by omega)];omega
  rw[this]at k;exact k
abbrev sO (c:UInt8):Bool:=bu c.toNat
abbrev fP (c:UInt8):Bool:=dp c.toNat
theorem Di (c:UInt8) (k:Q (B (sO c)) h):C d9 [U8 c] h Q:=by
 refine I3 _ _ _ ?_
 unfold Hz
 have e1:decide ((48:Int)≤c.toNat)=decide (48≤c.toNat):=vZ (a:=48)
 have e2:decide ((c.toNat:Int)≤57)=decide (c.toNat≤57):=vZ (b:=57)
 unfold sO bu at k
 refine bz ?_
 rw[e1]
 cases h1:decide (48≤c.toNat) with
 | true=>
   refine ah (fun _=>?_) (fun h=>by cases h)
   refine fQ ?_
   rw[h1,Bool.true_and]at k
   rw[e2];exact k
 | false=>
   refine ah (fun h=>by cases h) (fun _=>?_)
   rw[h1,Bool.false_and]at k;exact k
theorem WH (c:UInt8) (k:Q (B (fP c)) h):C lw [U8 c] h Q:=by
 refine I7 _ _ _ ?_
 unfold Hr
 have e1:decide ((97:Int)≤c.toNat)=decide (97≤c.toNat):=vZ (a:=97)
 have e2:decide ((c.toNat:Int)≤122)=decide (c.toNat≤122):=vZ (b:=122)
 have e3:decide ((c.toNat:Int)=95)=decide (c.toNat=95):=acO (b:=95)
 unfold fP dp x9 at k
 have tail:∀ (h':h=h),(Q (B (decide (c.toNat=95)||bu c.toNat)) h)→ai .eql (U8 c) (.lit (.int .u8 95)) fun t11=>ifB t11 (Q (B true) h) (C d9 [U8 c] h fun t15 h0=>Q t15 h0):=by
  intro _ k
  refine aA ?_
  rw[e3]
  cases h3:decide (c.toNat=95) with
  | true=>
    refine ah (fun _=>?_) (fun h=>by cases h)
    rw[h3,Bool.true_or]at k;exact k
  | false=>
    refine ah (fun h=>by cases h) (fun _=>?_)
    rw[h3,Bool.false_or]at k
    exact Di c k
 refine bz ?_
 rw[e1]
 cases h1:decide (97≤c.toNat) with
 | true=>
   refine ah (fun _=>?_) (fun h=>by cases h)
   rw[h1,Bool.true_and]at k
   refine fQ ?_
   rw[e2]
   cases h2:decide (c.toNat≤122) with
   | true=>
     refine ah (fun _=>?_) (fun h=>by cases h)
     rw[h2,Bool.true_or,Bool.true_or]at k;exact k
   | false=>
     refine ah (fun h=>by cases h) (fun _=>?_)
     rw[h2,Bool.false_or]at k
     exact tail rfl k
 | false=>
   refine ah (fun h=>by cases h) (fun _=>?_)
   rw[h1,Bool.false_and,Bool.false_or]at k
   exact tail rfl k
theorem Xu:GQ (.fn (.func lw) [] []) fP:=fun c h Q k=>WH c k
theorem X7:GQ (.fn (.func d9) [] []) sO:=fun c h Q k=>Di c k
theorem Ap {p:UInt8→Bool}{l:Str}:decide (((df p l:Nat):Int)≠((l.length:Nat):Int))=!(l.all p):=by
 rw[Bool.eq_iff_iff,decide_eq_true_eq,Bool.not_eq_true',← Bool.not_eq_true,← KB];omega
theorem Nb (s:Str) (hs:s.length<4611686018427387904) (k:Q (B (eL s)) h):C ng [T s] h Q:=by
 refine Nn _ _ _ ?_
 unfold Lb
 cases s with
 | nil=>(repeat refine aU ?_);exact k
 | cons c t=>
 dsimp only[eL]at k
 (repeat (first|refine aZ ?_|refine bL ?_|refine aU ?_))
 refine ah (fun hl=>?_) (fun hl=>?_)<;>simp only[za,zb,zc,zd,ze,zf,zg,zh,zi,u8i,zj,zk,zl]at hl
 ·have e:decide ((c::t).length≤12)=false:=by simp at hl ⊢;omega
  rw[e,Bool.false_and]at k
  exact k
 have e:decide ((c::t).length≤12)=true:=by simp at hl ⊢;omega
 rw[e,Bool.true_and]at k
 refine ib (by omega) (by simp) ?_
 refine Di c ?_
 cases h2:sO c with
 | true=>
   refine ah (fun _=>?_) (fun h=>by cases h)
   rw[show bu c.toNat=true from h2]at k
   exact k
 | false=>
 refine ah (fun h=>by cases h) (fun _=>?_)
 rw[show bu c.toNat=false from h2]at k
 simp only[Bool.not_false,Bool.true_and]at k
 refine tJ Xu _ hs ?_
 refine aZ ?_
 refine cc ?_
 rw[Ap]
 cases h3:(c::t).all fP with
 | false=>
   refine ah (fun _=>?_) (fun h=>by cases h)
   rw[show ((c::t).all fun c=>dp c.toNat)=false from h3,Bool.false_and]at k
   exact k
 | true=>
 refine ah (fun h=>by cases h) (fun _=>?_)
 rw[show ((c::t).all fun c=>dp c.toNat)=true from h3,Bool.true_and]at k
 refine ib (by omega) (by simp) ?_
 refine cc ?_
 have e4:decide ((((c::t)[Int.toNat 0].toNat:Nat):Int)≠114)=decide (c≠114):=by
  rw[Bool.eq_iff_iff];simp[← UInt8.toNat_inj];omega
 rw[e4]
 cases h4:decide (c≠114) with
 | true=>
   refine ah (fun _=>?_) (fun h=>by cases h)
   rw[h4,Bool.true_or]at k
   exact k
 | false=>
 refine ah (fun h=>by cases h) (fun _=>?_)
 rw[h4,Bool.false_or]at k
 (repeat (first|refine aZ ?_|refine aA ?_))
 cases t with
 | nil=>refine ah (fun _=>?_) (fun hb=>(by exfalso;first|(simp at hb;done)|(simp at hb;omega)|(revert hb;decide)|omega));exact k
 | cons d t=>
 refine ah (fun h=>by simp at h;omega) (fun _=>?_)
 refine iy (by omega) (by simp;omega) ?_
 rw[show ((c::d::t).drop (Int.toNat 1))=d::t from rfl]
 refine tJ X7 (d::t) (by simp at hs ⊢;omega) ?_
 refine aZ ?_
 refine cC (by simp at hs ⊢;omega) ?_
 refine cc ?_
 rw[show (((c::d::t).length:Nat):Int)-1=(((d::t).length:Nat):Int) by simp,Ap]
 exact k
def jS:Prop:=∀ (s:Str),1≤s.length→s.length≤2→s.all sO=true→∀ (h:ae) (Q:QT),Q (.tup [I (s.foldl (fun n c=>n*10+(c.toNat-48)) 0:Nat),.lit .nilIface]) h→C eH [T s] h Q
def aa6 (s:Str):Nat:=s.foldl (fun n c=>n*10+(c.toNat-48)) 0
def y8 (s:Str):Nat×Bool:=match s with
 | c::t=>if decide (c=114)&&(decide (t.length=1∨t.length=2)&&(t.all sO&&!(decide (t.length=2)&&decide (t.head?=some 48)))) then (aa6 t,decide (aa6 t<32)) else (0,false)
 | []=>(0,false)
theorem Po (hA:jS) (s:Str) (hs:s.length<4611686018427387904) (k:Q (.tup [I ((y8 s).1:Nat),B (y8 s).2]) h):C nN [T s] h Q:=by
 refine CR _ _ _ ?_
 unfold zr
 (repeat (first|refine aZ ?_|refine aJ ?_))
 cases s with
 | nil=>refine ah (fun _=>?_) (fun hb=>(by exfalso;first|(simp at hb;done)|(simp at hb;omega)|(revert hb;decide)|omega));exact k
 | cons c t=>
 dsimp only[y8]at k
 refine ah (fun h1=>?_) (fun h1=>?_)<;>simp only[za,zb,zc,zd,ze,zf,zg,zh,zi,u8i,zj,zk,zl]at h1
 ·have:t.length=0:=by simp at h1;omega
  rw[if_neg (by simp;omega)]at k
  exact k
 (repeat (first|refine aZ ?_|refine bL ?_))
 refine ah (fun h2=>?_) (fun h2=>?_)<;>simp only[za,zb,zc,zd,ze,zf,zg,zh,zi,u8i,zj,zk,zl]at h2
 ·rw[if_neg (by simp at h2 ⊢;omega)]at k
  exact k
 have ht:t.length=1∨t.length=2:=by simp at h1 h2;omega
 refine ib (by omega) (by simp) ?_
 (repeat refine cc ?_)
 have e4:decide ((((c::t)[Int.toNat 0].toNat:Nat):Int)≠114)=decide (c≠114):=by
  rw[Bool.eq_iff_iff];simp[← UInt8.toNat_inj];omega
 rw[e4]
 refine ah (fun h3=>?_) (fun h3=>?_)<;>simp only[za,zb,zc,zd,ze,zf,zg,zh,zi,u8i,zj,zk,zl]at h3
 ·rw[if_neg (by simp[h3])]at k
  exact k
 have h3:c=114:=by simpa using h3
 refine iy (by omega) (by simp;omega) ?_
 rw[show ((c::t).drop (Int.toNat 1))=t from rfl]
 refine tJ X7 t (by omega) ?_
 (repeat (first|refine aZ ?_|refine cc ?_|refine cC (by omega) ?_))
 rw[show (((c::t).length:Nat):Int)-1=((t.length:Nat):Int) by simp,Ap]
 cases h5:t.all sO with
 | false=>
   refine ah (fun _=>?_) (fun h=>by cases h)
   rw[if_neg (by simp[h5])]at k
   exact k
 | true=>
 refine ah (fun h=>by cases h) (fun _=>?_)
 (repeat (first|refine aZ ?_|refine aA ?_))
 have fin:(!(decide (t.length=2)&&decide (t.head?=some 48)))=true→bn (T (c::t)) (some (I 1)) none fun t40=>C eH [t40] h fun t41 h1=>an 0 t41 fun t42=>an 1 t41 fun t43=>ai .lss t42 (I 32) fun t46=>Q (.tup [t42,t46]) h1:=by
  intro hz
  refine iy (by omega) (by simp;omega) ?_
  rw[show ((c::t).drop (Int.toNat 1))=t from rfl]
  refine hA t (by omega) (by omega) h5 _ _ ?_
  (repeat (first|refine aG rfl ?_|refine aJ ?_))
  rw[if_pos (by simp only[h3,h5,hz,decide_true,Bool.true_and,Bool.and_true,decide_eq_true_eq];exact ht)]at k
  have e5:decide (((t.foldl (fun n c=>n*10+(c.toNat-48)) 0:Nat):Int)<32)=decide (aa6 t<32):=by
   unfold aa6;rw[Bool.eq_iff_iff,decide_eq_true_eq,decide_eq_true_eq];omega
  rw[e5]
  exact k
 cases h6:decide (t.length=2) with
 | true=>
   simp only[decide_eq_true_eq]at h6
   obtain⟨a,b,rfl⟩:∃ a b,t=[a,b]:=by
    match t,h6 with
    | [a,b],_=>exact⟨a,b,rfl⟩
   have e6:decide ((([c,a,b].length:Nat):Int)=3)=true:=by simp
   rw[e6]
   refine pk (ah (fun _=>?_) (fun h=>by cases h)) ⟨_,rfl⟩
   refine ib (by omega) (by simp) ?_
   refine aA ?_
   have e7:decide ((([c,a,b][Int.toNat 1].toNat:Nat):Int)=48)=decide (a=48):=by
    rw[Bool.eq_iff_iff];simp[← UInt8.toNat_inj];omega
   rw[e7]
   refine ah (fun h8=>?_) (fun h8=>?_)<;>simp only[za,zb,zc,zd,ze,zf,zg,zh,zi,u8i,zj,zk,zl]at h8
   ·rw[if_neg (by simp[h8])]at k;exact k
   ·exact fin (by simp[h8])
 | false=>
   simp only[decide_eq_false_iff_not]at h6
   have e6:decide ((((c::t).length:Nat):Int)=3)=false:=by simp;omega
   rw[e6]
   refine pk (ah (fun h=>by cases h) (fun _=>?_)) ⟨_,rfl⟩
   exact fin (by simp[h6])
def cb (s:Str):List Str:=if s=[] then [] else (bM 44 s).map tQ
theorem jR (c:UInt8):∀ (l x:Str),x∈bM c l→x.length≤l.length
 | [],x,h=>by simp[bM]at h;subst h;simp
 | a::l,x,h=>by
   unfold bM at h
   split at h
   ·rcases List.mem_cons.1 h with rfl|h
    ·simp
    ·have:=jR c l x h;simp;omega
   ·cases hs:bM c l with
    | nil=>rw[hs]at h;simp at h;subst h;simp
    | cons p ps=>
      rw[hs]at h
      rcases List.mem_cons.1 h with rfl|h
      ·have:=jR c l p (by rw[hs];simp);simp;omega
      ·have:=jR c l x (by rw[hs];simp[h]);simp;omega
theorem NH (hI:gG) (s:Str) (hs:s.length<4000000000) (k:∀ h',Fr [] h h'→Q (.snap (cb s).length ((cb s).flatMap sE)) h'):C nT [T s] h Q:=by
 refine ACall.conv ?_
 refine DN _ _ _ ?_
 unfold zU
 unfold cb at k
 (repeat refine aU ?_)
 refine ah (fun hb=>?_) (fun hb=>?_)<;>simp only[za,zb,zc,zd,ze,zf,zg,zh,zi,u8i,zj,zk,zl]at hb
 ·rw[if_pos hb]at k
  exact cY (k _ (Fr.refl _ _))
 rw[if_neg hb]at k
 refine KY hI 44 s hs fun i h1 s1=>?_
 have hsum:=jR 44 s
 have hlen:=jN 44 s
 have hcnt:=List.count_le_length (a:=44) (l:=s)
 generalize bM 44 s=ps at s1 k hsum hlen ⊢
 (repeat refine Xs ?_)
 refine aO (fun n vs h'=>∃ j:Nat,vs=[I (j:Nat)]∧n+j=ps.length∧St h [] h' [(i,true,.cells (((ps.take j).map tQ++ps.drop j).flatMap fun x=>[T x]))]) ps.length ⟨0,rfl,by omega,by simpa using s1⟩ ?_
 rintro n vs h2 ⟨j,rfl,hn,s2⟩
 unfold tR
 (repeat refine aJ ?_)
 have hll:((ps.take j).map tQ++ps.drop j).length=ps.length:=by simp;omega
 refine ah (fun hb2=>?_) (fun hb2=>?_)<;>simp only[za,zb,zc,zd,ze,zf,zg,zh,zi,u8i,zj,zk,zl]at hb2
 ·have hj:j<ps.length:=hb2
  refine F2 hj ?_
  rw[Nat.mul_one]
  have hx:((ps.take j).map tQ++ps.drop j)[j]?=some ps[j]:=by
   rw[List.getElem?_append_right (by simp;omega),List.getElem?_drop]
   have:j+(j-((ps.take j).map tQ).length)=j:=by simp;omega
   rw[this];simp[hj]
  refine ag (a:=T ps[j]) s2 (.head _) (by rw[Zt,List.getElem?_map,hx];rfl) ?_
  refine FQ _ (by have:=hsum _ (List.getElem_mem hj);omega) fun h3 f3=>?_
  have s3:=s2.call f3
  refine F2 hj ?_
  rw[Nat.mul_one]
  refine ax s3 .head rfl rfl rfl (by rw[eP _ 1 (fun _=>rfl),hll];omega) fun h4 s4=>?_
  rw[show (T (tQ ps[j])).cells=[T (tQ ps[j])] from rfl,AE (by omega)]at s4
  (repeat refine aI (by omega) ?_)
  refine⟨n-1,by omega,j+1,rfl,by omega,?_⟩
  have e:((ps.take j).map tQ++ps.drop j).set j (tQ ps[j])=(ps.take (j+1)).map tQ++ps.drop (j+1):=by
   rw[List.set_append_right _ _ (by simp;omega),show j-((ps.take j).map tQ).length=0 by simp;omega,List.drop_eq_getElem_cons hj,List.set_cons_zero,List.take_succ_eq_append_getElem hj,List.map_append,List.append_assoc];rfl
  rw[e]at s4;exact s4
 ·rw[List.take_of_length_le (by omega),List.drop_of_length_le (by omega),List.append_nil]at s2
  have:=mN (n:=ps.length) (sz:=1) (Q:=Q) (s2.get (i:=i) (.head _)) (by rw[eP _ 1 (fun _=>rfl)];simp) (by
   have:=k _ (s2.kill .head).fr
   simpa using this)
  exact this
end
end
section
structure Rq where
 kind:Int
 name:Str
 text:Str
 value:Int
abbrev rqL (r:Rq):List AV:=[I r.kind,T r.name,T r.text,I r.value]
abbrev rqE (r:Rq):AV:=.agg (rqL r)
abbrev reL (e:Int) (t:Str):List AV:=[I e,T t,.full 0 [],.full 0 []]
abbrev reE (e:Int) (t:Str):AV:=.agg (reL e t)
def mT (k:Int):Bool:=decide (k=1)||decide (k=3)
def iz (r:Rq):Bool:=
 if r.kind<1∨7<r.kind then false
 else if r.kind=7 then decide (r.name=[]∧r.text=[]∧r.value=0)
 else eL r.name&&(decide (r.text.length≤600)&&((decide (r.text=[])||mT r.kind)&&(decide (-1099511627776≤r.value∧r.value≤1099511627776)&&(decide (r.value=0)||decide (r.kind=5)))))
section
variable [Tabs]
variable {h0 h:ae}{M:List Nat}{L R:Own}{K:AV→Prop}{Q:QT}
theorem RU {op:BinOp}{ds:List TypeDesc}{xs ys:List AV}{b:Bool}(e:mR ds xs ys=some b) (k:po op b K):QU op ds (.agg xs) (.agg ys) K:=⟨by simp only[Ft,e];exact k⟩
theorem VW {n:Int}(k:Q (B (mT n)) h):C rj [I n] h Q:=by
 refine IB _ _ _ ?_
 unfold EM
 unfold mT at k
 refine aA ?_
 refine ah (fun h1=>?_) (fun h1=>?_)<;>simp only[za,zb,zc,zd,ze,zf,zg,zh,zi,u8i,zj,zk,zl]at h1
 ·rw[decide_eq_true h1]at k;exact k
 ·rw[decide_eq_false h1,Bool.false_or]at k
  (repeat refine aA ?_)
  exact k
theorem GP {n:Int}(k:Q (B (decide (n=5))) h):C fR [I n] h Q:=by
 refine Fy _ _ _ ?_
 unfold Cg
 (repeat refine aA ?_)
 exact k
theorem adz (a b c d:Int) (n m t u:Str):mR [.int .i64,.string,.string,.int .i64] [I a,T n,T t,I c] [I b,T m,T u,I d]=some (decide (a=b)&&(decide (n=m)&&(decide (t=u)&&(decide (c=d)&&true)))):=by
 have hs:∀ x y:Str,((⟨⟨x⟩⟩:ByteArray)==⟨⟨y⟩⟩)=decide (x=y):=fun x y=>by
  rw[Bool.eq_iff_iff,decide_eq_true_eq]
  show ((⟨x⟩:Array UInt8)==⟨y⟩)=true↔_
  simp
 simp only[mR,VI,if_true,hs]
 rfl
theorem J8 (r:Rq) (hn:r.name.length<4611686018427387904) (k:∀ h',Fr [] h h'→Q (B (iz r)) h'):C tv [rqE r] h Q:=by
 refine JG _ _ _ ?_
 unfold IU
 refine bC (St.start h) rfl fun p h1 s1=>?_
 have k:=k h1 s1.fr
 unfold iz at k
 (repeat (first|refine aj ?_|refine aJ ?_|refine ag ‹_› (.head _) rfl ?_))
 refine ah (fun a1=>?_) (fun a1=>?_)<;>simp only[za,zb,zc,zd,ze,zf,zg,zh,zi,u8i,zj,zk,zl]at a1
 ·rw[if_pos (.inl a1)]at k;exact k
 ·(repeat (first|refine aj ?_|refine bL ?_|refine ag ‹_› (.head _) rfl ?_))
  refine ah (fun a2=>?_) (fun a2=>?_)<;>simp only[za,zb,zc,zd,ze,zf,zg,zh,zi,u8i,zj,zk,zl]at a2
  ·rw[if_pos (.inr a2)]at k;exact k
  ·rw[if_neg (by omega)]at k
   (repeat (first|refine aj ?_|refine aA ?_|refine ag ‹_› (.head _) rfl ?_))
   refine ah (fun a3=>?_) (fun a3=>?_)<;>simp only[za,zb,zc,zd,ze,zf,zg,zh,zi,u8i,zj,zk,zl]at a3
   ·rw[if_pos a3]at k
    refine aF s1 (.head _) (nle rfl) (aD rfl ?_)
    refine RU (adz _ _ _ _ _ _ _ _) ?_
    simp only[po]
    have:(decide (r.kind=7)&&(decide (r.name=[])&&(decide (r.text=[])&&(decide (r.value=0)&&true))))=decide (r.name=[]∧r.text=[]∧r.value=0):=by
     rw[Bool.eq_iff_iff];simp[a3]
    rw[this];exact k
   ·rw[if_neg a3]at k
    (repeat (first|refine aj ?_|refine ag ‹_› (.head _) rfl ?_))
    refine Nb _ hn ?_
    (repeat refine bi ?_)
    refine ah (fun a4=>?_) (fun a4=>?_)<;>simp only[za,zb,zc,zd,ze,zf,zg,zh,zi,u8i,zj,zk,zl]at a4
    ·rw[a4,Bool.false_and]at k;exact k
    ·rw[a4,Bool.true_and]at k
     (repeat (first|refine aj ?_|refine aZ ?_|refine bL ?_|refine ag ‹_› (.head _) rfl ?_))
     refine ah (fun a5=>?_) (fun a5=>?_)<;>simp only[za,zb,zc,zd,ze,zf,zg,zh,zi,u8i,zj,zk,zl]at a5
     ·rw[decide_eq_false (by omega),Bool.false_and]at k;exact k
     ·rw[decide_eq_true (by omega),Bool.true_and]at k
      (repeat (first|refine aj ?_|refine pi ?_|refine ag ‹_› (.head _) rfl ?_))
      have tl:-1099511627776≤r.value→r.value≤1099511627776→r.value=0→(decide (r.text=[])||mT r.kind)=true→Q (B true) h1:=fun b1 b2 b3 b4=>by
       simpa [b1,b2,b3,b4] using k
      have td:-1099511627776≤r.value→r.value≤1099511627776→r.value≠0→(decide (r.text=[])||mT r.kind)=true→Q (B (decide (r.kind=5))) h1:=fun b1 b2 b3 b4=>by
       simpa [b1,b2,b3,b4] using k
      have tn:¬ (-1099511627776≤r.value∧r.value≤1099511627776)→(decide (r.text=[])||mT r.kind)=true→Q (B false) h1:=fun b1 b4=>by
       rw[b4,decide_eq_false b1]at k;exact k
      have tw:¬ r.text=[]→mT r.kind=false→Q (B false) h1:=fun b1 b4=>by
       rw[b4,decide_eq_false b1]at k;exact k
      clear k
      refine ah (fun a6=>?_) (fun a6=>?_)<;>simp only[za,zb,zc,zd,ze,zf,zg,zh,zi,u8i,zj,zk,zl]at a6
      ·(repeat (first|refine aj ?_|refine ag ‹_› (.head _) rfl ?_))
       refine VW ?_
       (repeat refine bi ?_)
       refine ah (fun a7=>?_) (fun a7=>?_)<;>simp only[za,zb,zc,zd,ze,zf,zg,zh,zi,u8i,zj,zk,zl]at a7
       ·exact tw a6 a7
       ·have b4:(decide (r.text=[])||mT r.kind)=true:=by rw[a7,Bool.or_true]
        ((repeat (first|refine aj ?_|refine bz ?_|refine ag ‹_› (.head _) rfl ?_));(refine ah (fun b1=>?_) (fun b1=>?_)<;>simp only[za,zb,zc,zd,ze,zf,zg,zh,zi,u8i,zj,zk,zl]at b1);((repeat (first|refine aj ?_|refine fQ ?_|refine ag ‹_› (.head _) rfl ?_));(refine ah (fun b2=>?_) (fun b2=>?_)<;>simp only[za,zb,zc,zd,ze,zf,zg,zh,zi,u8i,zj,zk,zl]at b2);((repeat (first|refine aj ?_|refine aA ?_|refine ag ‹_› (.head _) rfl ?_));(refine ah (fun b3=>?_) (fun b3=>?_)<;>simp only[za,zb,zc,zd,ze,zf,zg,zh,zi,u8i,zj,zk,zl]at b3);exact tl b1 b2 b3 b4;((repeat (first|refine aj ?_|refine ag ‹_› (.head _) rfl ?_));refine GP ?_;exact td b1 b2 b3 b4));exact tn (by omega) b4);exact tn (by omega) b4)
      ·have b4:(decide (r.text=[])||mT r.kind)=true:=by rw[decide_eq_true a6,Bool.true_or]
       ((repeat (first|refine aj ?_|refine bz ?_|refine ag ‹_› (.head _) rfl ?_));(refine ah (fun b1=>?_) (fun b1=>?_)<;>simp only[za,zb,zc,zd,ze,zf,zg,zh,zi,u8i,zj,zk,zl]at b1);((repeat (first|refine aj ?_|refine fQ ?_|refine ag ‹_› (.head _) rfl ?_));(refine ah (fun b2=>?_) (fun b2=>?_)<;>simp only[za,zb,zc,zd,ze,zf,zg,zh,zi,u8i,zj,zk,zl]at b2);((repeat (first|refine aj ?_|refine aA ?_|refine ag ‹_› (.head _) rfl ?_));(refine ah (fun b3=>?_) (fun b3=>?_)<;>simp only[za,zb,zc,zd,ze,zf,zg,zh,zi,u8i,zj,zk,zl]at b3);exact tl b1 b2 b3 b4;((repeat (first|refine aj ?_|refine ag ‹_› (.head _) rfl ?_));refine GP ?_;exact td b1 b2 b3 b4));exact tn (by omega) b4);exact tn (by omega) b4)
end
end
section
structure WkM where
 f:KL Str
 s:KL Int
def NF (w:WkM) (n t:Str):WkM×Int×Str:=if dm n w.f=none∧8≤w.f.length then (w,10,[]) else ({ w with f:=rp n t w.f },0,[])
def MW (w:WkM) (n:Str):WkM×Int×Str:=if dm n w.f=none then (w,9,[]) else ({ w with f:=Ff n w.f },0,[])
def BF (w:WkM) (n t:Str):WkM×Int×Str:=match dm n w.f with
 | none=>(w,9,[])
 | some o=>if 600<o.length+t.length then (w,10,[]) else ({ w with f:=rp n (o++t) w.f },0,[])
def CM (w:WkM) (n:Str):WkM×Int×Str:=match dm n w.f with
 | none=>(w,9,[])
 | some o=>(w,0,o)
def Mj (w:WkM) (n:Str) (v:Int):WkM×Int×Str:=if dm n w.s=none∧8≤w.s.length then (w,10,[]) else ({ w with s:=rp n v w.s },0,[])
def uU (w:WkM) (n:Str):WkM×Int×Str:=if dm n w.s=none then (w,9,[]) else ({ w with s:=Ff n w.s },0,[])
def HU (w:WkM) (r:Rq):WkM×Int×Str:=
 if r.kind=1 then NF w r.name r.text else if r.kind=2 then MW w r.name else if r.kind=3 then BF w r.name r.text
 else if r.kind=4 then CM w r.name else if r.kind=5 then Mj w r.name r.value else uU w r.name
def doW (w:WkM) (r:Rq):WkM×Int×Str:=if iz r=false then (w,12,[]) else HU w r
section
variable [Tabs]
variable {h0 h:ae}{M:List Nat}{L R:Own}{K:AV→Prop}{Q:QT}
def WkS (h0:ae) (M:List Nat) (h:ae) (i:Nat) (w:WkM) (R:Own):Prop:=∃ jf js xf xs,MapS T w.f xf∧MapS I w.s xs∧St h0 M h ((i,true,.cells [.map jf,.map js])::(jf,true,xf)::(js,true,xs)::R)
theorem n8 {n:Int}(k:∀ h',Fr [] h h'→Q (reE n []) h'):C ck [I n] h Q:=by
 refine SE _ _ _ ?_
 unfold UB
 refine aM (St.start h) fun i h1 s1=>?_
 refine aD rfl ?_
 refine ax s1 .head rfl rfl rfl (nle rfl) fun h2 s2=>?_
 refine aF s2 (.head _) (nle rfl) ?_
 exact k h2 s2.fr
theorem St.after (s:St h0 M h L) {h':ae}(f:Fr [] h h'):St h0 M h' L:=
 ⟨s.fr.trans f (by simp),fun e he=>f.get (s.at_ e he) (by simp),s.own,s.nd⟩
theorem aah (s:St h0 M h R) (k:∀ i h',WkS h0 M h' i ⟨[],[]⟩ R→Q (.ptr i 0) h'):C xi [] h Q:=by
 refine Q0 _ _ ?_
 unfold NX
 refine qL s fun jf h1 s1=>?_
 refine qL s1 fun js h2 s2=>?_
 refine aD rfl ?_
 refine bC s2 rfl fun i h3 s3=>?_
 exact k i h3 ⟨jf,js,_,_,.nil T,.nil I,s3.perm (.cons _ (.swap _ _ _))⟩
theorem aa7 {i:Nat}{w:WkM}{r:Rq}(s:WkS h0 M h i w R) (k:∀ h',WkS h0 M h' i (NF w r.name r.text).1 R→Q (reE (NF w r.name r.text).2.1 (NF w r.name r.text).2.2) h'):C ku [.ptr i 0,rqE r] h Q:=by
 obtain⟨jf,js,xf,xs,mf,ms,s⟩:=s
 refine Db _ _ _ _ ?_
 unfold zt
 (refine bC s rfl fun p h1 s1=>?_;refine aM s1 fun q h2 s2=>?_;(repeat (first|refine au ?_|refine aj ?_|refine ag ‹_› (by first|exact .head _|exact .tail _ (.head _)|exact .tail _ (.tail _ (.head _))) rfl ?_)))
 refine um (s2.get (.tail _ (.tail _ (.tail _ (.head _))))) mf ?_
 unfold NF at k
 (repeat (first|refine aG rfl ?_|refine bi ?_))
 have tail:¬ (dm r.name w.f=none∧8≤w.f.length)→aE (.ptr i 0) fun t29=>ab 0 t29 fun t30=>af t30 h2 fun t31=>ab 1 (.ptr p 0) fun t32=>af t32 h2 fun t33=>ab 2 (.ptr p 0) fun t34=>af t34 h2 fun t35=>bT .string t31 t33 t35 h2 fun h9=>C ck [(I 0)] h9 fun t36 h10=>ak 4 (.ptr q 0) t36 h10 fun h11=>ap 4 (.ptr q 0) h11 fun r12=>Q r12 h11:=fun hb=>by
  rw[if_neg hb]at k
  (repeat (first|refine au ?_|refine aj ?_|refine ag ‹_› (by first|exact .head _|exact .tail _ (.head _)|exact .tail _ (.tail _ (.head _))) rfl ?_))
  refine Md s2 (.tail _ (.tail _ (.tail _ (.head _)))) mf fun o' mf' st=>?_
  have s2:=st (.tail (.tail (.tail .head)))
  (refine n8 fun h3 f3=>?_;refine ax (s2.after f3) .head rfl rfl rfl (nle rfl) fun h4 s4=>?_;refine aF s4 (.head _) (nle rfl) ?_)
  exact k h4 ⟨_,_,_,_,mf',ms,s4.drop1.drop1⟩
 refine ah (fun hb=>?_) (fun hb=>?_)<;>simp only[za,zb,zc,zd,ze,zf,zg,zh,zi,u8i,zj,zk,zl]at hb
 ·(repeat (first|refine au ?_|refine aj ?_|refine ag ‹_› (by first|exact .head _|exact .tail _ (.tail _ (.head _))) rfl ?_))
  refine PH (s2.get (.tail _ (.tail _ (.tail _ (.head _))))) mf ?_
  (repeat refine bz ?_)
  have hn:dm r.name w.f=none:=by simpa using hb
  refine ah (fun hc=>?_) (fun hc=>?_)<;>simp only[za,zb,zc,zd,ze,zf,zg,zh,zi,u8i,zj,zk,zl]at hc
  ·rw[if_pos ⟨hn,by omega⟩]at k
   (refine n8 fun h3 f3=>?_;refine ax (s2.after f3) .head rfl rfl rfl (nle rfl) fun h4 s4=>?_;refine aF s4 (.head _) (nle rfl) ?_)
   exact k h4 ⟨_,_,_,_,mf,ms,s4.drop1.drop1⟩
  ·exact tail fun h=>by omega
 ·exact tail fun h=>by simp[h.1]at hb
theorem abk {i:Nat}{w:WkM}{r:Rq}(s:WkS h0 M h i w R) (k:∀ h',WkS h0 M h' i (MW w r.name).1 R→Q (reE (MW w r.name).2.1 (MW w r.name).2.2) h'):C kA [.ptr i 0,rqE r] h Q:=by
 obtain⟨jf,js,xf,xs,mf,ms,s⟩:=s
 refine Dm _ _ _ _ ?_
 unfold zD
 (refine bC s rfl fun p h1 s1=>?_;refine aM s1 fun q h2 s2=>?_;(repeat (first|refine au ?_|refine aj ?_|refine ag ‹_› (by first|exact .head _|exact .tail _ (.head _)|exact .tail _ (.tail _ (.head _))) rfl ?_)))
 refine um (s2.get (.tail _ (.tail _ (.tail _ (.head _))))) mf ?_
 unfold MW at k
 (repeat (first|refine aG rfl ?_|refine bi ?_))
 refine ah (fun hb=>?_) (fun hb=>?_)<;>simp only[za,zb,zc,zd,ze,zf,zg,zh,zi,u8i,zj,zk,zl]at hb
 ·have hn:dm r.name w.f=none:=by simpa using hb
  rw[if_pos hn]at k
  (refine n8 fun h3 f3=>?_;refine ax (s2.after f3) .head rfl rfl rfl (nle rfl) fun h4 s4=>?_;refine aF s4 (.head _) (nle rfl) ?_)
  exact k h4 ⟨_,_,_,_,mf,ms,s4.drop1.drop1⟩
 ·have hn:dm r.name w.f≠none:=by intro h;rw[h]at hb;cases hb
  rw[if_neg hn]at k
  (repeat (first|refine au ?_|refine aj ?_|refine ag ‹_› (by first|exact .head _|exact .tail _ (.head _)|exact .tail _ (.tail _ (.head _))) rfl ?_))
  refine T3 s2 (.tail _ (.tail _ (.tail _ (.head _)))) mf fun o' hz mf' st=>?_
  have s2:=st (.tail (.tail (.tail .head)))
  (refine n8 fun h3 f3=>?_;refine ax (s2.after f3) .head rfl rfl rfl (nle rfl) fun h4 s4=>?_;refine aF s4 (.head _) (nle rfl) ?_)
  exact k h4 ⟨_,_,_,_,mf',ms,s4.drop1.drop1⟩
theorem YO {i:Nat}{w:WkM}{r:Rq}(hw:∀ o,dm r.name w.f=some o→o.length≤600) (hr:r.text.length≤600) (s:WkS h0 M h i w R) (k:∀ h',WkS h0 M h' i (BF w r.name r.text).1 R→Q (reE (BF w r.name r.text).2.1 (BF w r.name r.text).2.2) h'):C jh [.ptr i 0,rqE r] h Q:=by
 obtain⟨jf,js,xf,xs,mf,ms,s⟩:=s
 refine B2 _ _ _ _ ?_
 unfold xI
 (refine bC s rfl fun p h1 s1=>?_;refine aM s1 fun q h2 s2=>?_;(repeat (first|refine au ?_|refine aj ?_|refine ag ‹_› (by first|exact .head _|exact .tail _ (.head _)|exact .tail _ (.tail _ (.head _))) rfl ?_)))
 refine um (s2.get (.tail _ (.tail _ (.tail _ (.head _))))) mf ?_
 unfold BF at k
 cases hl:dm r.name w.f with
 | none=>
   rw[hl]at k
   (repeat (first|refine aG rfl ?_|refine bi ?_))
   refine ah (fun _=>?_) (fun h=>by cases h)
   (refine n8 fun h3 f3=>?_;refine ax (s2.after f3) .head rfl rfl rfl (nle rfl) fun h4 s4=>?_;refine aF s4 (.head _) (nle rfl) ?_)
   exact k h4 ⟨_,_,_,_,mf,ms,s4.drop1.drop1⟩
 | some o=>
   rw[hl]at k
   have ho:=hw o hl
   (repeat (first|refine aj ?_|refine aZ ?_|refine aG rfl ?_|refine bi ?_|refine bL ?_|refine aI (by omega) ?_|refine ag ‹_› (by first|exact .head _|exact .tail _ (.head _)) rfl ?_))
   refine ah (fun hb=>?_) (fun hb=>?_)<;>simp only[za,zb,zc,zd,ze,zf,zg,zh,zi,u8i,zj,zk,zl]at hb
   ·have k:=k
    simp only at k
    rw[if_pos (show 600<o.length+r.text.length by omega)]at k
    (refine n8 fun h3 f3=>?_;refine ax (s2.after f3) .head rfl rfl rfl (nle rfl) fun h4 s4=>?_;refine aF s4 (.head _) (nle rfl) ?_)
    exact k h4 ⟨_,_,_,_,mf,ms,s4.drop1.drop1⟩
   ·simp only at k
    rw[if_neg (show ¬ 600<o.length+r.text.length by omega)]at k
    (repeat (first|refine au ?_|refine aj ?_|refine ag ‹_› (by first|exact .head _|exact .tail _ (.head _)|exact .tail _ (.tail _ (.head _))) rfl ?_))
    refine d4 (by omega) ?_
    refine Md s2 (.tail _ (.tail _ (.tail _ (.head _)))) mf fun o' mf' st=>?_
    have s2:=st (.tail (.tail (.tail .head)))
    (refine n8 fun h3 f3=>?_;refine ax (s2.after f3) .head rfl rfl rfl (nle rfl) fun h4 s4=>?_;refine aF s4 (.head _) (nle rfl) ?_)
    exact k h4 ⟨_,_,_,_,mf',ms,s4.drop1.drop1⟩
theorem YM {i:Nat}{w:WkM}{r:Rq}(s:WkS h0 M h i w R) (k:∀ h',WkS h0 M h' i (CM w r.name).1 R→Q (reE (CM w r.name).2.1 (CM w r.name).2.2) h'):C jt [.ptr i 0,rqE r] h Q:=by
 obtain⟨jf,js,xf,xs,mf,ms,s⟩:=s
 refine Cd _ _ _ _ ?_
 unfold xj
 (refine bC s rfl fun p h1 s1=>?_;refine aM s1 fun q h2 s2=>?_;(repeat (first|refine au ?_|refine aj ?_|refine ag ‹_› (by first|exact .head _|exact .tail _ (.head _)|exact .tail _ (.tail _ (.head _))) rfl ?_)))
 refine um (s2.get (.tail _ (.tail _ (.tail _ (.head _))))) mf ?_
 unfold CM at k
 cases hl:dm r.name w.f with
 | none=>
   rw[hl]at k
   (repeat (first|refine aG rfl ?_|refine bi ?_))
   refine ah (fun _=>?_) (fun h=>by cases h)
   (refine n8 fun h3 f3=>?_;refine ax (s2.after f3) .head rfl rfl rfl (nle rfl) fun h4 s4=>?_;refine aF s4 (.head _) (nle rfl) ?_)
   exact k h4 ⟨_,_,_,_,mf,ms,s4.drop1.drop1⟩
 | some o=>
   rw[hl]at k
   (repeat (first|refine aG rfl ?_|refine bi ?_|refine aD rfl ?_))
   refine ax s2 .head rfl rfl rfl (nle rfl) fun h4 s4=>?_
   refine aF s4 (.head _) (nle rfl) ?_
   exact k h4 ⟨_,_,_,_,mf,ms,s4.drop1.drop1⟩
theorem Te {i:Nat}{w:WkM}{r:Rq}(s:WkS h0 M h i w R) (k:∀ h',WkS h0 M h' i (Mj w r.name r.value).1 R→Q (reE (Mj w r.name r.value).2.1 (Mj w r.name r.value).2.2) h'):C gF [.ptr i 0,rqE r] h Q:=by
 obtain⟨jf,js,xf,xs,mf,ms,s⟩:=s
 refine y0 _ _ _ _ ?_
 unfold ud
 (refine bC s rfl fun p h1 s1=>?_;refine aM s1 fun q h2 s2=>?_;(repeat (first|refine au ?_|refine aj ?_|refine ag ‹_› (by first|exact .head _|exact .tail _ (.head _)|exact .tail _ (.tail _ (.head _))) rfl ?_)))
 refine um (s2.get (.tail _ (.tail _ (.tail _ (.tail _ (.head _)))))) ms ?_
 unfold Mj at k
 (repeat (first|refine aG rfl ?_|refine bi ?_))
 have tail:¬ (dm r.name w.s=none∧8≤w.s.length)→aE (.ptr i 0) fun t29=>ab 1 t29 fun t30=>af t30 h2 fun t31=>ab 1 (.ptr p 0) fun t32=>af t32 h2 fun t33=>ab 3 (.ptr p 0) fun t34=>af t34 h2 fun t35=>bT .string t31 t33 t35 h2 fun h9=>C ck [(I 0)] h9 fun t36 h10=>ak 4 (.ptr q 0) t36 h10 fun h11=>ap 4 (.ptr q 0) h11 fun r12=>Q r12 h11:=fun hb=>by
  rw[if_neg hb]at k
  (repeat (first|refine au ?_|refine aj ?_|refine ag ‹_› (by first|exact .head _|exact .tail _ (.head _)|exact .tail _ (.tail _ (.head _))) rfl ?_))
  refine Md s2 (.tail _ (.tail _ (.tail _ (.tail _ (.head _))))) ms fun o' ms' st=>?_
  have s2:=st (.tail (.tail (.tail (.tail .head))))
  (refine n8 fun h3 f3=>?_;refine ax (s2.after f3) .head rfl rfl rfl (nle rfl) fun h4 s4=>?_;refine aF s4 (.head _) (nle rfl) ?_)
  exact k h4 ⟨_,_,_,_,mf,ms',s4.drop1.drop1⟩
 refine ah (fun hb=>?_) (fun hb=>?_)<;>simp only[za,zb,zc,zd,ze,zf,zg,zh,zi,u8i,zj,zk,zl]at hb
 ·(repeat (first|refine au ?_|refine aj ?_|refine ag ‹_› (by first|exact .head _|exact .tail _ (.tail _ (.head _))) rfl ?_))
  refine PH (s2.get (.tail _ (.tail _ (.tail _ (.tail _ (.head _)))))) ms ?_
  (repeat refine bz ?_)
  have hn:dm r.name w.s=none:=by simpa using hb
  refine ah (fun hc=>?_) (fun hc=>?_)<;>simp only[za,zb,zc,zd,ze,zf,zg,zh,zi,u8i,zj,zk,zl]at hc
  ·rw[if_pos ⟨hn,by omega⟩]at k
   (refine n8 fun h3 f3=>?_;refine ax (s2.after f3) .head rfl rfl rfl (nle rfl) fun h4 s4=>?_;refine aF s4 (.head _) (nle rfl) ?_)
   exact k h4 ⟨_,_,_,_,mf,ms,s4.drop1.drop1⟩
  ·exact tail fun h=>by omega
 ·exact tail fun h=>by simp[h.1]at hb
theorem Vw {i:Nat}{w:WkM}{r:Rq}(s:WkS h0 M h i w R) (k:∀ h',WkS h0 M h' i (uU w r.name).1 R→Q (reE (uU w r.name).2.1 (uU w r.name).2.2) h'):C ir [.ptr i 0,rqE r] h Q:=by
 obtain⟨jf,js,xf,xs,mf,ms,s⟩:=s
 refine AH _ _ _ _ ?_
 unfold wh
 (refine bC s rfl fun p h1 s1=>?_;refine aM s1 fun q h2 s2=>?_;(repeat (first|refine au ?_|refine aj ?_|refine ag ‹_› (by first|exact .head _|exact .tail _ (.head _)|exact .tail _ (.tail _ (.head _))) rfl ?_)))
 refine um (s2.get (.tail _ (.tail _ (.tail _ (.tail _ (.head _)))))) ms ?_
 unfold uU at k
 (repeat (first|refine aG rfl ?_|refine bi ?_))
 refine ah (fun hb=>?_) (fun hb=>?_)<;>simp only[za,zb,zc,zd,ze,zf,zg,zh,zi,u8i,zj,zk,zl]at hb
 ·have hn:dm r.name w.s=none:=by simpa using hb
  rw[if_pos hn]at k
  (refine n8 fun h3 f3=>?_;refine ax (s2.after f3) .head rfl rfl rfl (nle rfl) fun h4 s4=>?_;refine aF s4 (.head _) (nle rfl) ?_)
  exact k h4 ⟨_,_,_,_,mf,ms,s4.drop1.drop1⟩
 ·have hn:dm r.name w.s≠none:=by intro h;rw[h]at hb;cases hb
  rw[if_neg hn]at k
  (repeat (first|refine au ?_|refine aj ?_|refine ag ‹_› (by first|exact .head _|exact .tail _ (.head _)|exact .tail _ (.tail _ (.head _))) rfl ?_))
  refine T3 s2 (.tail _ (.tail _ (.tail _ (.tail _ (.head _))))) ms fun o' hz ms' st=>?_
  have s2:=st (.tail (.tail (.tail (.tail .head))))
  (refine n8 fun h3 f3=>?_;refine ax (s2.after f3) .head rfl rfl rfl (nle rfl) fun h4 s4=>?_;refine aF s4 (.head _) (nle rfl) ?_)
  exact k h4 ⟨_,_,_,_,mf,ms',s4.drop1.drop1⟩
abbrev deedL:List AV:=[(.fn (.func ku) [] []),(.fn (.func kA) [] []),(.fn (.func jh) [] []),(.fn (.func jt) [] []),(.fn (.func gF) [] []),(.fn (.func ir) [] []),(.fn (.func io) [] [])]
theorem Pe {n:Nat}(hn:n<7) (k:∀ a,deedL[n]?=some a→Q a h):C qo [I ((n:Nat)+1)] h Q:=by
 refine L2 _ _ _ ?_
 unfold Kx
 refine aB rfl rfl ?_
 refine cC (by omega) ?_
 rw[show ((n:Nat):Int)+1-1=((n:Nat):Int) by omega]
 refine (Row.full (h:=h) (enc:=fun x:AV=>[x]) (sz:=1) (fun _=>rfl) deedL).idx (fun _=>rfl) (show n<deedL.length from hn) fun p t=>?_
 refine aK t ?_
 exact k _ (List.getElem?_eq_getElem _)
structure WkOk (w:WkM):Prop where
 txt:∀ x∈w.f,x.2.length≤600
 fn:w.f.length≤8
 sn:w.s.length≤8
 fw:∀ x∈w.f,eL x.1=true
 sw:∀ x∈w.s,eL x.1=true
 sv:∀ x∈w.s,-1099511627776≤x.2∧x.2≤1099511627776
theorem acL {i:Nat}{w:WkM}{r:Rq}(hw:WkOk w) (hn:r.name.length<4611686018427387904) (h7:r.kind≠7) (s:WkS h0 M h i w R) (sf:SoK w.f) (k:∀ h',WkS h0 M h' i (doW w r).1 R→Q (reE (doW w r).2.1 (doW w r).2.2) h'):C iQ [.ptr i 0,rqE r] h Q:=by
 obtain⟨jf,js,xf,xs,mf,ms,s⟩:=s
 refine wi _ _ _ _ ?_
 unfold vp
 (refine bC s rfl fun p h1 s1=>?_;refine aM s1 fun q h2 s2=>?_;(repeat refine aF ‹_› (by first|exact .head _|exact .tail _ (.head _)) (nle rfl) ?_))
 refine J8 r hn fun h3 f3=>?_
 have s3:=s2.after f3
 unfold doW at k
 (repeat refine bi ?_)
 refine ah (fun hr=>?_) (fun hr=>?_)<;>simp only[za,zb,zc,zd,ze,zf,zg,zh,zi,u8i,zj,zk,zl]at hr
 ·rw[if_pos hr]at k
  refine n8 fun h4 f4=>?_
  refine ax (s3.after f4) .head rfl rfl rfl (nle rfl) fun h5 s5=>?_
  refine aF s5 (.head _) (nle rfl) ?_
  exact k h5 ⟨_,_,_,_,mf,ms,s5.drop1.drop1⟩
 ·rw[if_neg (by rw[hr];simp)]at k
  (repeat (first|refine aj ?_|refine ag ‹_› (by first|exact .head _|exact .tail _ (.head _)) rfl ?_|refine aF ‹_› (by first|exact .head _|exact .tail _ (.head _)) (nle rfl) ?_))
  have hk:1≤r.kind∧r.kind≤6∧r.text.length≤600:=by
   unfold iz at hr
   by_cases h1:r.kind<1∨7<r.kind
   ·rw[if_pos h1]at hr;cases hr
   ·rw[if_neg h1,if_neg h7]at hr
    simp only[Bool.and_eq_true,decide_eq_true_eq]at hr
    exact⟨by omega,by omega,hr.2.1⟩
  obtain⟨n,hn⟩:=Int.eq_ofNat_of_zero_le (show 0≤r.kind-1 by omega)
  have hkn:r.kind=(n:Nat)+1:=by omega
  rw[hkn]
  refine Pe (show n<7 by omega) fun a ha=>?_
  refine⟨aF s3 (.tail _ (.head _)) (nle rfl) rfl,?_⟩
  have fin:∀ {e:WkM×Int×Str},(∀ h',WkS h0 M h' i e.1 R→Q (reE e.2.1 e.2.2) h')→∀ h4,WkS h0 M h4 i e.1 ((q,true,.cells [I 0,S ⟨#[]⟩,.full 0 [],.full 0 []])::(p,true,.cells (AV.cells (rqE r)))::R)→ak 4 (.ptr q 0) (reE e.2.1 e.2.2) h4 fun h8=>ap 4 (.ptr q 0) h8 fun r9=>Q r9 h8:=fun k h4 s4=>by
   obtain⟨jf,js,xf,xs,mf,ms,s4⟩:=s4
   refine ax (o:=0) s4 (.tail (.tail (.tail .head))) rfl rfl rfl (nle rfl) fun h5 s5=>?_
   refine aF s5 (.tail _ (.tail _ (.tail _ (.head _)))) (nle rfl) ?_
   exact k h5 ⟨_,_,_,_,mf,ms,s5.sub (by exact ((((List.Sublist.refl _).cons _).cons _).cons_cons _).cons_cons _ |>.cons_cons _)⟩
  have s4:WkS h0 M h3 i w ((q,true,.cells [I 0,S ⟨#[]⟩,.full 0 [],.full 0 []])::(p,true,.cells (AV.cells (rqE r)))::R):=⟨jf,js,xf,xs,mf,ms,s3.perm (by
   refine (List.perm_append_comm (l₁:=[(q,true,AObj.cells [I 0,S ⟨#[]⟩,.full 0 [],.full 0 []]),(p,true,.cells (AV.cells (rqE r)))]) (l₂:=[(i,true,AObj.cells [AV.map jf,AV.map js]),(jf,true,xf),(js,true,xs)])).append_right R)⟩
  unfold HU at k
  have hc:n=0∨n=1∨n=2∨n=3∨n=4∨n=5:=by omega
  rcases hc with h|h|h|h|h|h<;>subst h<;>cases ha
  ·rw[if_pos (by omega)]at k;exact aa7 s4 (fin k)
  ·rw[if_neg (by omega),if_pos (by omega)]at k;exact abk s4 (fin k)
  ·rw[if_neg (by omega),if_neg (by omega),if_pos (by omega)]at k
   exact YO (fun o ho=>hw.txt _ ((uf sf.nd).1 ho)) hk.2.2 s4 (fin k)
  ·rw[if_neg (by omega),if_neg (by omega),if_neg (by omega),if_pos (by omega)]at k;exact YM s4 (fin k)
  ·rw[if_neg (by omega),if_neg (by omega),if_neg (by omega),if_neg (by omega),if_pos (by omega)]at k;exact Te s4 (fin k)
  ·rw[if_neg (by omega),if_neg (by omega),if_neg (by omega),if_neg (by omega),if_neg (by omega)]at k;exact Vw s4 (fin k)
end
end
section
section
variable [Tabs]
variable {h0 h:ae}{M:List Nat}{L R:Own}{K:AV→Prop}{Q:QT}
abbrev nmE:Str→List AV:=fun x=>[T x]
structure GW:Prop where
 k1:∃ tm,AA Pg dq c7 tm
 s1:∃ ks,rb Pg eC c7 ks
 k2:∃ tm,AA Pg eE d6 tm
 s2:∃ ks,rb Pg eC d6 ks
theorem OM {α:Type}{enc:α→AV}{l:KL α}{f g f':FuncId}{tm ks:TypeId}(hK:AA Pg f g tm) (hS:rb Pg f' g ks) {j:Nat}{b:Bool}{o:AObj}(s:St h0 M h L) (e:(j,b,o)∈L) (m:MapS enc l o) (hl:l.length≤1000000) (hk:∀ x∈l,x.1.length≤1000000)
  {K2:QT} (k:∀ v E h',AccE 1 v (l.map (·.1)).length ((l.map (·.1)).flatMap nmE) E→St h0 M h' (E++L)→K2 v h'):C f [.map j] h fun t9 h1=>C f' [t9] h1 fun t10 h2=>K2 t10 h2:=by
 refine aaE hK (s.get e) ?_
 have s1:=s.push (.keys j)
 refine Wc hS (s1.get (.head _)) (s1.get (.tail _ e)) m hl hk (fun h0=>?_) fun h0=>?_
 ·subst h0
  exact k _ [] _ (.none 1) s1.drop1
 ·have s2:=s1.push (.cells (l.map fun x=>oH x.1))
  refine k _ [((h++[AObj.keys j]).length,true,.cells (l.map fun x:List UInt8×α=>oH x.1))] _ (.inr ⟨by simp[eP nmE 1 (fun _=>rfl)],_,by rw[List.length_map],?_⟩) (s2.sub (((List.Sublist.refl _).cons _).cons_cons _))
  have:(l.map fun x=>oH x.1)=(l.map (·.1)).flatMap nmE:=by
   rw[List.flatMap_map]
   induction l with
   | nil=>rfl
   | cons a l ih=>simp only[List.map_cons,List.flatMap_cons,List.singleton_append];congr 1;exact List.map_eq_flatMap
  rw[this]
theorem AccE.row {α:Type}{enc:α→List AV}{sz:Nat}{v:AV}{l:List α}{E:Own}(a:AccE sz v l.length (l.flatMap enc) E) (s:St h0 M h (E++L)):Row enc sz h v l:=a.rd s
theorem B3 {n:Nat}{cs:List AV}(hb:n*32≤1099511627776) {v:AV}{h:ae}(r:Rd h 2 v n cs) {Q:QT}(k:∀ h',Fr [] h h'→Q (.snap n cs) h'):C c8 [v] h Q:=by
 refine ACall.conv ?_
 refine fj _ _ _ ?_
 unfold dS
 have hl:=r.len
 refine lR r (fun h0=>?_) ?_
 ·refine ah (fun _=>?_) (fun hb=>by cases hb)
  subst h0
  have:cs=[]:=by simpa using hl
  subst this
  exact cY (k _ (Fr.refl _ _))
 ·refine ah (fun hb=>by cases hb) (fun _=>?_)
  refine aB rfl rfl ?_
  refine ox (St.start h) r hb (fun h0=>?_) fun i h1 hn s=>?_
  ·subst h0
   have:cs=[]:=by simpa using hl
   subst this
   exact cY (k _ (Fr.refl _ _))
  ·exact mN (s.get (.head _)) hl (k _ (s.kill .head).fr)
theorem N9 (p:AV) (a:Str) (b:Str) (k:∀ h',Fr [] h h'→Q (.agg [T a,T b]) h'):C fX [p,T a,T b] h Q:=by
 refine BB _ _ _ _ _ ?_
 unfold wG
 refine aM (St.start h) fun i h1 s1=>?_
 refine aD rfl ?_
 refine ax s1 .head rfl rfl rfl (nle rfl) fun h2 s2=>?_
 refine aF s2 (.head _) (nle rfl) ?_
 exact k h2 s2.fr
theorem Mk (hks:GW) {l:KL Str}{j:Nat}{b:Bool}{o:AObj}(p:AV) (s:St h0 M h L) (e:(j,b,o)∈L) (m:MapS T l o) (hl:l.length≤1000000) (hk:∀ x∈l,x.1.length≤1000000) (k:∀ h',St h0 M h' L→Q (.snap l.length (l.flatMap (fun x:Str×Str=>[T x.1,T x.2]))) h'):C eK [.map j,.fn (.func fX) [p] []] h Q:=by
 refine pr _ _ _ _ ?_
 unfold kH
 obtain⟨tm,hK⟩:=hks.k1
 obtain⟨ks,hS⟩:=hks.s1
 refine OM hK hS s e m hl hk fun v EK h1 av s1=>?_
 refine (av.row s1).len ?_
 rw[List.length_map]
 refine aO (fun n vs h'=>∃ (q:Nat) (a:AV) (E:Own),vs=[a,I (q:Nat)]∧n+q=l.length∧AccE 2 a q ((l.take q).flatMap (fun x:Str×Str=>[T x.1,T x.2])) E∧St h0 M h' (E++(EK++L))) l.length ⟨0,.full 0 [],[],rfl,by omega,by rw[List.take_zero];exact .none 2,s1⟩ ?_
 rintro n vs h2 ⟨q,a,E,rfl,hn,ha,s2⟩
 unfold iV
 refine aJ ?_
 refine ah (fun hq=>?_) (fun hq=>?_)<;>simp only[za,zb,zc,zd,ze,zf,zg,zh,zi,u8i,zj,zk,zl]at hq
 ·have hq:q<l.length:=hq
  refine (av.row s2.swap).idx (fun _=>rfl) (j:=q) (by simpa using hq) fun pp t=>?_
  refine aK t ?_
  have hx:(l.map (·.1))[q]'(by simpa using hq)=l[q].1:=List.getElem_map _
  rw[hx]
  have m':=m
  obtain⟨es,n',rfl,mr⟩:=m'
  refine LB (s2.get (List.mem_append_right _ (List.mem_append_right _ e))) m ?_
  have hlk:dm l[q].1 l=some l[q].2:=(uf mr.so.nd).2 (List.getElem_mem _)
  rw[hlk]
  show ACall Pg fX [p,T l[q].1,T l[q].2] h2 _
  refine N9 p _ _ fun h3 f3=>?_
  refine aB rfl rfl ?_
  have s3:=s2.after f3
  refine ha.app (m:=1) (xs:=[T l[q].1,T l[q].2]) s3 (Rd.full rfl) rfl (by omega) fun a' E' h4 ha' s4=>?_
  refine aI (by omega) ?_
  refine⟨n-1,by omega,q+1,a',E',rfl,by omega,?_,s4⟩
  rw[List.take_succ_eq_append_getElem hq,List.flatMap_append];exact ha'
 ·have hql:l.take q=l:=List.take_of_length_le (by omega)
  rw[hql]at ha
  have:q=l.length:=by omega
  subst this
  refine B3 (by omega) (ha.rd s2) fun h3 f3=>?_
  exact k h3 ((av.rest (ha.rest s2)).after f3)
theorem yO (hks:GW) {i:Nat}{w:WkM}(hl:w.f.length≤1000000) (hk:∀ x∈w.f,x.1.length≤1000000) (s:WkS h0 M h i w R) (k:∀ h',WkS h0 M h' i w R→Q (.snap w.f.length (w.f.flatMap (fun x:Str×Str=>[T x.1,T x.2]))) h'):C dZ [.ptr i 0] h Q:=by
 obtain⟨jf,js,xf,xs,mf,ms,s⟩:=s
 refine AF _ _ _ ?_
 unfold wb
 (repeat (first|refine au ?_|refine aj ?_|refine ag ‹_› (.head _) rfl ?_))
 refine Mk hks _ s (.tail _ (.head _)) mf hl hk fun h' s'=>?_
 exact k h' ⟨jf,js,xf,xs,mf,ms,s'⟩
theorem Rs (p:AV) (a:Str) (b:Int) (k:∀ h',Fr [] h h'→Q (.agg [T a,I b]) h'):C hQ [p,T a,I b] h Q:=by
 refine Eg _ _ _ _ _ ?_
 unfold z8
 refine aM (St.start h) fun i h1 s1=>?_
 refine aD rfl ?_
 refine ax s1 .head rfl rfl rfl (nle rfl) fun h2 s2=>?_
 refine aF s2 (.head _) (nle rfl) ?_
 exact k h2 s2.fr
theorem Pm (hks:GW) {l:KL Int}{j:Nat}{b:Bool}{o:AObj}(p:AV) (s:St h0 M h L) (e:(j,b,o)∈L) (m:MapS I l o) (hl:l.length≤1000000) (hk:∀ x∈l,x.1.length≤1000000) (k:∀ h',St h0 M h' L→Q (.snap l.length (l.flatMap (fun x:Str×Int=>[T x.1,I x.2]))) h'):C gw [.map j,.fn (.func hQ) [p] []] h Q:=by
 refine sQ _ _ _ _ ?_
 unfold ny
 obtain⟨tm,hK⟩:=hks.k2
 obtain⟨ks,hS⟩:=hks.s2
 refine OM hK hS s e m hl hk fun v EK h1 av s1=>?_
 refine (av.row s1).len ?_
 rw[List.length_map]
 refine aO (fun n vs h'=>∃ (q:Nat) (a:AV) (E:Own),vs=[a,I (q:Nat)]∧n+q=l.length∧AccE 2 a q ((l.take q).flatMap (fun x:Str×Int=>[T x.1,I x.2])) E∧St h0 M h' (E++(EK++L))) l.length ⟨0,.full 0 [],[],rfl,by omega,by rw[List.take_zero];exact .none 2,s1⟩ ?_
 rintro n vs h2 ⟨q,a,E,rfl,hn,ha,s2⟩
 unfold lk
 refine aJ ?_
 refine ah (fun hq=>?_) (fun hq=>?_)<;>simp only[za,zb,zc,zd,ze,zf,zg,zh,zi,u8i,zj,zk,zl]at hq
 ·have hq:q<l.length:=hq
  refine (av.row s2.swap).idx (fun _=>rfl) (j:=q) (by simpa using hq) fun pp t=>?_
  refine aK t ?_
  have hx:(l.map (·.1))[q]'(by simpa using hq)=l[q].1:=List.getElem_map _
  rw[hx]
  have m':=m
  obtain⟨es,n',rfl,mr⟩:=m'
  refine LB (s2.get (List.mem_append_right _ (List.mem_append_right _ e))) m ?_
  have hlk:dm l[q].1 l=some l[q].2:=(uf mr.so.nd).2 (List.getElem_mem _)
  rw[hlk]
  show ACall Pg hQ [p,T l[q].1,I l[q].2] h2 _
  refine Rs p _ _ fun h3 f3=>?_
  refine aB rfl rfl ?_
  have s3:=s2.after f3
  refine ha.app (m:=1) (xs:=[T l[q].1,I l[q].2]) s3 (Rd.full rfl) rfl (by omega) fun a' E' h4 ha' s4=>?_
  refine aI (by omega) ?_
  refine⟨n-1,by omega,q+1,a',E',rfl,by omega,?_,s4⟩
  rw[List.take_succ_eq_append_getElem hq,List.flatMap_append];exact ha'
 ·have hql:l.take q=l:=List.take_of_length_le (by omega)
  rw[hql]at ha
  have:q=l.length:=by omega
  subst this
  refine C5 (by omega) (ha.rd s2) fun h3 f3=>?_
  exact k h3 ((av.rest (ha.rest s2)).after f3)
theorem Cb (hks:GW) {i:Nat}{w:WkM}(hl:w.s.length≤1000000) (hk:∀ x∈w.s,x.1.length≤1000000) (s:WkS h0 M h i w R) (k:∀ h',WkS h0 M h' i w R→Q (.snap w.s.length (w.s.flatMap (fun x:Str×Int=>[T x.1,I x.2]))) h'):C eu [.ptr i 0] h Q:=by
 obtain⟨jf,js,xf,xs,mf,ms,s⟩:=s
 refine BR _ _ _ ?_
 unfold wD
 (repeat (first|refine au ?_|refine aj ?_|refine ag ‹_› (.head _) rfl ?_))
 refine Pm hks _ s (.tail _ (.tail _ (.head _))) ms hl hk fun h' s'=>?_
 exact k h' ⟨jf,js,xf,xs,mf,ms,s'⟩
end
end
section
theorem Gk {α:Type}{k:List UInt8}{v:α}:∀ {l:KL α},SoK l→(rp k v l).length=if dm k l=none then l.length+1 else l.length
 | [],_=>by simp[rp,dm]
 | (a,w)::r,s=>by
   obtain⟨s1,s2⟩:=List.pairwise_cons.1 s
   unfold rp dm
   by_cases h:k=a
   ·simp[h]
   ·rw[if_neg h,if_neg h]
    split
    ·rename_i h1
     have:dm k r=none:=lookK_none.2 fun x hx e=>TZ (List.lt_trans h1 (s1 x hx)) e.symm
     simp[this]
    ·rw[List.length_cons,Gk s2];split<;>simp
theorem PT {α:Type}{k:List UInt8}{l:KL α}:(Ff k l).length≤l.length:=List.length_filter_le _ _
theorem U4 {r:Rq}(h:iz r=true) (h7:r.kind≠7):eL r.name=true∧r.text.length≤600∧-1099511627776≤r.value∧r.value≤1099511627776:=by
 unfold iz at h
 by_cases h1:r.kind<1∨7<r.kind
 ·rw[if_pos h1]at h;cases h
 ·rw[if_neg h1,if_neg h7]at h
  simp only[Bool.and_eq_true,decide_eq_true_eq]at h
  exact⟨h.1,h.2.1,h.2.2.2.1.1,h.2.2.2.1.2⟩
structure WkSo (w:WkM):Prop where
 f:SoK w.f
 s:SoK w.s
theorem WkSo.nil:WkSo ⟨[],[]⟩:=⟨List.Pairwise.nil,List.Pairwise.nil⟩
theorem WkOk.nil:WkOk ⟨[],[]⟩:=⟨by simp,by simp,by simp,by simp,by simp,by simp⟩
theorem WkSo.doW {w:WkM}(o:WkSo w) (r:Rq):WkSo (doW w r).1:=by
 unfold AL.doW HU NF MW BF CM Mj uU
 repeat' split
 all_goals first|exact o|exact⟨Cp o.f,o.s⟩|exact⟨M6 o.f,o.s⟩|exact⟨o.f,Cp o.s⟩|exact⟨o.f,M6 o.s⟩
theorem WkOk.doW {w:WkM}(o:WkOk w) (so:WkSo w) {r:Rq}(h7:r.kind≠7):WkOk (doW w r).1:=by
 unfold AL.doW
 split
 ·exact o
 rename_i hr
 obtain⟨r1,r2,r3,r4⟩:=U4 (by simpa using hr) h7
 have hdf:∀ k,WkOk ⟨Ff k w.f,w.s⟩:=fun k=>⟨fun x hx=>o.txt x ((xp x).1 hx).1,Nat.le_trans PT o.fn,o.sn,fun x hx=>o.fw x ((xp x).1 hx).1,o.sw,o.sv⟩
 have hds:∀ k,WkOk ⟨w.f,Ff k w.s⟩:=fun k=>⟨o.txt,o.fn,Nat.le_trans PT o.sn,o.fw,fun x hx=>o.sw x ((xp x).1 hx).1,fun x hx=>o.sv x ((xp x).1 hx).1⟩
 have hif:∀ t:Str,t.length≤600→¬ (dm r.name w.f=none∧8≤w.f.length)→WkOk ⟨rp r.name t w.f,w.s⟩:=fun t ht hc=>⟨fun x hx=>by
   rcases (oQ so.f x).1 hx with rfl|⟨h,_⟩
   ·exact ht
   ·exact o.txt x h,by have:=o.fn;show (rp r.name t w.f).length≤8;rw[Gk so.f];split;exact (by rename_i hh;have:¬ 8≤w.f.length:=fun e=>hc ⟨hh,e⟩;omega);exact o.fn,o.sn,fun x hx=>by
   rcases (oQ so.f x).1 hx with rfl|⟨h,_⟩
   ·exact r1
   ·exact o.fw x h,o.sw,o.sv⟩
 have his:¬ (dm r.name w.s=none∧8≤w.s.length)→WkOk ⟨w.f,rp r.name r.value w.s⟩:=fun hc=>⟨o.txt,o.fn,by have:=o.sn;show (rp r.name r.value w.s).length≤8;rw[Gk so.s];split;exact (by rename_i hh;have:¬ 8≤w.s.length:=fun e=>hc ⟨hh,e⟩;omega);exact o.sn,o.fw,fun x hx=>by
   rcases (oQ so.s x).1 hx with rfl|⟨h,_⟩
   ·exact r1
   ·exact o.sw x h,fun x hx=>by
   rcases (oQ so.s x).1 hx with rfl|⟨h,_⟩
   ·exact⟨r3,r4⟩
   ·exact o.sv x h⟩
 unfold HU
 split
 ·unfold NF;split
  ·exact o
  ·exact hif _ r2 ‹_›
 split
 ·unfold MW;split
  ·exact o
  ·exact hdf _
 split
 ·unfold BF;split
  ·exact o
  ·split
   ·exact o
   ·rename_i hl hc
    exact hif _ (by simp;omega) fun h=>by rw[h.1]at hl;cases hl
 split
 ·unfold CM;split<;>exact o
 split
 ·unfold Mj;split
  ·exact o
  ·exact his ‹_›
 ·unfold uU;split
  ·exact o
  ·exact hds _
section
variable [Tabs]
variable {h0 h:ae}{M:List Nat}{L R R':Own}{K:AV→Prop}{KH:QT}{KS':ae→Prop}{Q:QT}{i:Nat}{w:WkM}
theorem WkS.so (s:WkS h0 M h i w R):WkSo w:=by
 obtain⟨jf,js,xf,xs,⟨_,_,_,mf⟩,⟨_,_,_,ms⟩,s⟩:=s
 exact⟨mf.so,ms.so⟩
theorem WkS.rest (s:WkS h0 M h i w R):St h0 M h R:=by
 obtain⟨jf,js,xf,xs,mf,ms,s⟩:=s
 exact s.drop1.drop1.drop1
theorem acV {a b c d:Nat×Bool×AObj}{R:Own}:(d::a::b::c::R).Perm (a::b::c::d::R):=
 (List.Perm.swap _ _ _).trans (((List.Perm.swap _ _ _).trans ((List.Perm.swap _ _ _).cons _)).cons _)
theorem XB {cs:List AV}(s:WkS h0 M h i w R) (k:∀ p h',WkS h0 M h' i w ((p,true,.cells cs)::R)→KH (.ptr p 0) h'):cw cs h KH:=by
 obtain⟨jf,js,xf,xs,mf,ms,s⟩:=s
 exact aM s fun p h' s'=>k p h' ⟨jf,js,xf,xs,mf,ms,s'.perm acV⟩
theorem yc {p o n:Nat}{cs:List AV}{u:AV}(s:WkS h0 M h i w R) (e:Sub R (p,true,.cells cs) R' (p,true,.cells (splice cs o u.cells))) (e1:u.isTup=false) (e2:u.cells.length=n) (e3:u.cells.all AV.one=true) (e4:o+n≤cs.length)
  (k:∀ h',WkS h0 M h' i w R'→KS' h'):ak n (.ptr p o) u h KS':=by
 obtain⟨jf,js,xf,xs,mf,ms,s⟩:=s
 exact ax s (.tail (.tail (.tail e))) e1 e2 e3 e4 fun h' s'=>k h' ⟨jf,js,xf,xs,mf,ms,s'⟩
theorem GK {p o:Nat}{b:Bool}{cs:List AV}{a:AV}(s:WkS h0 M h i w R) (e:(p,b,.cells cs)∈R) (e2:cs[o]?=some a) (k:K a):af (.ptr p o) h K:=ag s.rest e e2 k
theorem CE {p o n:Nat}{b:Bool}{cs:List AV}(s:WkS h0 M h i w R) (e:(p,b,.cells cs)∈R) (e2:o+n≤cs.length) (k:K (.agg ((cs.drop o).take n))):ap n (.ptr p o) h K:=aF s.rest e e2 k
theorem WkS.after (s:WkS h0 M h i w R) {h':ae}(f:Fr [] h h'):WkS h0 M h' i w R:=by
 obtain⟨jf,js,xf,xs,mf,ms,s⟩:=s
 exact⟨jf,js,xf,xs,mf,ms,s.after f⟩
theorem YF {p o:Nat}(k:K (B false)):Eo .eql (.ptr p o) (.lit (.pointer none)) K:=⟨k⟩
theorem Ww {a n:Int}(ha:-9223372036854775808≤a∧a≤9223372036854775807) (hn:0<n):(a.tmod n=a%n∧0≤a.tmod n)∨(a.tmod n=a%n-n∧a.tmod n<0):=by
 have h0:=Int.emod_nonneg a (show n≠0 by omega)
 have h4:=Int.emod_lt_of_pos a hn
 rw[Int.tmod_eq_emod]
 have hab:(n.natAbs:Int)=n:=by omega
 split
 ·exact .inl ⟨by omega,by omega⟩
 ·right;rw[hab];exact⟨rfl,by omega⟩
theorem mq {a n:Int}(hn:0<n) (hn2:n≤1000000000000000000) (ha:-9223372036854775808≤a∧a≤9223372036854775807) (k:Q (I (a%n)) h):C eo [I a,I n] h Q:=by
 refine w4 _ _ _ _ ?_
 unfold xV
 refine mX (by omega) ?_
 have h0:=Int.emod_nonneg a (show n≠0 by omega)
 have h4:=Int.emod_lt_of_pos a hn
 have h3:=Ww ha hn
 refine aJ ?_
 refine ah (fun hb=>?_) (fun hb=>?_)<;>simp only[za,zb,zc,zd,ze,zf,zg,zh,zi,u8i,zj,zk,zl]at hb
 ·refine aI (by omega) ?_
  rw[show a.tmod n+n=a%n by omega]
  exact k
 ·rw[← show a.tmod n=a%n by omega]at k
  exact k
def names9:List Str:=[[109,97,105,110],[97],[98,49],[120],[108,105,98],[101,110,100],[99],[100],[101],[102],[98,97,115,101],[107]]
def Lk (n:Int):Str:=names9[(n%12).toNat]?.getD []
theorem Lx {n:Int}:∃ h:(n%12).toNat<names9.length,Lk n=names9[(n%12).toNat]:=by
 have h1:=Int.emod_nonneg n (show (12:Int)≠0 by decide)
 have h2:=Int.emod_lt_of_pos n (show (0:Int)<12 by decide)
 have h:(n%12).toNat<names9.length:=by show _<12;omega
 exact⟨h,by unfold Lk;rw[List.getElem?_eq_getElem h];rfl⟩
theorem Rt (n:Int):eL (Lk n)=true∧(Lk n).length≤4:=by
 obtain⟨h,e⟩:=Lx (n:=n)
 rw[e]
 have:∀ x∈names9,eL x=true∧x.length≤4:=by decide
 exact this _ (List.getElem_mem _)
theorem Mu {n:Int}(hn:-9223372036854775808≤n∧n≤9223372036854775807) (k:Q (T (Lk n)) h):C uM [I n] h Q:=by
 refine L1 _ _ _ ?_
 unfold Lj
 refine aB rfl rfl ?_
 refine mq (by decide) (by decide) hn ?_
 obtain⟨hh,e⟩:=Lx (n:=n)
 rw[e]at k
 have h1:=Int.emod_nonneg n (show (12:Int)≠0 by decide)
 have h3:n%12=(((n%12).toNat:Nat):Int):=by omega
 rw[h3]
 refine (Row.full (h:=h) (enc:=nmE) (sz:=1) (fun _=>rfl) names9).idx (fun _=>rfl) hh fun p t=>?_
 exact aK t k
def Zy:Prop:=∀ (h:ae) (Q:QT),Q (B true) h→C tp [] h Q
end
end
section
theorem WI [Tabs]:Mw Pg tb5 spK 100 tp [] .leaf 0 (fun r t _=>LR (B true) r t)=true:=by kernel_rfl
theorem acs [Tabs5]:Zy:=fun h Q q=>lP Tabs5.tb acU (d:=100) (B true) rfl rfl WI q
end
section
theorem ady [Tabs]:GW:=⟨⟨_,OG⟩,⟨_,Io⟩,⟨_,O5⟩,⟨_,HH⟩⟩
