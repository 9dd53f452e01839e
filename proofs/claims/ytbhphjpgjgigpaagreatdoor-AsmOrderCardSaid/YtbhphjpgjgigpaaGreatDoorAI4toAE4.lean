import Derived.Test.YtbhphjpgjgigpaaGreatDoorAI3
import Derived.Laws.RangeString
import Derived.Laws.RangeAny
set_option linter.all false
set_option autoImplicit true
set_option relaxedAutoImplicit true
set_option maxRecDepth 100000
namespace Go.Proofs.YtbhphjpgjgigpaaGreatDoor.AL
noncomputable section
section
variable [Tabs]
def vX:List Str→List Int→Int→Option Int
 | k::ks,v::vs,b=>match od k v with
   | some n=>vX ks vs (orI .u32 b n)
   | none=>none
 | _,_,b=>some b
def mu (op:Nat) (vs:List Int):Option Int:=
 if (cK (bj op)).length=vs.length then vX (cK (bj op)) vs (Kn op) else none
theorem LY {ks:List Str}{vs:List Int}{i:Nat}(h1:i<ks.length) (h2:i<vs.length) (b:Int):vX (ks.drop i) (vs.drop i) b=match od ks[i] vs[i] with|some n=>vX (ks.drop (i+1)) (vs.drop (i+1)) (orI .u32 b n)|none=>none:=by
 rw[List.drop_eq_getElem_cons h1,List.drop_eq_getElem_cons h2,vX]
omit [Tabs] in
theorem Cu:∀ r∈tbl,(cK r.kinds).length≤3:=by decide
theorem SA (hF:cD) (hL:dL) {op:Nat}(ho:op<tbl.length) (vs:List Int) (hv:∀ v∈vs,dQ v) {fv:AV}{h:ae}(r:Row (fun v:Int=>[I v]) 1 h fv vs) {Q:QT}(q:PutK (mu op vs) h Q):C rm [.agg [I (op:Nat),fv]] h Q:=by
 refine N2 _ _ _ ?_
 unfold Mj
 have hfv:fv.isTup=false∧fv.cells=[fv]:=by
  have:=r.1;unfold yR at this;split at this<;>first|exact⟨rfl,rfl⟩|cases this
 refine bW (St.start h) rfl fun i h1 s1=>?_
 have e1:(AV.agg [I (op:Nat),fv]).cells=[I (op:Nat),fv]:=rfl
 rw[e1]at s1
 (repeat (first|refine aj ?_|refine af ‹_› (.head _) rfl ?_))
 refine Ru ho fun h2 f2=>?_
 have s2:=s1.call f2
 (repeat refine aV ?_)
 have hn:Gq op≠[]:=by rw[CO ho];exact Sq _ (by simp)
 refine ah (fun hb=>absurd (by simpa using hb) hn) (fun _=>?_)
 (repeat (first|refine aj ?_|refine af ‹_› (.head _) rfl ?_))
 refine aaK ho _ ?_
 show ACall Pg nA _ _ _
 refine YL _ fun h3 f3=>?_
 have s3:=s2.call f3
 refine⟨af s3 (.head _) rfl rfl,?_⟩
 refine aax ho _ ?_
 show ACall Pg kK _ _ _
 refine Ym hF (by simp) fun h4 f4=>?_
 have s4:=s3.call f4
 rw[← iR ho,← ST ho]
 have hk:∀ k∈cK (bj op),k∈YS:=fun k hk=>Vd tbl[op] (by simp) k (by rw[← iR ho];exact hk)
 (repeat (first|refine aj ?_|refine cE ?_|refine af ‹_› (.head _) rfl ?_))
 refine (r.fr s4.fr).len ?_
 refine cg ?_
 refine ah (fun hl=>?_) (fun hl=>?_)<;>simp only[za,zb,zc,zd,ze,zf,zg,zh,zi,u8i,zj,zk,zl]at hl
 ·exact q.none s4.fr 0 (by unfold mu;rw[if_neg (by omega)])
 have hl:(cK (bj op)).length=vs.length:=by omega
 unfold mu at q
 rw[if_pos hl]at q
 have h3:(cK (bj op)).length≤3:=by rw[iR ho];exact Cu _ (by simp)
 (repeat refine cE ?_)
 have RK:∀ h,Row (fun x=>[T x]) 1 h (.snap (cK (bj op)).length ((cK (bj op)).flatMap fun x=>[T x])) (cK (bj op)):=fun h=>Row.snap (enc:=fun x=>[T x]) (fun _=>rfl) _
 refine aP (fun n vs' h'=>St h [] h' [(i,true,.cells [I (op:Nat),fv])]∧∃ (j:Nat) (x y:AV) (b:Int),vs'=[x,y,U32 b,I (j:Nat)]∧n+j=vs.length∧vX (cK (bj op)) vs (Kn op)=vX ((cK (bj op)).drop j) (vs.drop j) b) vs.length ⟨s4,0,_,_,_,rfl,by omega,rfl⟩ ?_
 rintro n vs' h5 ⟨s5,j,x,y,b,rfl,hn,hc⟩
 unfold Db
 (repeat refine aJ ?_)
 refine ah (fun hb=>?_) (fun hb=>?_)<;>simp only[za,zb,zc,zd,ze,zf,zg,zh,zi,u8i,zj,zk,zl]at hb
 ·have hj:j<(cK (bj op)).length:=hb
  refine (RK h5).idx (fun _=>rfl) hj fun p t=>?_
  refine aH t ?_
  (repeat (first|refine aj ?_|refine af ‹_› (.head _) rfl ?_))
  refine (r.fr s5.fr).idx (fun _=>rfl) (show j<vs.length by omega) fun p2 t2=>?_
  refine aH t2 ?_
  rw[LY hj (by omega)]at hc
  refine aaM hL (hk _ (by simp)) _ (hv _ (by simp)) fun b2 h6 f6 hb2=>?_
  have s6:=s5.call f6
  (repeat (first|refine aE rfl ?_|refine bQ ?_))
  cases hp:od (cK (bj op))[j] vs[j] with
  | none=>
    refine ah (fun _=>?_) (fun h=>by cases h)
    rw[hp]at hc
    exact q.none s6.fr 0 hc
  | some m=>
    refine ah (fun h=>by cases h) (fun _=>?_)
    rw[hp]at hc
    have:=hb2 m hp
    subst this
    refine tK ?_
    refine aI (by omega) ?_
    exact⟨n-1,by omega,s6,j+1,_,_,_,rfl,by omega,hc⟩
 ·have hj:vs.length≤j:=by omega
  rw[List.drop_of_length_le (by omega),List.drop_of_length_le (by omega)]at hc
  exact q.some s5.fr (by rw[hc];simp[vX])
theorem Mm (hF:cD) (hL:dL) {op:Nat}(ho:op<tbl.length) (vs:List Int) (hv:∀ v∈vs,dQ v) {fv:AV}{h:ae}(r:Row (fun v:Int=>[I v]) 1 h fv vs) {Q:QT}(k:∀ h',Fr [] h h'→Q (B (mu op vs).isSome) h'):C pi [.agg [I (op:Nat),fv]] h Q:=by
 refine Lz _ _ _ ?_
 unfold Ik
 refine bW (St.start h) rfl fun i h1 s1=>?_
 (repeat refine aL ‹_› (.head _) (nle rfl) ?_)
 refine SA hF hL ho vs hv (r.fr s1.fr) fun b h2 f2 _=>?_
 (repeat refine aE rfl ?_)
 exact k _ (s1.call f2).fr
def Xw (b:Int):List Int:=[IntKind.u8.wrap (Lp .u32 b 24),IntKind.u8.wrap (Lp .u32 b 16),IntKind.u8.wrap (Lp .u32 b 8),IntKind.u8.wrap b]
def HI (op:Nat) (vs:List Int):Option (List Int):=(mu op vs).map fun b=>(Xw b).drop (4-l7 op)
abbrev BI (n:Int):AV:=.lit (.int .u8 n)
theorem S3 (hF:cD) (hL:dL) {op:Nat}(ho:op<tbl.length) (vs:List Int) (hv:∀ v∈vs,dQ v) {bs:List Int}(he:HI op vs=some bs) {fv:AV}{h:ae}(r:Row (fun v:Int=>[I v]) 1 h fv vs) {Q:QT}(k:∀ h',Fr [] h h'→Q (.tup [.snap bs.length (bs.flatMap fun x=>[BI x]),B true]) h'):C sq [.agg [I (op:Nat),fv]] h Q:=by
 refine HP _ _ _ ?_
 unfold Fm
 refine bW (St.start h) rfl fun i h1 s1=>?_
 (repeat refine aL ‹_› (.head _) (nle rfl) ?_)
 unfold HI at he
 cases hc:mu op vs with
 | none=>rw[hc]at he;cases he
 | some b0=>
 rw[hc]at he
 refine SA hF hL ho vs hv (r.fr s1.fr) fun b h2 f2 hb=>?_
 have:=hb b0 hc
 subst this
 have s2:=s1.call f2
 rw[hc]
 (repeat (first|refine aE rfl ?_|refine bQ ?_))
 refine ah (fun h=>by cases h) (fun _=>?_)
 refine wO (by decide) ?_
 refine d7 ?_
 refine wO (by decide) ?_
 refine d7 ?_
 refine wO (by decide) ?_
 refine d7 ?_
 refine d7 ?_
 (repeat (first|refine aj ?_|refine af ‹_› (.head _) rfl ?_|refine aB rfl rfl ?_))
 refine Rf ho fun h3 f3=>?_
 have s3:=s2.call f3
 have hsz:l7 op=2∨l7 op=4:=by unfold l7;split<;>simp
 simp only[Option.map_some,Option.some.injEq]at he
 rcases hsz with e|e<;>rw[e]at he ⊢<;>subst he
 ·refine cw (by decide) ?_
  refine (⟨(⟨⟨by decide,by decide,by decide⟩,?_⟩:ik 1 (.full 4 _) (some (I 2)) none _)⟩:nk 1 (.full 4 _) (some (I 2)) none _)
  refine rv (n:=2) (cs:=[BI _,BI _]) (by decide) (Rd.snap rfl) fun h4 f4=>?_
  exact k _ (s3.call f4).fr
 ·refine cw (by decide) ?_
  refine (⟨(⟨⟨by decide,by decide,by decide⟩,?_⟩:ik 1 (.full 4 _) (some (I 0)) none _)⟩:nk 1 (.full 4 _) (some (I 0)) none _)
  refine rv (n:=4) (cs:=[BI _,BI _,BI _,BI _]) (by decide) (Rd.snap rfl) fun h4 f4=>?_
  exact k _ (s3.call f4).fr
end
section
variable [Tabs]
abbrev R32 (n:Nat):AV:=.lit (.int .i32 (n:Nat))
def aa8 (fv:AV) (p:Nat→Bool):Prop:=∀ (c:Nat) (h:ae) (Q:QT),Q (B (p c)) h→CV fv [R32 c] h Q
theorem Sp {h0 h:ae}{M:List Nat}{L:Own}{l:Str}{i k:Nat}(s:St h0 M h ((i,true,.siter ⟨⟨l⟩⟩ k)::L)) {K:QT}(k0:l.length≤k→K (.tup [B false]) h)
  (k1:∀ (hk:k<l.length) (r w:Nat) (h':ae),St h0 M h' ((i,true,.siter ⟨⟨l⟩⟩ (k+w))::L)→1≤w→(l[k].toNat<128→r=l[k].toNat∧w=1)→(128≤l[k].toNat→128≤r)→K (.tup [B true,I (k:Nat),R32 r]) h'):zP (.ptr i 0) h K:=⟨by
 simp only[uZ,s.get (.head _)]
 have hsz:(⟨⟨l⟩⟩:ByteArray).size=l.length:=rfl
 split
 ·rename_i hk
  have hk':k<l.length:=hk
  have hget:((⟨⟨l⟩⟩:ByteArray)[k]'hk)=l[k]:=rfl
  rcases Nat.lt_or_ge l[k].toNat 128 with ha|ha
  ·have:=decode_ascii ⟨⟨l⟩⟩ k hk (by rw[hget];exact ha)
   rw[this,hget]
   exact k1 hk' _ 1 _ (s.turn .head) (Nat.le_refl _) (fun _=>⟨rfl,rfl⟩) (fun h=>by omega)
  ·obtain⟨g1,g2⟩:=decode_high ⟨⟨l⟩⟩ k hk (by rw[hget];exact ha)
   exact k1 hk' _ _ _ (s.turn .head) g2 (fun h=>by omega) (fun _=>g1)
 ·exact k0 (by omega)⟩
theorem takeWhile_self {p:UInt8→Bool}:∀ {l:Str},l.takeWhile p=l↔∀ x∈l,p x=true
 | []=>by simp
 | a::l=>by
   cases h:p a with
   | true=>rw[List.takeWhile_cons_of_pos h];simp[h,takeWhile_self (l:=l)]
   | false=>rw[List.takeWhile_cons_of_neg (by simp[h])];simp[h]
theorem yz {p:UInt8→Bool}{l:Str}(h:∀ j (hj:j<l.length),p l[j]=true):l.takeWhile p=l:=by
 rw[takeWhile_self]
 intro x hx
 obtain⟨j,hj,rfl⟩:=List.getElem_of_mem hx
 exact h j hj
theorem sG {p:UInt8→Bool}{l:Str}{k:Nat}(hk:k<l.length) (h:∀ j (hj:j<k),p (l[j]'(by omega))=true) (hn:p l[k]=false):l.takeWhile p=l.take k:=by
 conv=>lhs;rw[← List.take_append_drop k l]
 rw[List.takeWhile_append_of_pos,List.drop_eq_getElem_cons hk,List.takeWhile_cons_of_neg (by simp[hn]),List.append_nil]
 intro x hx
 obtain⟨j,hj,rfl⟩:=List.getElem_of_mem hx
 rw[List.length_take]at hj
 rw[List.getElem_take]
 exact h j (by omega)
theorem Wh {fv:AV}{p:Nat→Bool}(ht:aa8 fv p) (hp:∀ c,128≤c→p c=false) (l:Str) {h:ae}{Q:QT}(k:∀ h',Fr [] h h'→Q (T (l.takeWhile fun c=>p c.toNat)) h'):C cN [T l,fv] h Q:=by
 refine PP _ _ _ _ ?_
 unfold Rj
 refine H9 (St.start h) fun i h1 s1=>?_
 refine aP (fun n vs h'=>∃ k:Nat,(∃ x,vs=[x])∧n+k=l.length∧St h [] h' [(i,true,.siter ⟨⟨l⟩⟩ k)]∧∀ j (hj:j<l.length),j<k→p l[j].toNat=true) l.length ⟨0,⟨_,rfl⟩,by omega,s1,fun j _ hj=>by omega⟩ ?_
 rintro n vs h' ⟨m,⟨x,rfl⟩,hn,s2,ha⟩
 unfold GZ
 refine Sp s2 (fun hk=>?_) fun hk r w h3 s3 hw h7 h8=>?_
 ·(repeat refine aE rfl ?_)
  have:=k h' s2.fr
  rw[yz fun j hj=>ha j hj (by omega)]at this
  exact this
 ·(repeat refine aE rfl ?_)
  refine ht r _ _ ?_
  (repeat refine bQ ?_)
  rcases Nat.lt_or_ge l[m].toNat 128 with h9|h9
  ·obtain⟨rfl,rfl⟩:=h7 h9
   cases hpm:p l[m].toNat with
   | true=>
     refine ah (fun h=>by cases h) (fun _=>?_)
     refine⟨n-1,by omega,m+1,⟨_,rfl⟩,by omega,s3,fun j hj hj2=>?_⟩
     rcases Nat.lt_or_eq_of_le (Nat.le_of_lt_succ hj2) with h1|h1
     ·exact ha j hj h1
     ·subst h1;exact hpm
   | false=>
     refine ah (fun _=>?_) (fun h=>by cases h)
     refine pk (by omega) (by omega) ?_
     have:=k h3 s3.fr
     rw[sG hk (fun j hj=>ha j (by omega) hj) hpm]at this
     simpa using this
  ·rw[hp r (h8 h9)]
   refine ah (fun _=>?_) (fun h=>by cases h)
   refine pk (by omega) (by omega) ?_
   have:=k h3 s3.fr
   rw[sG hk (fun j hj=>ha j (by omega) hj) (hp _ h9)]at this
   simpa using this
def wv (c:Nat):Bool:=(decide (97≤c)&&decide (c≤122))||decide (c=95)
def bu (c:Nat):Bool:=decide (48≤c)&&decide (c≤57)
def df (c:Nat):Bool:=wv c||bu c
def vp (c:Nat):Bool:=bu c||(decide (97≤c)&&decide (c≤102))
theorem vc {a b:Nat}:decide ((a:Int)≤(b:Int))=decide (a≤b):=by rw[Bool.eq_iff_iff,decide_eq_true_eq,decide_eq_true_eq];omega
theorem ZX {a b:Nat}:decide ((a:Int)=(b:Int))=decide (a=b):=by rw[Bool.eq_iff_iff,decide_eq_true_eq,decide_eq_true_eq];omega
theorem XA (c:Nat) {h:ae}{Q:QT}(k:Q (B (wv c)) h):C sf [R32 c] h Q:=by
 refine Ho _ _ _ ?_
 unfold F3
 have e1:decide ((97:Int)≤c)=decide (97≤c):=vc (a:=97)
 have e2:decide ((c:Int)≤122)=decide (c≤122):=vc (b:=122)
 have e3:decide ((c:Int)=95)=decide (c=95):=ZX (b:=95)
 unfold wv at k
 refine bL ?_
 rw[e1]
 cases h1:decide (97≤c) with
 | true=>
   refine ah (fun _=>?_) (fun h=>by cases h)
   rw[h1,Bool.true_and]at k
   refine fl ?_
   rw[e2]
   cases h2:decide (c≤122) with
   | true=>
     refine ah (fun _=>?_) (fun h=>by cases h)
     rw[h2,Bool.true_or]at k;exact k
   | false=>
     refine ah (fun h=>by cases h) (fun _=>?_)
     refine aA ?_
     rw[e3];rw[h2,Bool.false_or]at k;exact k
 | false=>
   refine ah (fun h=>by cases h) (fun _=>?_)
   refine aA ?_
   rw[e3];rw[h1,Bool.false_and,Bool.false_or]at k;exact k
theorem z8 (c:Nat) {h:ae}{Q:QT}(k:Q (B (bu c)) h):C cV [R32 c] h Q:=by
 refine Hr _ _ _ ?_
 unfold Fk
 have e1:decide ((48:Int)≤c)=decide (48≤c):=vc (a:=48)
 have e2:decide ((c:Int)≤57)=decide (c≤57):=vc (b:=57)
 unfold bu at k
 refine bL ?_
 rw[e1]
 cases h1:decide (48≤c) with
 | true=>
   refine ah (fun _=>?_) (fun h=>by cases h)
   refine fl ?_
   rw[h1,Bool.true_and]at k
   rw[e2];exact k
 | false=>
   refine ah (fun h=>by cases h) (fun _=>?_)
   rw[h1,Bool.false_and]at k;exact k
theorem Wc (c:Nat) {h:ae}{Q:QT}(k:Q (B (df c)) h):C dW [R32 c] h Q:=by
 refine Hz _ _ _ ?_
 unfold EG
 refine XA c ?_
 unfold df at k
 cases h1:wv c with
 | true=>
   refine ah (fun _=>?_) (fun h=>by cases h)
   rw[h1,Bool.true_or]at k;exact k
 | false=>
   refine ah (fun h=>by cases h) (fun _=>?_)
   rw[h1,Bool.false_or]at k
   exact z8 c k
theorem aan (c:Nat) {h:ae}{Q:QT}(k:Q (B (vp c)) h):C ll [R32 c] h Q:=by
 refine L7 _ _ _ ?_
 unfold OU
 refine z8 c ?_
 unfold vp at k
 have e1:decide ((97:Int)≤c)=decide (97≤c):=vc (a:=97)
 have e2:decide ((c:Int)≤102)=decide (c≤102):=vc (b:=102)
 cases h1:bu c with
 | true=>
   refine ah (fun _=>?_) (fun h=>by cases h)
   rw[h1,Bool.true_or]at k;exact k
 | false=>
   refine ah (fun h=>by cases h) (fun _=>?_)
   rw[h1,Bool.false_or]at k
   refine bL ?_
   rw[e1]
   cases h2:decide (97≤c) with
   | true=>
     refine qc (ah (fun _=>?_) (fun h=>by cases h)) ⟨_,rfl⟩
     rw[h2,Bool.true_and]at k
     refine fl ?_
     rw[e2];exact k
   | false=>
     refine qc (ah (fun h=>by cases h) (fun _=>?_)) ⟨_,rfl⟩
     rw[h2,Bool.false_and]at k;exact k
theorem tT (l:Str) {h:ae}{Q:QT}(k:∀ h',Fr [] h h'→Q (T (l.takeWhile fun c=>df c.toNat)) h'):C cN [T l,.fn (.func dW) [] []] h Q:=
 Wh (fv:=.fn (.func dW) [] []) (p:=df) (fun c h Q k=>Wc c k) (fun c hc=>by simp[df,wv,bu];omega) l k
theorem Fy (l:Str) {h:ae}{Q:QT}(k:∀ h',Fr [] h h'→Q (T (l.takeWhile fun c=>bu c.toNat)) h'):C cN [T l,.fn (.func cV) [] []] h Q:=
 Wh (fv:=.fn (.func cV) [] []) (p:=bu) (fun c h Q k=>z8 c k) (fun c hc=>by simp[bu];omega) l k
theorem NP (l:Str) {h:ae}{Q:QT}(k:∀ h',Fr [] h h'→Q (T (l.takeWhile fun c=>vp c.toNat)) h'):C cN [T l,.fn (.func ll) [] []] h Q:=
 Wh (fv:=.fn (.func ll) [] []) (p:=vp) (fun c h Q k=>aan c k) (fun c hc=>by simp[vp,bu];omega) l k
def kN (s:Str):Bool:=match s with
 | []=>false
 | c::t=>decide (s.length≤12)&&(!bu c.toNat&&(s.all (fun c=>df c.toNat)&&(decide (c≠114)||(t.isEmpty||!(t.all fun c=>bu c.toNat)))))
theorem tx (p:UInt8→Bool) (l:Str):decide (l.takeWhile p=l)=l.all p:=by
 rw[Bool.eq_iff_iff];simp[takeWhile_self]
theorem Y5 (s:Str) {h:ae}{Q:QT}(k:∀ h',Fr [] h h'→Q (B (kN s)) h'):C lJ [T s] h Q:=by
 refine J5 _ _ _ ?_
 unfold IB
 cases s with
 | nil=>(repeat refine aV ?_);exact k _ (Fr.refl _ _)
 | cons c t=>
 dsimp only[kN]at k
 (repeat (first|refine bf ?_|refine bx ?_|refine aV ?_))
 refine ah (fun hl=>?_) (fun hl=>?_)<;>simp only[za,zb,zc,zd,ze,zf,zg,zh,zi,u8i,zj,zk,zl]at hl
 ·have e:decide ((c::t).length≤12)=false:=by simp at hl ⊢;omega
  rw[e,Bool.false_and]at k
  exact k _ (Fr.refl _ _)
 have e:decide ((c::t).length≤12)=true:=by simp at hl ⊢;omega
 rw[e,Bool.true_and]at k
 refine gx (by omega) (by simp) ?_
 refine d7 ?_
 have e3:IntKind.i32.wrap ((c::t)[Int.toNat 0].toNat:Int)=(c.toNat:Nat):=by
  have:=c.toNat_lt
  simp[IntKind.wrap,IntKind.bits,IntKind.signed];omega
 rw[e3]
 refine z8 c.toNat ?_
 cases h2:bu c.toNat with
 | true=>
   refine ah (fun _=>?_) (fun h=>by cases h)
   rw[h2]at k
   exact k _ (Fr.refl _ _)
 | false=>
 refine ah (fun h=>by cases h) (fun _=>?_)
 rw[h2]at k
 simp only[Bool.not_false,Bool.true_and]at k
 refine tT _ fun h1 f1=>?_
 refine pU ?_
 rw[show decide ((c::t).takeWhile (fun c=>df c.toNat)≠c::t)=!((c::t).all fun c=>df c.toNat) by rw[← tx];simp]
 cases h3:(c::t).all fun c=>df c.toNat with
 | false=>
   refine ah (fun _=>?_) (fun h=>by cases h)
   rw[h3,Bool.false_and]at k
   exact k _ f1
 | true=>
 refine ah (fun h=>by cases h) (fun _=>?_)
 rw[h3,Bool.true_and]at k
 refine gx (by omega) (by simp) ?_
 refine cg ?_
 have e4:decide ((((c::t)[Int.toNat 0].toNat:Nat):Int)≠114)=decide (c≠114):=by
  rw[Bool.eq_iff_iff];simp[← UInt8.toNat_inj];omega
 rw[e4]
 cases h4:decide (c≠114) with
 | true=>
   refine ah (fun _=>?_) (fun h=>by cases h)
   rw[h4,Bool.true_or]at k
   exact k _ f1
 | false=>
 refine ah (fun h=>by cases h) (fun _=>?_)
 rw[h4,Bool.false_or]at k
 (repeat (first|refine bf ?_|refine aA ?_))
 cases t with
 | nil=>refine ah (fun _=>?_) (fun hb=>(by exfalso;first|(simp at hb;done)|(simp at hb;omega)|(revert hb;decide)|omega));exact k _ f1
 | cons d t=>
 refine ah (fun h=>by simp at h;omega) (fun _=>?_)
 refine gY (by omega) (by simp;omega) ?_
 refine gY (by omega) (by simp;omega) ?_
 refine Fy _ fun h5 f5=>?_
 refine pU ?_
 have:=k h5 (f1.trans f5 (by simp))
 rw[show ((c::d::t).drop (Int.toNat 1))=d::t from rfl]
 rw[show decide ((d::t).takeWhile (fun c=>bu c.toNat)≠d::t)=!((d::t).all fun c=>bu c.toNat) by rw[← tx];simp]
 exact this
end
section
variable [Tabs]
inductive Ex where
 | none
 | num (n:Nat)
 | name (s:Str)
 | here
 | neg (e:Ex)
 | bin (k:Nat) (a b:Ex)
 deriving DecidableEq
def bq:Ex→List AV
 | .none=>[I 0,I 0,T [],.full 0 []]
 | .num n=>[I 1,I (n:Nat),T [],.full 0 []]
 | .name s=>[I 2,I 0,T s,.full 0 []]
 | .here=>[I 3,I 0,T [],.full 0 []]
 | .neg e=>[I 4,I 0,T [],.full 1 (bq e)]
 | .bin k a b=>[I (k:Nat),I 0,T [],.full 2 (bq a++bq b)]
theorem au (e:Ex):(bq e).length=4:=by cases e<;>rfl
theorem aX (e:Ex):(bq e).all AV.one=true:=by cases e<;>rfl
abbrev pO (l:Str) (d:Nat) (b:Bool):AObj:=.cells [T l,I (d:Nat),B b]
abbrev blk (l:Str):Str:=ia 32 l
theorem m4 (c:UInt8):∀ l:Str,ia c (ia c l)=ia c l
 | []=>rfl
 | x::l=>by
   by_cases h:x=c
   ·rw[ia,if_pos h];exact m4 c l
   ·rw[ia,if_neg h,ia,if_neg h]
theorem mU (c:UInt8):∀ l:Str,(ia c l).length≤l.length
 | []=>by simp[ia]
 | x::l=>by
   have:=mU c l
   unfold ia;split<;>simp<;>omega
section
variable {i d:Nat}{l:Str}{h:ae}{Q:QT}
theorem uR {b:Bool}(e:h[i]?=some (pO l d b)) (k:∀ h',Fr [i] h h'→h'[i]?=some (pO l d true)→Q (.agg (bq .none)) h'):C bU [.ptr i 0] h Q:=by
 refine xR _ _ _ ?_
 unfold tv
 have s:=St.start1 e
 refine aQ s fun j h1 s1=>?_
 (repeat (first|refine aw ?_|refine aj ?_))
 refine ay s1 (.tail .head) rfl rfl rfl (nle rfl) fun h2 s2=>?_
 (repeat refine aD rfl ?_)
 refine ay s2 .head rfl rfl rfl (nle rfl) fun h3 s3=>?_
 (repeat refine aL ‹_› (.head _) (nle rfl) ?_)
 exact k _ s3.fr (s3.get (.tail _ (.head _)))
theorem xN {b:Bool}(e:h[i]?=some (pO l d b)) (k:∀ h',Fr [i] h h'→h'[i]?=some (pO (blk l) d b)→Q (.tup []) h'):C fa [.ptr i 0] h Q:=by
 refine vu _ _ _ ?_
 unfold qa
 have s:=St.start1 e
 (repeat (first|refine aw ?_|refine aj ?_|refine af ‹_› (.head _) rfl ?_))
 refine KL 32 (by decide) l ?_
 (repeat (first|refine aw ?_|refine aj ?_))
 refine ay s .head rfl rfl rfl (nle rfl) fun h2 s2=>?_
 exact k _ s2.fr (s2.get (.head _))
theorem Bb {m:Str}(e:h[i]?=some (pO l d false)) (k1:m.isPrefixOf (blk l)=true→∀ h',Fr [i] h h'→h'[i]?=some (pO ((blk l).drop m.length) d false)→Q (B true) h')
  (k0:m.isPrefixOf (blk l)=false→∀ h',Fr [i] h h'→h'[i]?=some (pO (blk l) d false)→Q (B false) h'):C cq [.ptr i 0,T m] h Q:=by
 refine oG _ _ _ _ ?_
 unfold mS
 refine xN e fun h1 f1 e1=>?_
 have s:=(St.start1 e).call1 f1 e1 .head
 (repeat (first|refine aw ?_|refine aj ?_|refine af ‹_› (.head _) rfl ?_))
 refine A0 ?_
 (repeat refine bQ ?_)
 cases hp:m.isPrefixOf (blk l) with
 | true=>
   refine ah (fun h=>by cases h) (fun _=>?_)
   have hle:=(List.isPrefixOf_iff_prefix.1 hp).length_le
   (repeat (first|refine aw ?_|refine aj ?_|refine bf ?_|refine af ‹_› (.head _) rfl ?_))
   refine gY (by omega) (by omega) ?_
   (repeat (first|refine aw ?_|refine aj ?_))
   refine ay s .head rfl rfl rfl (nle rfl) fun h2 s2=>?_
   exact k1 hp _ s2.fr (s2.get (.head _))
 | false=>
   refine ah (fun _=>?_) (fun h=>by cases h)
   exact k0 hp _ s.fr (s.get (.head _))
theorem GP {m:Str}(e:h[i]?=some (pO l d true)) (k0:∀ h',Fr [i] h h'→h'[i]?=some (pO (blk l) d true)→Q (B false) h'):C cq [.ptr i 0,T m] h Q:=by
 refine oG _ _ _ _ ?_
 unfold mS
 refine xN e fun h1 f1 e1=>?_
 have s:=(St.start1 e).call1 f1 e1 .head
 (repeat (first|refine aw ?_|refine aj ?_|refine af ‹_› (.head _) rfl ?_))
 exact k0 _ s.fr (s.get (.head _))
def signsL:List Str:=[[],[],[],[46],[45],[43],[45],[42],[38],[124],[60,60],[62,62]]
abbrev sg (k:Nat):Str:=(signsL[k]?).getD []
def levelsL:List (List Nat):=[[9],[8],[10,11],[5,6],[7]]
def O7 (ks:List Nat):List AV:=[.full ks.length (ks.flatMap fun k=>[I (k:Nat)])]
theorem MZ (k:Q (.full signsL.length (signsL.flatMap fun x=>[T x])) h):C sC [] h Q:=by
 refine Hw _ _ ?_
 unfold F7
 (repeat refine aB rfl rfl ?_)
 exact k
theorem pH (k:Q (.full levelsL.length (levelsL.flatMap O7)) h):C iW [] h Q:=by
 refine Fx _ _ ?_
 unfold Du
 (repeat refine aB rfl rfl ?_)
 exact k
def dt:List Nat→Str→Nat×Str
 | [],l=>(0,l)
 | k::ks,l=>if (sg k).isPrefixOf (blk l)=true then (k,(blk l).drop (sg k).length) else dt ks (blk l)
theorem Rk (ks:List Nat) (hk:∀ k∈ks,k<12) (hl:ks.length<1000) {v:AV}(r:Row (fun k:Nat=>[I (k:Nat)]) 1 h v ks) (e:h[i]?=some (pO l d false)) (hi:i<h.length)
  (hr:∀ h',Fr [i] h h'→Row (fun k:Nat=>[I (k:Nat)]) 1 h' v ks) (k:∀ h',Fr [i] h h'→h'[i]?=some (pO (dt ks l).2 d false)→Q (I ((dt ks l).1:Nat)) h'):C eA [.ptr i 0,v] h Q:=by
 refine oB _ _ _ _ ?_
 unfold mZ
 refine r.len ?_
 refine aP (fun n vs h'=>∃ (j:Nat) (b:AV) (l':Str),vs=[b,I (j:Nat)]∧n+j=ks.length∧Fr [i] h h'∧h'[i]?=some (pO l' d false)∧dt (ks.drop j) l'=dt ks l) ks.length ⟨0,_,l,rfl,by omega,Fr.refl _ _,e,rfl⟩ ?_
 rintro n vs h' ⟨j,b,l',rfl,hn,f1,e1,hm⟩
 unfold jN
 (repeat refine aJ ?_)
 refine ah (fun hb=>?_) (fun hb=>?_)<;>simp only[za,zb,zc,zd,ze,zf,zg,zh,zi,u8i,zj,zk,zl]at hb
 ·have hj:j<ks.length:=hb
  refine (hr h' f1).idx (fun _=>rfl) hj fun p t=>?_
  refine aH t ?_
  refine MZ ?_
  have hk12:ks[j]<signsL.length:=hk _ (by simp)
  refine (Row.full (h:=h') (enc:=fun x:Str=>[T x]) (fun _=>rfl) signsL).idx (fun _=>rfl) hk12 fun p t=>?_
  refine aH t ?_
  have hsg:signsL[ks[j]]=sg ks[j]:=by simp[sg,hk12]
  rw[List.drop_eq_getElem_cons hj,dt]at hm
  refine Bb e1 (fun hp h2 f2 e2=>?_) (fun hp h2 f2 e2=>?_)
  ·refine ah (fun _=>?_) (fun h=>by cases h)
   rw[hsg]at hp e2
   rw[if_pos hp]at hm
   have:=k h2 (f1.trans f2 (by simp)) (by rw[← hm];exact e2)
   rw[← hm]at this;exact this
  ·refine ah (fun h=>by cases h) (fun _=>?_)
   rw[hsg]at hp
   rw[if_neg (by simp[hp])]at hm
   (repeat refine aI (by omega) ?_)
   exact⟨n-1,by omega,j+1,_,_,rfl,by omega,f1.trans f2 (by simp),e2,hm⟩
 ·rw[List.drop_of_length_le (by omega)]at hm
  have:=k h' f1 (by rw[← hm];exact e1)
  rw[← hm]at this;exact this
theorem GX (ks:List Nat) (hk:∀ k∈ks,k<12) (hl:ks.length<1000) {v:AV}(r:Row (fun k:Nat=>[I (k:Nat)]) 1 h v ks) (e:h[i]?=some (pO l d true))
  (hr:∀ h',Fr [i] h h'→Row (fun k:Nat=>[I (k:Nat)]) 1 h' v ks) (k:∀ l' h',Fr [i] h h'→h'[i]?=some (pO l' d true)→Q (I 0) h'):C eA [.ptr i 0,v] h Q:=by
 refine oB _ _ _ _ ?_
 unfold mZ
 refine r.len ?_
 refine aP (fun n vs h'=>∃ (j:Nat) (b:AV) (l':Str),vs=[b,I (j:Nat)]∧n+j=ks.length∧Fr [i] h h'∧h'[i]?=some (pO l' d true)) ks.length ⟨0,_,l,rfl,by omega,Fr.refl _ _,e⟩ ?_
 rintro n vs h' ⟨j,b,l',rfl,hn,f1,e1⟩
 unfold jN
 (repeat refine aJ ?_)
 refine ah (fun hb=>?_) (fun hb=>?_)<;>simp only[za,zb,zc,zd,ze,zf,zg,zh,zi,u8i,zj,zk,zl]at hb
 ·have hj:j<ks.length:=hb
  refine (hr h' f1).idx (fun _=>rfl) hj fun p t=>?_
  refine aH t ?_
  refine MZ ?_
  have hk12:ks[j]<signsL.length:=hk _ (by simp)
  refine (Row.full (h:=h') (enc:=fun x:Str=>[T x]) (fun _=>rfl) signsL).idx (fun _=>rfl) hk12 fun p t=>?_
  refine aH t ?_
  refine GP e1 (fun h2 f2 e2=>?_)
  refine ah (fun h=>by cases h) (fun _=>?_)
  (repeat refine aI (by omega) ?_)
  exact⟨n-1,by omega,j+1,_,_,rfl,by omega,f1.trans f2 (by simp),e2⟩
 ·exact k _ h' f1 e1
end
structure PRes (i D:Nat) (m:Option (Ex×Str)) (h:ae) (Q:QT):Prop where
 good:∀ x l' h',m=some (x,l')→Fr [i] h h'→h'[i]?=some (pO l' D false)→Q (.agg (bq x)) h'
 bad:∀ cs l' h',m=none→Fr [i] h h'→h'[i]?=some (pO l' D true)→cs.length=4→cs.all AV.one=true→Q (.agg cs) h'
theorem PRes.fr {i D:Nat}{m:Option (Ex×Str)}{h h1:ae}{Q:QT}(r:PRes i D m h Q) (f:Fr [i] h h1):PRes i D m h1 Q:=
 ⟨fun x l' h' e f'=>r.good x l' h' e (f.trans f' (by simp)),fun cs l' h' e f'=>r.bad cs l' h' e (f.trans f' (by simp))⟩
abbrev PF:=Str→Option (Ex×Str)
def iH (f:PF):Prop:=∀ l x l',f l=some (x,l')→l'.length≤l.length
def oc (c:UInt8):Nat:=if 97≤c.toNat then c.toNat-97+10 else c.toNat-48
def pN (base:Nat):Str→Nat→Option Nat
 | [],n=>some n
 | c::cs,n=>if 4294967296≤n*base+oc c then none else pN base cs (n*base+oc c)
def eK (sub:PF) (ks:List Nat):Nat→Ex→Str→Option (Ex×Str)
 | 0,x,l=>if (dt ks l).1=0 then some (x,(dt ks l).2) else none
 | n+1,x,l=>if (dt ks l).1=0 then some (x,(dt ks l).2) else match sub (dt ks l).2 with
   | none=>none
   | some (y,l2)=>eK sub ks n (.bin (dt ks l).1 x y) l2
def gv (one:PF):Nat→PF
 | 0=>one
 | r+1=>fun l=>match gv one r l with
   | none=>none
   | some (x,l1)=>eK (gv one r) ((levelsL[4-r]?).getD []) l1.length x l1
def gy (two:PF):PF:=fun l=>match two l with
 | none=>none
 | some (x,l1)=>if ([41]:Str).isPrefixOf (blk l1)=true then some (x,(blk l1).drop 1) else none
def eC (one:PF):PF:=fun l=>match one l with
 | none=>none
 | some (x,l1)=>some (.neg x,l1)
def fP (l:Str):Str:=l.takeWhile fun c=>df c.toNat
def Ga (l:Str):Str:=l.takeWhile fun c=>bu c.toNat
def MF (l:Str):Str:=l.takeWhile fun c=>vp c.toNat
def eW (base:Nat) (l ds:Str):Option (Ex×Str):=match pN base ds 0 with
 | none=>none
 | some n=>if fP (l.drop ds.length)=[] then some (.num n,l.drop ds.length) else none
def EM:PF:=fun l=>
 if Ga l≠[] then eW 10 l (Ga l)
 else if kN (fP l)=true then some (.name (fP l),l.drop (fP l).length) else none
def Al:PF:=fun l=>
 if ([48,120]:Str).isPrefixOf l=true then (if MF (l.drop 2)≠[] then eW 16 (l.drop 2) (MF (l.drop 2)) else EM l) else EM l
def rk (group minus:PF):PF:=fun l=>
 if ([40]:Str).isPrefixOf (blk l)=true then group ((blk l).drop 1)
 else if ([45]:Str).isPrefixOf (blk l)=true then minus ((blk l).drop 1)
 else if ([46]:Str).isPrefixOf (blk l)=true then some (.here,(blk l).drop 1)
 else Al (blk l)
def Ao:Nat→PF
 | 0=>rk (fun _=>none) fun _=>none
 | d+1=>rk (gy (gv (Ao d) 5)) (eC (Ao d))
def gD (l:Str):Option Ex:=match gv (Ao 12) 5 l with
 | none=>none
 | some (x,l')=>if blk l'=[] then some x else none
theorem pC (ks:List Nat) (hk:∀ k∈ks,(sg k)≠[]):∀ l:Str,(dt ks l).2.length≤l.length∧((dt ks l).1≠0→(dt ks l).2.length<l.length):=by
 induction ks with
 | nil=>intro l;simp[dt]
 | cons k ks ih=>
   intro l
   unfold dt
   have hb:(blk l).length≤l.length:=mU 32 l
   split
   ·rename_i hp
    have hle:=(List.isPrefixOf_iff_prefix.1 hp).length_le
    have:0<(sg k).length:=List.length_pos_iff.2 (hk k (by simp))
    simp only[List.length_drop]
    exact⟨by omega,fun _=>by omega⟩
   ·obtain⟨h1,h2⟩:=ih (fun k hk'=>hk k (by simp[hk'])) (blk l)
    exact⟨by omega,fun h=>by have:=h2 h;omega⟩
theorem Dn {sub:PF}(hs:iH sub) (ks:List Nat) (hk:∀ k∈ks,(sg k)≠[]):∀ n x,iH (eK sub ks n x)
 | 0,x,l,y,l',e=>by
   have:=(pC ks hk l).1
   unfold eK at e
   split at e
   ·cases e;exact this
   ·cases e
 | n+1,x,l,y,l',e=>by
   have:=(pC ks hk l).1
   unfold eK at e
   split at e
   ·cases e;exact this
   ·split at e
    ·cases e
    ·rename_i z l2 h2
     have h3:=hs _ _ _ h2
     have:=Dn hs ks hk n _ _ _ _ e
     omega
theorem xG:∀ ks∈levelsL,(∀ k∈ks,sg k≠[])∧(∀ k∈ks,k<12)∧ks.length<1000:=by decide
theorem Jb {r:Nat}(h:r<5):(levelsL[r]?).getD []∈levelsL:=by
 have:r<levelsL.length:=h
 simp[this]
theorem pV {one:PF}(ho:iH one):∀ r,r≤5→iH (gv one r)
 | 0,_=>ho
 | r+1,hr=>fun l x l' e=>by
   unfold gv at e
   have ih:=pV ho r (by omega)
   cases h:gv one r l with
   | none=>rw[h]at e;cases e
   | some p=>
     obtain⟨y,l1⟩:=p
     rw[h]at e
     have h1:=ih _ _ _ h
     have:=Dn ih _ (xG _ (Jb (by omega))).1 _ _ _ _ _ e
     omega
theorem AA {two:PF}(h2:iH two):iH (gy two):=fun l x l' e=>by
 unfold gy at e
 cases h:two l with
 | none=>rw[h]at e;cases e
 | some p=>
   obtain⟨y,l1⟩:=p
   rw[h]at e
   have h1:=h2 _ _ _ h
   have hb:(blk l1).length≤l1.length:=mU 32 l1
   simp only at e
   split at e
   ·cases e;simp;omega
   ·cases e
theorem Kp {one:PF}(h2:iH one):iH (eC one):=fun l x l' e=>by
 unfold eC at e
 cases h:one l with
 | none=>rw[h]at e;cases e
 | some p=>
   obtain⟨y,l1⟩:=p
   rw[h]at e
   cases e
   exact h2 _ _ _ h
theorem wV (base:Nat) (l ds:Str) {x:Ex}{l':Str}(e:eW base l ds=some (x,l')):l'.length≤l.length:=by
 unfold eW at e
 split at e
 ·cases e
 ·split at e
  ·cases e;simp
  ·cases e
theorem GN:iH EM:=fun l x l' e=>by
 unfold EM at e
 split at e
 ·exact wV _ _ _ e
 ·split at e
  ·cases e;simp
  ·cases e
theorem NF:iH Al:=fun l x l' e=>by
 unfold Al at e
 split at e
 ·split at e
  ·have:=wV _ _ _ e;simp at this;omega
  ·exact GN _ _ _ e
 ·exact GN _ _ _ e
theorem Dz {group minus:PF}(hg:iH group) (hm:iH minus):iH (rk group minus):=fun l x l' e=>by
 have hb:(blk l).length≤l.length:=mU 32 l
 unfold rk at e
 split at e
 ·have:=hg _ _ _ e;simp at this;omega
 ·split at e
  ·have:=hm _ _ _ e;simp at this;omega
  ·split at e
   ·cases e;simp;omega
   ·have:=NF _ _ _ e;omega
theorem uA:∀ d,iH (Ao d)
 | 0=>Dz (fun l x l' e=>by cases e) (fun l x l' e=>by cases e)
 | d+1=>Dz (AA (pV (uA d) 5 (Nat.le_refl _))) (Kp (uA d))
end
section
variable [Tabs]
section
variable {i D:Nat}{l:Str}{h:ae}{Q:QT}
abbrev zE:List AV:=[I 0,I 0,T [],.full 0 []]
theorem YV {cs:List AV}(h:cs.length=4):∃ a b c e,cs=[a,b,c,e]:=by
 match cs,h with
 | [a,b,c,e],_=>exact⟨a,b,c,e,rfl⟩
theorem Ys {cs zs:List AV}(h:cs.length=4) (hz:zs.length=4):splice zs 0 cs=cs:=by
 simp[splice,h,hz]
theorem aM {h0 h:ae}{M:List Nat}{L L':Own}{j:Nat}{cs zs:List AV}{K:ae→Prop}(s:St h0 M h L) (hz:zs.length=4) (hc:cs.length=4) (ho:cs.all AV.one=true) (u:Sub L (j,true,.cells zs) L' (j,true,.cells cs))
  (k:∀ h',St h0 M h' L'→K h'):an 4 (.ptr j 0) (.agg cs) h K:=by
 refine ay s (cs:=zs) (L':=L') ?_ rfl hc ho (by omega) k
 rw[show (AV.agg cs).cells=cs from rfl,Ys hc hz];exact u
theorem aK {h0 h:ae}{M:List Nat}{L:Own}{j:Nat}{b:Bool}{cs:List AV}{K:AV→Prop}(s:St h0 M h L) (hc:cs.length=4) (u:(j,b,.cells cs)∈L) (k:K (.agg cs)):aq 4 (.ptr j 0) h K:=
 aL s u (by omega) (by rw[List.drop_zero,List.take_of_length_le (by omega)];exact k)
theorem bd:zE.length=4:=rfl
theorem Vq {cs:List AV}(hc:cs.length=4) (ho:cs.all AV.one=true) (e:h[i]?=some (pO l D false))
  (k1:fP l=[]→∀ h',Fr [i] h h'→h'[i]?=some (pO l D false)→Q (.agg cs) h') (k0:fP l≠[]→∀ h',Fr [i] h h'→h'[i]?=some (pO l D true)→Q (.agg zE) h'):C cF [.ptr i 0,.agg cs] h Q:=by
 refine nW _ _ _ _ ?_
 unfold lD
 refine bW (St.start1 e) rfl fun j h1 s1=>?_
 refine aQ s1 fun q h2 s2=>?_
 (repeat (first|refine aw ?_|refine aj ?_|refine af ‹_› (by first|exact .head _|exact .tail _ (.tail _ (.head _))) rfl ?_))
 refine tT l fun h3 f3=>?_
 have s3:=s2.call f3
 refine pU ?_
 refine ah (fun hb=>?_) (fun hb=>?_)<;>simp only[za,zb,zc,zd,ze,zf,zg,zh,zi,u8i,zj,zk,zl]at hb
 ·refine uR (s3.get (.tail _ (.tail _ (.head _)))) fun h4 f4 e4=>?_
  have s4:=s3.call1 f4 e4 (.tail (.tail .head))
  refine aM s4 bd (au _) (aX _) .head fun h5 s5=>?_
  refine aK s5 (au _) (.head _) ?_
  exact k0 hb _ s5.fr (s5.get (.tail _ (.tail _ (.head _))))
 ·have hb:fP l=[]:=by
   unfold fP
   simpa using hb
  refine aK s3 hc (.tail _ (.head _)) ?_
  refine aM s3 bd hc ho .head fun h5 s5=>?_
  refine aK s5 hc (.head _) ?_
  exact k1 hb _ s5.fr (s5.get (.tail _ (.tail _ (.head _))))
theorem EW {base:Nat}(hb:base≤16) (c:UInt8) (n:Nat) (hn:n<4294967296):n*base+oc c<9223372036854775807:=by
 have h1:=c.toNat_lt
 have h2:oc c<1000:=by unfold oc;split<;>omega
 have:n*base≤4294967296*16:=Nat.mul_le_mul (by omega) hb
 omega
theorem TS (base:Nat) (hb:base≤16) (ds:Str) (hds:∀ c∈ds,vp c.toNat=true) (hle:ds.length≤l.length) (e:h[i]?=some (pO l D false))
  (k1:∀ n,pN base ds 0=some n→∀ h',Fr [i] h h'→h'[i]?=some (pO (l.drop ds.length) D false)→Q (.agg (bq (.num n))) h')
  (k0:pN base ds 0=none→∀ h',Fr [i] h h'→h'[i]?=some (pO l D true)→Q (.agg zE) h'):C cu [.ptr i 0,T ds,I (base:Nat)] h Q:=by
 refine vr _ _ _ _ _ ?_
 unfold pR
 refine aQ (St.start1 e) fun q h1 s1=>?_
 refine H9 s1 fun j h2 s2=>?_
 refine aP (fun n vs h'=>∃ (k m:Nat),vs=[I (m:Nat)]∧m<4294967296∧n+k=ds.length∧St h [i] h' [(j,true,.siter ⟨⟨ds⟩⟩ k),(q,true,.cells zE),(i,true,pO l D false)]∧pN base (ds.drop k) m=pN base ds 0) ds.length ⟨0,0,rfl,by omega,by omega,s2,rfl⟩ ?_
 rintro n vs h' ⟨k,m,rfl,hm,hn,s3,hnum⟩
 unfold lY
 refine Sp s3 (fun hk=>?_) fun hk r w h4 s4 hw h7 h8=>?_
 ·rw[List.drop_of_length_le (by omega),pN]at hnum
  (repeat (first|refine aw ?_|refine aj ?_|refine bf ?_|refine aE rfl ?_|refine af ‹_› (by first|exact .tail _ (.head _)|exact .tail _ (.tail _ (.head _))) rfl ?_))
  refine gY (by omega) (by omega) ?_
  (repeat (first|refine aw ?_|refine aj ?_))
  refine ay s3 (.tail (.tail .head)) rfl rfl rfl (nle rfl) fun h5 s5=>?_
  (repeat refine aD rfl ?_)
  refine aM s5 bd rfl rfl (.tail .head) fun h6 s6=>?_
  refine aK s6 rfl (.tail _ (.head _)) ?_
  exact k1 m hnum.symm _ s6.fr (s6.get (.tail _ (.tail _ (.head _))))
 ·have hhex:=hds ds[k] (by simp)
  have hlt:ds[k].toNat<128:=by
   unfold vp bu at hhex;simp at hhex;omega
  obtain⟨rfl,rfl⟩:=h7 hlt
  rw[List.drop_eq_getElem_cons hk,pN]at hnum
  have hd:=EW hb ds[k] m hm
  have hdv:oc ds[k]<1000:=by unfold oc;split<;>omega
  have hmb:(m:Int)*base=((m*base:Nat):Int):=by simp
  have fin:eZ (I (oc ds[k]:Nat)) (I (m:Nat)) (.ptr q 0) (.ptr i 0) (I (base:Nat)) h4 (fun vs' h'=>∃ m_1,m_1<n∧∃ (k m:Nat),vs'=[I (m:Nat)]∧m<4294967296∧m_1+k=ds.length∧St h [i] h' [(j,true,.siter ⟨⟨ds⟩⟩ k),(q,true,.cells zE),(i,true,pO l D false)]∧pN base (ds.drop k) m=pN base ds 0) Q:=by
   unfold eZ
   refine uH (by rw[hmb];omega) ?_
   rw[hmb]
   refine aI (by omega) ?_
   have e2:((m*base:Nat):Int)+(oc ds[k]:Nat)=((m*base+oc ds[k]:Nat):Int):=by simp
   rw[e2]
   refine bL ?_
   refine ah (fun hb=>?_) (fun hb=>?_)
   ·simp only[decide_eq_true_eq]at hb
    rw[if_pos (by omega)]at hnum
    refine uR (s4.get (.tail _ (.tail _ (.head _)))) fun h5 f5 e5=>?_
    have s5:=s4.call1 f5 e5 (.tail (.tail .head))
    refine aM s5 bd (au _) (aX _) (.tail .head) fun h6 s6=>?_
    refine aK s6 (au _) (.tail _ (.head _)) ?_
    exact k0 hnum.symm _ s6.fr (s6.get (.tail _ (.tail _ (.head _))))
   ·simp only[decide_eq_false_iff_not]at hb
    rw[if_neg (by omega)]at hnum
    exact⟨n-1,by omega,k+1,_,rfl,by omega,by omega,s4,hnum⟩
  (repeat refine aE rfl ?_)
  refine Ea ?_
  refine d7 ?_
  refine bL ?_
  refine ah (fun hb=>?_) (fun hb=>?_)
  ·simp only[decide_eq_true_eq]at hb
   refine Ea ?_
   refine d7 ?_
   have e1:IntKind.i64.wrap (IntKind.i32.wrap ((ds[k].toNat:Nat)-97))=((ds[k].toNat-97:Nat):Int):=by
    have:IntKind.i32.wrap ((ds[k].toNat:Nat)-97)=((ds[k].toNat-97:Nat):Int):=by
     simp[IntKind.wrap,IntKind.bits,IntKind.signed];omega
    rw[this];exact sY (by omega)
   rw[e1]
   refine aI (by omega) ?_
   have e2:((ds[k].toNat-97:Nat):Int)+10=(oc ds[k]:Nat):=by unfold oc;rw[if_pos (by omega)];omega
   rw[e2]
   exact fin
  ·simp only[decide_eq_false_iff_not]at hb
   have e1:IntKind.i64.wrap (IntKind.i32.wrap ((ds[k].toNat:Nat)-48))=(oc ds[k]:Nat):=by
    have h48:48≤ds[k].toNat:=by unfold vp bu at hhex;simp at hhex;omega
    have:IntKind.i32.wrap ((ds[k].toNat:Nat)-48)=((ds[k].toNat-48:Nat):Int):=by
     simp[IntKind.wrap,IntKind.bits,IntKind.signed];omega
    rw[this,sY (by omega)]
    unfold oc;rw[if_neg (by omega)]
   rw[e1]
   exact fin
theorem WC (l:Str):(fP l).length≤l.length:=(List.takeWhile_sublist _).length_le
theorem Vj (l:Str):(Ga l).length≤l.length:=(List.takeWhile_sublist _).length_le
theorem WT (l:Str):(MF l).length≤l.length:=(List.takeWhile_sublist _).length_le
theorem rD {p:UInt8→Bool}:∀ {l:Str}{c:UInt8},c∈l.takeWhile p→p c=true
 | [],c,h=>by simp at h
 | a::l,c,h=>by
   cases hp:p a with
   | true=>
     rw[List.takeWhile_cons_of_pos hp]at h
     rcases List.mem_cons.1 h with rfl|h
     ·exact hp
     ·exact rD h
   | false=>rw[List.takeWhile_cons_of_neg (by simp[hp])]at h;simp at h
theorem VE (l:Str):∀ c∈Ga l,vp c.toNat=true:=fun c hc=>by
 have:bu c.toNat=true:=rD hc
 unfold vp;rw[this];rfl
theorem Vh (l:Str):∀ c∈MF l,vp c.toNat=true:=fun c hc=>rD hc
theorem Dp (base:Nat) (hb:base≤16) (ds:Str) (hds:∀ c∈ds,vp c.toNat=true) (hle:ds.length≤l.length) (e:h[i]?=some (pO l D false)) (r:PRes i D (eW base l ds) h Q):
  C cu [.ptr i 0,T ds,I (base:Nat)] h fun t h1=>C cF [.ptr i 0,t] h1 Q:=by
 refine TS base hb ds hds hle e (fun n hn h1 f1 e1=>?_) (fun hn h1 f1 e1=>?_)
 ·have hm:eW base l ds=if fP (l.drop ds.length)=[] then some (.num n,l.drop ds.length) else none:=by unfold eW;rw[hn]
  refine Vq (au _) (aX _) e1 (fun h2 h3 f3 e3=>?_) (fun h2 h3 f3 e3=>?_)
  ·rw[if_pos h2]at hm
   exact r.good _ _ _ hm (f1.trans f3 (by simp)) e3
  ·rw[if_neg h2]at hm
   exact r.bad _ _ _ hm (f1.trans f3 (by simp)) e3 rfl rfl
 ·have hm:eW base l ds=none:=by unfold eW;rw[hn]
  refine nW _ _ _ _ ?_
  unfold lD
  refine bW (St.start1 e1) rfl fun j h2 s2=>?_
  refine aQ s2 fun q h3 s3=>?_
  (repeat (first|refine aw ?_|refine aj ?_|refine af ‹_› (by first|exact .head _|exact .tail _ (.tail _ (.head _))) rfl ?_))
  refine tT l fun h4 f4=>?_
  have s4:=s3.call f4
  refine pU ?_
  refine ah (fun hbb=>?_) (fun hbb=>?_)<;>simp only[za,zb,zc,zd,ze,zf,zg,zh,zi,u8i,zj,zk,zl]at hbb
  ·refine uR (s4.get (.tail _ (.tail _ (.head _)))) fun h5 f5 e5=>?_
   have s5:=s4.call1 f5 e5 (.tail (.tail .head))
   refine aM s5 bd (au _) (aX _) .head fun h6 s6=>?_
   refine aK s6 (au _) (.head _) ?_
   exact r.bad _ _ _ hm (f1.trans s6.fr (by simp)) (s6.get (.tail _ (.tail _ (.head _)))) rfl rfl
  ·refine aK s4 bd (.tail _ (.head _)) ?_
   refine aM s4 bd bd rfl .head fun h6 s6=>?_
   refine aK s6 bd (.head _) ?_
   exact r.bad _ _ _ hm (f1.trans s6.fr (by simp)) (s6.get (.tail _ (.tail _ (.head _)))) rfl rfl
def yB (f:FuncId) (args:List AV) (D:Nat) (m:PF):Prop:=∀ (l:Str) (h:ae) (Q:QT) (i:Nat),h[i]?=some (pO l D false)→PRes i D (m l) h Q→C f (.ptr i 0::args) h Q
theorem U9 {two:PF}(ht:yB cB [I 0] D two):yB fD [] D (gy two):=fun l h Q i e r=>by
 refine ww _ _ _ ?_
 unfold rn
 refine aQ (St.start1 e) fun q h1 s1=>?_
 refine ht l h1 _ i (s1.get (.tail _ (.head _))) ⟨fun x l' h2 hm f2 e2=>?_,fun cs l' h2 hm f2 e2 hc ho=>?_⟩
 ·have s2:=s1.call1 f2 e2 (.tail .head)
  have hm2:gy two l=if ([41]:Str).isPrefixOf (blk l')=true then some (x,(blk l').drop 1) else none:=by unfold gy;rw[hm]
  refine aQ s2 fun q2 h3 s3=>?_
  refine aM s3 bd (au _) (aX _) .head fun h4 s4=>?_
  refine Bb (m:=[41]) (s4.get (.tail _ (.tail _ (.head _)))) (fun hp h5 f5 e5=>?_) (fun hp h5 f5 e5=>?_)
  ·have s5:=s4.call1 f5 e5 (.tail (.tail .head))
   rw[if_pos hp]at hm2
   refine bQ ?_
   refine ah (fun h=>by cases h) (fun _=>?_)
   refine aK s5 (au _) (.head _) ?_
   refine aM s5 bd (au _) (aX _) (.tail .head) fun h6 s6=>?_
   refine aK s6 (au _) (.tail _ (.head _)) ?_
   exact r.good _ _ _ hm2 s6.fr (s6.get (.tail _ (.tail _ (.head _))))
  ·have s5:=s4.call1 f5 e5 (.tail (.tail .head))
   rw[if_neg (by simp[hp])]at hm2
   refine bQ ?_
   refine ah (fun _=>?_) (fun h=>by cases h)
   refine uR (s5.get (.tail _ (.tail _ (.head _)))) fun h6 f6 e6=>?_
   have s6:=s5.call1 f6 e6 (.tail (.tail .head))
   refine aM s6 bd (au _) (aX _) (.tail .head) fun h7 s7=>?_
   refine aK s7 (au _) (.tail _ (.head _)) ?_
   exact r.bad _ _ _ hm2 s7.fr (s7.get (.tail _ (.tail _ (.head _)))) rfl rfl
 ·have s2:=s1.call1 f2 e2 (.tail .head)
  have hm2:gy two l=none:=by unfold gy;rw[hm]
  refine aQ s2 fun q2 h3 s3=>?_
  refine aM s3 bd hc ho .head fun h4 s4=>?_
  refine GP (m:=[41]) (s4.get (.tail _ (.tail _ (.head _)))) fun h5 f5 e5=>?_
  have s5:=s4.call1 f5 e5 (.tail (.tail .head))
  refine bQ ?_
  refine ah (fun _=>?_) (fun h=>by cases h)
  refine uR (s5.get (.tail _ (.tail _ (.head _)))) fun h6 f6 e6=>?_
  have s6:=s5.call1 f6 e6 (.tail (.tail .head))
  refine aM s6 bd (au _) (aX _) (.tail .head) fun h7 s7=>?_
  refine aK s7 (au _) (.tail _ (.head _)) ?_
  exact r.bad _ _ _ hm2 s7.fr (s7.get (.tail _ (.tail _ (.head _)))) rfl rfl
theorem Vc {one:PF}(ht:yB c5 [] D one):yB fu [] D (eC one):=fun l h Q i e r=>by
 refine vB _ _ _ ?_
 unfold rj
 refine aQ (St.start1 e) fun q h1 s1=>?_
 refine ht l h1 _ i (s1.get (.tail _ (.head _))) ⟨fun x l' h2 hm f2 e2=>?_,fun cs l' h2 hm f2 e2 hc ho=>?_⟩
 ·have s2:=s1.call1 f2 e2 (.tail .head)
  have hm2:eC one l=some (.neg x,l'):=by unfold eC;rw[hm]
  refine aB rfl (by simp[AV.isTup,AV.cells,au]) ?_
  rw[show ([AV.agg (bq x)].flatMap fun x=>x.cells)=bq x by simp[AV.cells]]
  (repeat refine aD rfl ?_)
  refine aM s2 bd rfl rfl .head fun h7 s7=>?_
  refine aK s7 rfl (.head _) ?_
  exact r.good _ _ _ hm2 s7.fr (s7.get (.tail _ (.head _)))
 ·have s2:=s1.call1 f2 e2 (.tail .head)
  have hm2:eC one l=none:=by unfold eC;rw[hm]
  refine aB rfl (by simp[AV.isTup,AV.cells,hc]) ?_
  (repeat refine aD rfl ?_)
  refine aM s2 bd rfl rfl .head fun h7 s7=>?_
  refine aK s7 rfl (.head _) ?_
  exact r.bad _ _ _ hm2 s7.fr (s7.get (.tail _ (.head _))) rfl rfl
theorem Io {f:FuncId}{m:PF}(hf:yB f [] (D+1) m) (hD:D<12):∀ (l:Str) (h:ae) (Q:QT) (i:Nat),h[i]?=some (pO l D false)→PRes i D (m l) h Q→C cU [.ptr i 0,.fn (.func f) [.ptr i 0] []] h Q:=fun l h Q i e r=>by
 refine mF _ _ _ _ ?_
 unfold kR
 refine aQ (St.start1 e) fun q h1 s1=>?_
 (repeat (first|refine aw ?_|refine aj ?_|refine bL ?_|refine af ‹_› (by first|exact .head _|exact .tail _ (.head _)) rfl ?_))
 refine ah (fun hb=>absurd hb (by simp;omega)) (fun _=>?_)
 (repeat (first|refine aw ?_|refine aj ?_|refine aI (by omega) ?_|refine af ‹_› (by first|exact .head _|exact .tail _ (.head _)) rfl ?_))
 refine ay s1 (.tail .head) rfl rfl rfl (nle rfl) fun h2 s2=>?_
 have s2:St h [i] h2 [(q,true,.cells zE),(i,true,pO l (D+1) false)]:=s2
 show ACall Pg f [.ptr i 0] _ _
 refine hf l h2 _ i (s2.get (.tail _ (.head _))) ⟨fun x l' h3 hm f3 e3=>?_,fun cs l' h3 hm f3 e3 hc ho=>?_⟩
 ·have s3:=s2.call1 f3 e3 (.tail .head)
  refine aQ s3 fun q2 h4 s4=>?_
  refine aM s4 bd (au _) (aX _) .head fun h5 s5=>?_
  (repeat (first|refine aw ?_|refine aj ?_|refine cw (by omega) ?_|refine af ‹_› (by first|exact .head _|exact .tail _ (.tail _ (.head _))) rfl ?_))
  have eD:((D+1:Nat):Int)-1=(D:Nat):=by omega
  rw[eD]
  refine ay s5 (.tail (.tail .head)) rfl rfl rfl (nle rfl) fun h6 s6=>?_
  have s6:St h [i] h6 [(q2,true,.cells (bq x)),(q,true,.cells zE),(i,true,pO l' D false)]:=s6
  refine aK s6 (au _) (.head _) ?_
  refine aM s6 bd (au _) (aX _) (.tail .head) fun h7 s7=>?_
  refine aK s7 (au _) (.tail _ (.head _)) ?_
  exact r.good _ _ _ hm s7.fr (s7.get (.tail _ (.tail _ (.head _))))
 ·have s3:=s2.call1 f3 e3 (.tail .head)
  refine aQ s3 fun q2 h4 s4=>?_
  refine aM s4 bd hc ho .head fun h5 s5=>?_
  (repeat (first|refine aw ?_|refine aj ?_|refine cw (by omega) ?_|refine af ‹_› (by first|exact .head _|exact .tail _ (.tail _ (.head _))) rfl ?_))
  have eD:((D+1:Nat):Int)-1=(D:Nat):=by omega
  rw[eD]
  refine ay s5 (.tail (.tail .head)) rfl rfl rfl (nle rfl) fun h6 s6=>?_
  have s6:St h [i] h6 [(q2,true,.cells cs),(q,true,.cells zE),(i,true,pO l' D true)]:=s6
  refine aK s6 hc (.head _) ?_
  refine aM s6 bd hc ho (.tail .head) fun h7 s7=>?_
  refine aK s7 hc (.tail _ (.head _)) ?_
  exact r.bad _ _ _ hm s7.fr (s7.get (.tail _ (.tail _ (.head _)))) hc ho
theorem C6 (fv:AV):∀ (l:Str) (h:ae) (Q:QT) (i:Nat),h[i]?=some (pO l 12 false)→PRes i 12 none h Q→C cU [.ptr i 0,fv] h Q:=fun l h Q i e r=>by
 refine mF _ _ _ _ ?_
 unfold kR
 refine aQ (St.start1 e) fun q h1 s1=>?_
 (repeat (first|refine aw ?_|refine aj ?_|refine bL ?_|refine af ‹_› (by first|exact .head _|exact .tail _ (.head _)) rfl ?_))
 refine ah (fun _=>?_) (fun hb=>(by exfalso;first|(simp at hb;done)|(simp at hb;omega)|(revert hb;decide)|omega))
 refine uR (s1.get (.tail _ (.head _))) fun h2 f2 e2=>?_
 have s2:=s1.call1 f2 e2 (.tail .head)
 refine aM s2 bd (au _) (aX _) .head fun h3 s3=>?_
 refine aK s3 (au _) (.head _) ?_
 exact r.bad _ _ _ rfl s3.fr (s3.get (.tail _ (.head _))) rfl rfl
end
end
section
variable [Tabs]
section
variable {i D:Nat}{l:Str}{h:ae}{Q:QT}
def ZJ (f:FuncId) (D:Nat) (m:PF):Prop:=∀ (l:Str) (h:ae) (Q:QT) (i:Nat),h[i]?=some (pO l D false)→PRes i D (m l) h Q→C cU [.ptr i 0,.fn (.func f) [.ptr i 0] []] h Q
theorem Vw {h0:ae}{q:Nat}{b:Str}(s:St h0 [i] h [(q,true,.cells zE),(i,true,pO b D false)]) (r:PRes i D (EM b) h0 Q):
  aF (.ptr i 0) fun t61=>ab 0 t61 fun t62=>ag t62 h fun t63=>C cN [t63,(.fn (.func cV) [] [])] h fun t64 h22=>
   ai .neq t64 (S ⟨#[]⟩) fun t66=>ifB t66 (
    C cu [.ptr i 0,t64,(I 10)] h22 fun t70 h23=>C cF [.ptr i 0,t70] h23 fun t71 h24=>
    an 4 (.ptr q 0) t71 h24 fun h25=>aq 4 (.ptr q 0) h25 fun r26=>Q r26 h25) (
    aF (.ptr i 0) fun t73=>ab 0 t73 fun t74=>ag t74 h22 fun t75=>C cN [t75,(.fn (.func dW) [] [])] h22 fun t76 h27=>C lJ [t76] h27 fun t78 h28=>
    ifB t78 (
     aF (.ptr i 0) fun t81=>ab 0 t81 fun t82=>ag t82 h28 fun t83=>bK t76 fun t85=>bo t83 (some t85) none fun t86=>
     aF (.ptr i 0) fun t87=>ab 0 t87 fun t88=>an 1 t88 t86 h28 fun h29=>ax [(I 0),(I 0),(S ⟨#[]⟩),(.full 0 [])] [(0,1,(I 2)),(2,1,t76)] fun t90=>
     an 4 (.ptr q 0) t90 h29 fun h30=>aq 4 (.ptr q 0) h30 fun r31=>Q r31 h30) (
     C bU [.ptr i 0] h28 fun t92 h32=>an 4 (.ptr q 0) t92 h32 fun h33=>aq 4 (.ptr q 0) h33 fun r34=>Q r34 h33)):=by
 (repeat (first|refine aw ?_|refine aj ?_|refine af ‹_› (by first|exact .head _|exact .tail _ (.head _)) rfl ?_))
 refine Fy b fun h1 f1=>?_
 have s1:=s.call f1
 refine pU ?_
 unfold EM at r
 refine ah (fun hb=>?_) (fun hb=>?_)<;>simp only[za,zb,zc,zd,ze,zf,zg,zh,zi,u8i,zj,zk,zl]at hb
 ·rw[if_pos (by exact hb)]at r
  refine Dp 10 (by omega) (Ga b) (VE b) (Vj b) (s1.get (.tail _ (.head _))) ⟨fun x l' h2 hm f2 e2=>?_,fun cs l' h2 hm f2 e2 hc ho=>?_⟩
  ·have s2:=s1.call1 f2 e2 (.tail .head)
   refine aM s2 bd (au _) (aX _) .head fun h3 s3=>?_
   refine aK s3 (au _) (.head _) ?_
   exact r.good _ _ _ hm s3.fr (s3.get (.tail _ (.head _)))
  ·have s2:=s1.call1 f2 e2 (.tail .head)
   refine aM s2 bd hc ho .head fun h3 s3=>?_
   refine aK s3 hc (.head _) ?_
   exact r.bad _ _ _ hm s3.fr (s3.get (.tail _ (.head _))) hc ho
 ·rw[if_neg (by simpa [Ga] using hb)]at r
  (repeat (first|refine aw ?_|refine aj ?_|refine af ‹_› (by first|exact .head _|exact .tail _ (.head _)) rfl ?_))
  refine tT b fun h2 f2=>?_
  have s2:=s1.call f2
  refine Y5 _ fun h3 f3=>?_
  have s3:=s2.call f3
  refine ah (fun hw=>?_) (fun hw=>?_)
  ·rw[if_pos (by exact hw)]at r
   (repeat (first|refine aw ?_|refine aj ?_|refine bf ?_|refine af ‹_› (by first|exact .head _|exact .tail _ (.head _)) rfl ?_))
   have hl:=WC b
   unfold fP at hl
   refine gY (by omega) (by omega) ?_
   (repeat (first|refine aw ?_|refine aj ?_))
   refine ay s3 (.tail .head) rfl rfl rfl (nle rfl) fun h4 s4=>?_
   (repeat refine aD rfl ?_)
   refine aM s4 bd rfl rfl .head fun h5 s5=>?_
   refine aK s5 rfl (.head _) ?_
   exact r.good _ _ _ rfl s5.fr (s5.get (.tail _ (.head _)))
  ·rw[if_neg (by unfold fP;rw[hw];simp)]at r
   refine uR (s3.get (.tail _ (.head _))) fun h4 f4 e4=>?_
   have s4:=s3.call1 f4 e4 (.tail .head)
   refine aM s4 bd (au _) (aX _) .head fun h5 s5=>?_
   refine aK s5 (au _) (.head _) ?_
   exact r.bad _ _ _ rfl s5.fr (s5.get (.tail _ (.head _))) rfl rfl
theorem Sx {group minus:PF}(hG:ZJ fD D group) (hM:ZJ fu D minus):yB c5 [] D (rk group minus):=fun l h Q i e r=>by
 refine zF _ _ _ ?_
 unfold vg
 unfold rk at r
 refine aQ (St.start1 e) fun q h1 s1=>?_
 refine Bb (m:=[40]) (s1.get (.tail _ (.head _))) (fun hp h2 f2 e2=>?_) (fun hp h2 f2 e2=>?_)
 ·have s2:=s1.call1 f2 e2 (.tail .head)
  rw[if_pos hp]at r
  refine ah (fun _=>?_) (fun h=>by cases h)
  refine hG _ _ _ i (s2.get (.tail _ (.head _))) ⟨fun x l' h3 hm f3 e3=>?_,fun cs l' h3 hm f3 e3 hc ho=>?_⟩
  ·have s3:=s2.call1 f3 e3 (.tail .head)
   refine aM s3 bd (au _) (aX _) .head fun h4 s4=>?_
   refine aK s4 (au _) (.head _) ?_
   exact r.good _ _ _ hm s4.fr (s4.get (.tail _ (.head _)))
  ·have s3:=s2.call1 f3 e3 (.tail .head)
   refine aM s3 bd hc ho .head fun h4 s4=>?_
   refine aK s4 hc (.head _) ?_
   exact r.bad _ _ _ hm s4.fr (s4.get (.tail _ (.head _))) hc ho
 have s2:=s1.call1 f2 e2 (.tail .head)
 rw[if_neg (by simp[hp])]at r
 refine ah (fun h=>by cases h) (fun _=>?_)
 refine Bb (m:=[45]) (s2.get (.tail _ (.head _))) (fun hp h3 f3 e3=>?_) (fun hp h3 f3 e3=>?_)
 ·have s3:=s2.call1 f3 e3 (.tail .head)
  rw[show blk (blk l)=blk l from m4 32 l]at hp s3
  rw[if_pos hp]at r
  refine ah (fun _=>?_) (fun h=>by cases h)
  refine hM _ _ _ i (s3.get (.tail _ (.head _))) ⟨fun x l' h4 hm f4 e4=>?_,fun cs l' h4 hm f4 e4 hc ho=>?_⟩
  ·have s4:=s3.call1 f4 e4 (.tail .head)
   refine aM s4 bd (au _) (aX _) .head fun h5 s5=>?_
   refine aK s5 (au _) (.head _) ?_
   exact r.good _ _ _ hm s5.fr (s5.get (.tail _ (.head _)))
  ·have s4:=s3.call1 f4 e4 (.tail .head)
   refine aM s4 bd hc ho .head fun h5 s5=>?_
   refine aK s5 hc (.head _) ?_
   exact r.bad _ _ _ hm s5.fr (s5.get (.tail _ (.head _))) hc ho
 have s3:=s2.call1 f3 e3 (.tail .head)
 rw[show blk (blk l)=blk l from m4 32 l]at hp s3
 rw[if_neg (by simp[hp])]at r
 refine ah (fun h=>by cases h) (fun _=>?_)
 refine Bb (m:=[46]) (s3.get (.tail _ (.head _))) (fun hp h4 f4 e4=>?_) (fun hp h4 f4 e4=>?_)
 ·have s4:=s3.call1 f4 e4 (.tail .head)
  rw[show blk (blk l)=blk l from m4 32 l]at hp s4
  rw[if_pos hp]at r
  refine ah (fun _=>?_) (fun h=>by cases h)
  (repeat refine aD rfl ?_)
  refine aM s4 bd rfl rfl .head fun h5 s5=>?_
  refine aK s5 rfl (.head _) ?_
  exact r.good _ _ _ rfl s5.fr (s5.get (.tail _ (.head _)))
 have s4:=s3.call1 f4 e4 (.tail .head)
 rw[show blk (blk l)=blk l from m4 32 l]at hp s4
 rw[if_neg (by simp[hp])]at r
 refine ah (fun h=>by cases h) (fun _=>?_)
 unfold Al at r
 (repeat (first|refine aw ?_|refine aj ?_|refine af ‹_› (by first|exact .head _|exact .tail _ (.head _)) rfl ?_))
 refine A0 ?_
 refine ah (fun hx=>?_) (fun hx=>?_)
 ·rw[if_pos hx]at r
  have hle:=(List.isPrefixOf_iff_prefix.1 hx).length_le
  have hle:2≤(blk l).length:=hle
  (repeat (first|refine aw ?_|refine aj ?_|refine af ‹_› (by first|exact .head _|exact .tail _ (.head _)) rfl ?_))
  refine gY (by omega) (by omega) ?_
  refine NP _ fun h5 f5=>?_
  have s5:=s4.call f5
  refine pU ?_
  refine ah (fun hb=>?_) (fun hb=>?_)<;>simp only[za,zb,zc,zd,ze,zf,zg,zh,zi,u8i,zj,zk,zl]at hb
  ·rw[if_pos (by exact hb)]at r
   (repeat (first|refine aw ?_|refine aj ?_|refine af ‹_› (by first|exact .head _|exact .tail _ (.head _)) rfl ?_))
   refine gY (by omega) (by omega) ?_
   (repeat (first|refine aw ?_|refine aj ?_))
   refine ay s5 (.tail .head) rfl rfl rfl (nle rfl) fun h6 s6=>?_
   have s6:St h [i] h6 [(q,true,.cells zE),(i,true,pO ((blk l).drop 2) D false)]:=s6
   (repeat (first|refine aw ?_|refine aj ?_|refine af ‹_› (by first|exact .head _|exact .tail _ (.head _)) rfl ?_))
   refine NP _ fun h7 f7=>?_
   have s7:=s6.call f7
   refine Dp 16 (by omega) (MF ((blk l).drop 2)) (Vh _) (WT _) (s7.get (.tail _ (.head _))) ⟨fun x l' h8 hm f8 e8=>?_,fun cs l' h8 hm f8 e8 hc ho=>?_⟩
   ·have s8:=s7.call1 f8 e8 (.tail .head)
    refine aM s8 bd (au _) (aX _) .head fun h9 s9=>?_
    refine aK s9 (au _) (.head _) ?_
    exact r.good _ _ _ hm s9.fr (s9.get (.tail _ (.head _)))
   ·have s8:=s7.call1 f8 e8 (.tail .head)
    refine aM s8 bd hc ho .head fun h9 s9=>?_
    refine aK s9 hc (.head _) ?_
    exact r.bad _ _ _ hm s9.fr (s9.get (.tail _ (.head _))) hc ho
  ·rw[if_neg (by simpa [MF] using hb)]at r
   exact Vw s5 r
 ·rw[if_neg (by rw[hx];simp)]at r
  exact Vw s4 r
theorem PH {one:PF}(ho:yB c5 [] D one) (hs:iH one):∀ R,R≤5→yB cB [I ((5-R:Nat):Int)] D (gv one R)
 | 0,_=>fun l h Q i e r=>by
   refine pM _ _ _ _ ?_
   unfold ov
   refine aQ (St.start1 e) fun q h1 s1=>?_
   refine pH ?_
   (repeat (first|refine d6 ?_|refine aA ?_))
   refine ah (fun _=>?_) (fun hb=>(by exfalso;first|(simp at hb;done)|(simp at hb;omega)|(revert hb;decide)|omega))
   refine ho l h1 _ i (s1.get (.tail _ (.head _))) ⟨fun x l' h2 hm f2 e2=>?_,fun cs l' h2 hm f2 e2 hc ho=>?_⟩
   ·have s2:=s1.call1 f2 e2 (.tail .head)
    refine aM s2 bd (au _) (aX _) .head fun h3 s3=>?_
    refine aK s3 (au _) (.head _) ?_
    exact r.good _ _ _ hm s3.fr (s3.get (.tail _ (.head _)))
   ·have s2:=s1.call1 f2 e2 (.tail .head)
    refine aM s2 bd hc ho .head fun h3 s3=>?_
    refine aK s3 hc (.head _) ?_
    exact r.bad _ _ _ hm s3.fr (s3.get (.tail _ (.head _))) hc ho
 | R+1,hR=>fun l h Q i e r=>by
   have ih:=PH ho hs R (by omega)
   have ihs:=pV hs R (by omega)
   have hlv:5-(R+1)=4-R:=by omega
   have hnx:(((5-(R+1):Nat):Int)+1)=((5-R:Nat):Int):=by omega
   have hlv5:4-R<levelsL.length:=by show 4-R<5;omega
   have hmem:levelsL[4-R]∈levelsL:=by simp
   obtain⟨hk1,hk2,hk3⟩:=xG _ hmem
   have hks:(levelsL[4-R]?).getD []=levelsL[4-R]:=by simp[hlv5]
   generalize hkse:levelsL[4-R]=ks at hk1 hk2 hk3 hks
   have RK:∀ h',Row (fun k:Nat=>[I (k:Nat)]) 1 h' (.full ks.length (ks.flatMap fun k=>[I (k:Nat)])) ks:=fun h'=>Row.full (enc:=fun k:Nat=>[I (k:Nat)]) (fun _=>rfl) ks
   refine pM _ _ _ _ ?_
   unfold ov
   refine aQ (St.start1 e) fun q h1 s1=>?_
   refine pH ?_
   (repeat (first|refine d6 ?_|refine aA ?_))
   refine ah (fun hb=>absurd hb (by simp[levelsL];omega)) (fun _=>?_)
   refine aI (by omega) ?_
   rw[hnx]
   have LV:∀ {h':ae} {K:AV→Prop},(∀ p,Pt h' p [.full ks.length (ks.flatMap fun k=>[I (k:Nat)])]→K p)→ak 1 (.full levelsL.length (levelsL.flatMap O7)) (I ((5-(R+1):Nat):Int)) K:=fun {h' K} k=>by
    rw[hlv]
    refine (Row.full (h:=h') (enc:=O7) (fun _=>rfl) levelsL).idx (fun _=>rfl) hlv5 fun p t=>k p ?_
    rw[hkse]at t;exact t
   refine ih l h1 _ i (s1.get (.tail _ (.head _))) ⟨fun x l1 h2 hm f2 e2=>?_,fun cs l1 h2 hm f2 e2 hc ho2=>?_⟩
   ·have s2:=s1.call1 f2 e2 (.tail .head)
    have hm2:gv one (R+1) l=eK (gv one R) ks l1.length x l1:=by
     conv=>lhs;unfold gv
     rw[hm,hks]
    rw[hm2]at r
    refine aQ s2 fun q2 h3 s3=>?_
    refine aM s3 bd (au _) (aX _) .head fun h4 s4=>?_
    refine pH ?_
    refine LV (h':=h4) fun p t=>?_
    refine aH t ?_
    refine Rk ks hk2 hk3 (RK _) (s4.get (.tail _ (.tail _ (.head _)))) (jc (s4.get (i:=i) (.tail _ (.tail _ (.head _))))) (fun h' _=>RK h') fun h5 f5 e5=>?_
    have s5:=s4.call1 f5 e5 (.tail (.tail .head))
    clear s4 s3 s2 s1 f5 e5 f2 e2 t p
    refine aP (fun n vs h'=>∃ (cs:List AV) (k:Nat) (l2:Str) (b:Bool),vs=[I (k:Nat)]∧cs.length=4∧cs.all AV.one=true∧St h [i] h' [(q2,true,.cells cs),(q,true,.cells zE),(i,true,pO l2 D b)]∧
     ((b=false∧∃ y l3,cs=bq y∧l3.length≤n∧dt ks l3=(k,l2)∧eK (gv one R) ks l1.length x l1=eK (gv one R) ks n y l3)∨(b=true∧k=0∧eK (gv one R) ks l1.length x l1=none))) l1.length
     ⟨bq x,(dt ks l1).1,(dt ks l1).2,false,rfl,au _,aX _,s5,.inl ⟨rfl,x,l1,rfl,Nat.le_refl _,rfl,rfl⟩⟩ ?_
    rintro n vs h' ⟨cs,k,l2,b,rfl,hc,ho3,s6,hcase⟩
    unfold jZ
    have fin:(b=false∧∃ y,cs=bq y∧eK (gv one R) ks l1.length x l1=some (y,l2))∨(b=true∧eK (gv one R) ks l1.length x l1=none)→
      aq 4 (.ptr q2 0) h' fun t46=>an 4 (.ptr q 0) t46 h' fun h17=>aq 4 (.ptr q 0) h17 fun r18=>Q r18 h17:=by
     intro hh
     refine aK s6 hc (.head _) ?_
     refine aM s6 bd hc ho3 (.tail .head) fun h8 s8=>?_
     refine aK s8 hc (.tail _ (.head _)) ?_
     rcases hh with ⟨rfl,y,rfl,he⟩|⟨rfl,he⟩
     ·exact r.good _ _ _ he s8.fr (s8.get (.tail _ (.tail _ (.head _))))
     ·exact r.bad _ _ _ he s8.fr (s8.get (.tail _ (.tail _ (.head _)))) hc ho3
    refine cg ?_
    refine ah (fun hz=>?_) (fun hz=>?_)<;>simp only[za,zb,zc,zd,ze,zf,zg,zh,zi,u8i,zj,zk,zl]at hz
    ·(repeat (first|refine aw ?_|refine aj ?_|refine bQ ?_|refine af ‹_› (by first|exact .head _|exact .tail _ (.tail _ (.head _))) rfl ?_))
     rcases hcase with ⟨rfl,y,l3,rfl,hl3,hkm,hlp⟩|⟨rfl,rfl,hno⟩
     ·refine ah (fun _=>?_) (fun h=>by cases h)
      have hk0:k≠0:=by omega
      obtain⟨hl4,hl5⟩:=pC ks hk1 l3
      rw[hkm]at hl4 hl5
      have hl5:=hl5 hk0
      simp only at hl5
      obtain⟨n',rfl⟩:∃ m,n=m+1:=⟨n-1,by omega⟩
      rw[eK,hkm]at hlp
      simp only[if_neg hk0]at hlp
      refine aK s6 (au _) (.head _) ?_
      refine aI (by omega) ?_
      rw[hnx]
      refine ih l2 h' _ i (s6.get (.tail _ (.tail _ (.head _)))) ⟨fun z l4 h7 hm3 f7 e7=>?_,fun cs2 l4 h7 hm3 f7 e7 hc2 ho4=>?_⟩
      ·have s7:=s6.call1 f7 e7 (.tail (.tail .head))
       rw[hm3]at hlp
       refine⟨aK s7 (au _) (.head _) rfl,?_⟩
       refine aB rfl (by simp[AV.isTup,AV.cells,au]) ?_
       rw[show ([AV.agg (bq y),AV.agg (bq z)].flatMap fun x=>x.cells)=bq y++bq z by simp[AV.cells]]
       (repeat refine aD rfl ?_)
       refine aM s7 (au _) rfl rfl .head fun h8 s8=>?_
       refine pH ?_
       refine LV (h':=h8) fun p t=>?_
       refine aH t ?_
       refine Rk ks hk2 hk3 (RK _) (s8.get (.tail _ (.tail _ (.head _)))) (jc (s8.get (i:=i) (.tail _ (.tail _ (.head _))))) (fun h' _=>RK h') fun h9 f9 e9=>?_
       have s9:=s8.call1 f9 e9 (.tail (.tail .head))
       have hsh:=ihs _ _ _ hm3
       exact⟨n',by omega,bq (.bin k y z),_,_,false,rfl,rfl,rfl,s9,.inl ⟨rfl,.bin k y z,l4,rfl,by omega,rfl,hlp⟩⟩
      ·have s7:=s6.call1 f7 e7 (.tail (.tail .head))
       rw[hm3]at hlp
       refine⟨aK s7 (au _) (.head _) rfl,?_⟩
       refine aB rfl (by simp[AV.isTup,AV.cells,au,hc2]) ?_
       (repeat refine aD rfl ?_)
       refine aM s7 (au _) rfl rfl .head fun h8 s8=>?_
       refine pH ?_
       refine LV (h':=h8) fun p t=>?_
       refine aH t ?_
       refine GX ks hk2 hk3 (RK _) (s8.get (.tail _ (.tail _ (.head _)))) (fun h' _=>RK h') fun l5 h9 f9 e9=>?_
       have s9:=s8.call1 f9 e9 (.tail (.tail .head))
       exact⟨n',by omega,_,0,_,true,rfl,rfl,rfl,s9,.inr ⟨rfl,rfl,hlp⟩⟩
     ·exact absurd hz (by simp)
    ·have hk0:k=0:=by omega
     subst hk0
     refine fin ?_
     rcases hcase with ⟨rfl,y,l3,rfl,hl3,hkm,hlp⟩|⟨rfl,_,hno⟩
     ·refine .inl ⟨rfl,y,rfl,?_⟩
      rw[hlp]
      cases n with
      | zero=>rw[eK,hkm];simp
      | succ n=>rw[eK,hkm];simp
     ·exact .inr ⟨rfl,hno⟩
   ·have s2:=s1.call1 f2 e2 (.tail .head)
    have hm2:gv one (R+1) l=none:=by
     conv=>lhs;unfold gv
     rw[hm]
    rw[hm2]at r
    refine aQ s2 fun q2 h3 s3=>?_
    refine aM s3 bd hc ho2 .head fun h4 s4=>?_
    refine pH ?_
    refine LV (h':=h4) fun p t=>?_
    refine aH t ?_
    refine GX ks hk2 hk3 (RK _) (s4.get (.tail _ (.tail _ (.head _)))) (fun h' _=>RK h') fun l5 h5 f5 e5=>?_
    have s5:=s4.call1 f5 e5 (.tail (.tail .head))
    refine aP (fun n vs h'=>vs=[I 0]∧h'=h5) 0 ⟨rfl,rfl⟩ ?_
    rintro n vs h' ⟨rfl,rfl⟩
    unfold jZ
    refine cg ?_
    refine ah (fun hb=>absurd hb (by simp)) (fun _=>?_)
    refine aK s5 hc (.head _) ?_
    refine aM s5 bd hc ho2 (.tail .head) fun h8 s8=>?_
    refine aK s8 hc (.tail _ (.head _)) ?_
    exact r.bad _ _ _ rfl s8.fr (s8.get (.tail _ (.tail _ (.head _)))) hc ho2
end
end
end
end Go.Proofs.YtbhphjpgjgigpaaGreatDoor.AL
