import Derived.Test.YtbhphjpgjgigpaaGreatDoorAI3
import Derived.Laws.RangeString
import Derived.Laws.RangeAny
set_option linter.all false
set_option autoImplicit true
set_option relaxedAutoImplicit true
set_option maxRecDepth 100000
namespace Go.Proofs.YtbhphjpgjgigpaaGreatDoor.AL
noncomputable section
section
variable [Tabs]
def ll:List Str→List Int→Int→Option Int
 | k::ks,v::vs,b=>match iM k v with
   | some n=>ll ks vs (orI .u32 b n)
   | none=>none
 | _,_,b=>some b
def fM (op:Nat) (vs:List Int):Option Int:=
 if (cS (aZ op)).length=vs.length then ll (cS (aZ op)) vs (Gp op) else none
theorem Jn {ks:List Str}{vs:List Int}{i:Nat}(h1:i<ks.length) (h2:i<vs.length) (b:Int):ll (ks.drop i) (vs.drop i) b=match iM ks[i] vs[i] with|some n=>ll (ks.drop (i+1)) (vs.drop (i+1)) (orI .u32 b n)|none=>none:=by
 rw[List.drop_eq_getElem_cons h1,List.drop_eq_getElem_cons h2,ll]
omit [Tabs] in
theorem xi:∀ r∈tbl,(cS r.kinds).length≤3:=by decide
theorem LQ (hF:ct) (hL:dq) {op:Nat}(ho:op<tbl.length) (vs:List Int) (hv:∀ v∈vs,dt v) {fv:AV}{h:ab}(r:Row (fun v:Int=>[I v]) 1 h fv vs) {Q:QT}(q:PutK (fM op vs) h Q):C nV [.agg [I (op:Nat),fv]] h Q:=by
 refine H4 _ _ _ ?_
 unfold Jr
 have hfv:fv.isTup=false∧fv.cells=[fv]:=by
  have:=r.1;unfold uC at this;split at this<;>first|exact⟨rfl,rfl⟩|cases this
 refine dF (St.start h) rfl fun i h1 s1=>?_
 have e1:(AV.agg [I (op:Nat),fv]).cells=[I (op:Nat),fv]:=rfl
 rw[e1]at s1
 (repeat (first|refine an ?_|refine aj ‹_› (.head _) rfl ?_))
 refine L3 ho fun h2 f2=>?_
 have s2:=s1.call f2
 (repeat refine bi ?_)
 have hn:B2 op≠[]:=by rw[xE ho];exact Me _ (by simp)
 refine ag (fun hb=>absurd (by simpa using hb) hn) (fun _=>?_)
 (repeat (first|refine an ?_|refine aj ‹_› (.head _) rfl ?_))
 refine TU ho _ ?_
 show ACall Pg lz _ _ _
 refine SN _ fun h3 f3=>?_
 have s3:=s2.call f3
 refine⟨aj s3 (.head _) rfl rfl,?_⟩
 refine Uh ho _ ?_
 show ACall Pg je _ _ _
 refine Se hF (by simp) fun h4 f4=>?_
 have s4:=s3.call f4
 rw[← g9 ho,← OL ho]
 have hk:∀ k∈cS (aZ op),k∈So:=fun k hk=>Rn tbl[op] (by simp) k (by rw[← g9 ho];exact hk)
 (repeat (first|refine an ?_|refine dy ?_|refine aj ‹_› (.head _) rfl ?_))
 refine (r.fr s4.fr).len ?_
 refine cE ?_
 refine ag (fun hl=>?_) (fun hl=>?_)<;>simp only[za,zb,zc,zd,ze,zf,zg,zh,zi,u8i,zj,zk,zl]at hl
 ·exact q.none s4.fr 0 (by unfold fM;rw[if_neg (by omega)])
 have hl:(cS (aZ op)).length=vs.length:=by omega
 unfold fM at q
 rw[if_pos hl]at q
 have h3:(cS (aZ op)).length≤3:=by rw[g9 ho];exact xi _ (by simp)
 (repeat refine dy ?_)
 have RK:∀ h,Row (fun x=>[T x]) 1 h (.snap (cS (aZ op)).length ((cS (aZ op)).flatMap fun x=>[T x])) (cS (aZ op)):=fun h=>Row.snap (enc:=fun x=>[T x]) (fun _=>rfl) _
 refine aR (fun n vs' h'=>St h [] h' [(i,true,.cells [I (op:Nat),fv])]∧∃ (j:Nat) (x y:AV) (b:Int),vs'=[x,y,U32 b,I (j:Nat)]∧n+j=vs.length∧ll (cS (aZ op)) vs (Gp op)=ll ((cS (aZ op)).drop j) (vs.drop j) b) vs.length ⟨s4,0,_,_,_,rfl,by omega,rfl⟩ ?_
 rintro n vs' h5 ⟨s5,j,x,y,b,rfl,hn,hc⟩
 unfold yK
 (repeat refine aP ?_)
 refine ag (fun hb=>?_) (fun hb=>?_)<;>simp only[za,zb,zc,zd,ze,zf,zg,zh,zi,u8i,zj,zk,zl]at hb
 ·have hj:j<(cS (aZ op)).length:=hb
  refine (RK h5).idx (fun _=>rfl) hj fun p t=>?_
  refine aE t ?_
  (repeat (first|refine an ?_|refine aj ‹_› (.head _) rfl ?_))
  refine (r.fr s5.fr).idx (fun _=>rfl) (show j<vs.length by omega) fun p2 t2=>?_
  refine aE t2 ?_
  rw[Jn hj (by omega)]at hc
  refine Un hL (hk _ (by simp)) _ (hv _ (by simp)) fun b2 h6 f6 hb2=>?_
  have s6:=s5.call f6
  (repeat (first|refine ax rfl ?_|refine dA ?_))
  cases hp:iM (cS (aZ op))[j] vs[j] with
  | none=>
    refine ag (fun _=>?_) (fun h=>by cases h)
    rw[hp]at hc
    exact q.none s6.fr 0 hc
  | some m=>
    refine ag (fun h=>by cases h) (fun _=>?_)
    rw[hp]at hc
    have:=hb2 m hp
    subst this
    refine qY ?_
    refine aH (by omega) ?_
    exact⟨n-1,by omega,s6,j+1,_,_,_,rfl,by omega,hc⟩
 ·have hj:vs.length≤j:=by omega
  rw[List.drop_of_length_le (by omega),List.drop_of_length_le (by omega)]at hc
  exact q.some s5.fr (by rw[hc];simp[ll])
theorem GZ (hF:ct) (hL:dq) {op:Nat}(ho:op<tbl.length) (vs:List Int) (hv:∀ v∈vs,dt v) {fv:AV}{h:ab}(r:Row (fun v:Int=>[I v]) 1 h fv vs) {Q:QT}(k:∀ h',Fr [] h h'→Q (B (fM op vs).isSome) h'):C mT [.agg [I (op:Nat),fv]] h Q:=by
 refine Fd _ _ _ ?_
 unfold Ep
 refine dF (St.start h) rfl fun i h1 s1=>?_
 (repeat refine aW ‹_› (.head _) (nle rfl) ?_)
 refine LQ hF hL ho vs hv (r.fr s1.fr) fun b h2 f2 _=>?_
 (repeat refine ax rfl ?_)
 exact k _ (s1.call f2).fr
def Pv (b:Int):List Int:=[IntKind.u8.wrap (F5 .u32 b 24),IntKind.u8.wrap (F5 .u32 b 16),IntKind.u8.wrap (F5 .u32 b 8),IntKind.u8.wrap b]
def CY (op:Nat) (vs:List Int):Option (List Int):=(fM op vs).map fun b=>(Pv b).drop (4-jt op)
abbrev BI (n:Int):AV:=.lit (.int .u8 n)
theorem MO (hF:ct) (hL:dq) {op:Nat}(ho:op<tbl.length) (vs:List Int) (hv:∀ v∈vs,dt v) {bs:List Int}(he:CY op vs=some bs) {fv:AV}{h:ab}(r:Row (fun v:Int=>[I v]) 1 h fv vs) {Q:QT}(k:∀ h',Fr [] h h'→Q (.tup [.snap bs.length (bs.flatMap fun x=>[BI x]),B true]) h'):C pm [.agg [I (op:Nat),fv]] h Q:=by
 refine CU _ _ _ ?_
 unfold Ay
 refine dF (St.start h) rfl fun i h1 s1=>?_
 (repeat refine aW ‹_› (.head _) (nle rfl) ?_)
 unfold CY at he
 cases hc:fM op vs with
 | none=>rw[hc]at he;cases he
 | some b0=>
 rw[hc]at he
 refine LQ hF hL ho vs hv (r.fr s1.fr) fun b h2 f2 hb=>?_
 have:=hb b0 hc
 subst this
 have s2:=s1.call f2
 rw[hc]
 (repeat (first|refine ax rfl ?_|refine dA ?_))
 refine ag (fun h=>by cases h) (fun _=>?_)
 refine sb (by decide) ?_
 refine eG ?_
 refine sb (by decide) ?_
 refine eG ?_
 refine sb (by decide) ?_
 refine eG ?_
 refine eG ?_
 (repeat (first|refine an ?_|refine aj ‹_› (.head _) rfl ?_|refine aG rfl rfl ?_))
 refine LY ho fun h3 f3=>?_
 have s3:=s2.call f3
 have hsz:jt op=2∨jt op=4:=by unfold jt;split<;>simp
 simp only[Option.map_some,Option.some.injEq]at he
 rcases hsz with e|e<;>rw[e]at he ⊢<;>subst he
 ·refine dD (by decide) ?_
  refine (⟨(⟨⟨by decide,by decide,by decide⟩,?_⟩:gK 1 (.full 4 _) (some (I 2)) none _)⟩:lC 1 (.full 4 _) (some (I 2)) none _)
  refine ph (n:=2) (cs:=[BI _,BI _]) (by decide) (Rd.snap rfl) fun h4 f4=>?_
  exact k _ (s3.call f4).fr
 ·refine dD (by decide) ?_
  refine (⟨(⟨⟨by decide,by decide,by decide⟩,?_⟩:gK 1 (.full 4 _) (some (I 0)) none _)⟩:lC 1 (.full 4 _) (some (I 0)) none _)
  refine ph (n:=4) (cs:=[BI _,BI _,BI _,BI _]) (by decide) (Rd.snap rfl) fun h4 f4=>?_
  exact k _ (s3.call f4).fr
end
section
variable [Tabs]
abbrev R32 (n:Nat):AV:=.lit (.int .i32 (n:Nat))
def UN (fv:AV) (p:Nat→Bool):Prop:=∀ (c:Nat) (h:ab) (Q:QT),Q (B (p c)) h→CV fv [R32 c] h Q
theorem Ms {h0 h:ab}{M:List Nat}{L:Own}{l:Str}{i k:Nat}(s:St h0 M h ((i,true,.siter ⟨⟨l⟩⟩ k)::L)) {K:QT}(k0:l.length≤k→K (.tup [B false]) h)
  (k1:∀ (hk:k<l.length) (r w:Nat) (h':ab),St h0 M h' ((i,true,.siter ⟨⟨l⟩⟩ (k+w))::L)→1≤w→(l[k].toNat<128→r=l[k].toNat∧w=1)→(128≤l[k].toNat→128≤r)→K (.tup [B true,I (k:Nat),R32 r]) h'):vU (.ptr i 0) h K:=⟨by
 simp only[qK,s.get (.head _)]
 have hsz:(⟨⟨l⟩⟩:ByteArray).size=l.length:=rfl
 split
 ·rename_i hk
  have hk':k<l.length:=hk
  have hget:((⟨⟨l⟩⟩:ByteArray)[k]'hk)=l[k]:=rfl
  rcases Nat.lt_or_ge l[k].toNat 128 with ha|ha
  ·have:=decode_ascii ⟨⟨l⟩⟩ k hk (by rw[hget];exact ha)
   rw[this,hget]
   exact k1 hk' _ 1 _ (s.turn .head) (Nat.le_refl _) (fun _=>⟨rfl,rfl⟩) (fun h=>by omega)
  ·obtain⟨g1,g2⟩:=decode_high ⟨⟨l⟩⟩ k hk (by rw[hget];exact ha)
   exact k1 hk' _ _ _ (s.turn .head) g2 (fun h=>by omega) (fun _=>g1)
 ·exact k0 (by omega)⟩
theorem takeWhile_self {p:UInt8→Bool}:∀ {l:Str},l.takeWhile p=l↔∀ x∈l,p x=true
 | []=>by simp
 | a::l=>by
   cases h:p a with
   | true=>rw[List.takeWhile_cons_of_pos h];simp[h,takeWhile_self (l:=l)]
   | false=>rw[List.takeWhile_cons_of_neg (by simp[h])];simp[h]
theorem uI {p:UInt8→Bool}{l:Str}(h:∀ j (hj:j<l.length),p l[j]=true):l.takeWhile p=l:=by
 rw[takeWhile_self]
 intro x hx
 obtain⟨j,hj,rfl⟩:=List.getElem_of_mem hx
 exact h j hj
theorem pq {p:UInt8→Bool}{l:Str}{k:Nat}(hk:k<l.length) (h:∀ j (hj:j<k),p (l[j]'(by omega))=true) (hn:p l[k]=false):l.takeWhile p=l.take k:=by
 conv=>lhs;rw[← List.take_append_drop k l]
 rw[List.takeWhile_append_of_pos,List.drop_eq_getElem_cons hk,List.takeWhile_cons_of_neg (by simp[hn]),List.append_nil]
 intro x hx
 obtain⟨j,hj,rfl⟩:=List.getElem_of_mem hx
 rw[List.length_take]at hj
 rw[List.getElem_take]
 exact h j (by omega)
theorem OV {fv:AV}{p:Nat→Bool}(ht:UN fv p) (hp:∀ c,128≤c→p c=false) (l:Str) {h:ab}{Q:QT}(k:∀ h',Fr [] h h'→Q (T (l.takeWhile fun c=>p c.toNat)) h'):C cF [T l,fv] h Q:=by
 refine La _ _ _ _ ?_
 unfold LK
 refine Es (St.start h) fun i h1 s1=>?_
 refine aR (fun n vs h'=>∃ k:Nat,(∃ x,vs=[x])∧n+k=l.length∧St h [] h' [(i,true,.siter ⟨⟨l⟩⟩ k)]∧∀ j (hj:j<l.length),j<k→p l[j].toNat=true) l.length ⟨0,⟨_,rfl⟩,by omega,s1,fun j _ hj=>by omega⟩ ?_
 rintro n vs h' ⟨m,⟨x,rfl⟩,hn,s2,ha⟩
 unfold Bg
 refine Ms s2 (fun hk=>?_) fun hk r w h3 s3 hw h7 h8=>?_
 ·(repeat refine ax rfl ?_)
  have:=k h' s2.fr
  rw[uI fun j hj=>ha j hj (by omega)]at this
  exact this
 ·(repeat refine ax rfl ?_)
  refine ht r _ _ ?_
  (repeat refine dA ?_)
  rcases Nat.lt_or_ge l[m].toNat 128 with h9|h9
  ·obtain⟨rfl,rfl⟩:=h7 h9
   cases hpm:p l[m].toNat with
   | true=>
     refine ag (fun h=>by cases h) (fun _=>?_)
     refine⟨n-1,by omega,m+1,⟨_,rfl⟩,by omega,s3,fun j hj hj2=>?_⟩
     rcases Nat.lt_or_eq_of_le (Nat.le_of_lt_succ hj2) with h1|h1
     ·exact ha j hj h1
     ·subst h1;exact hpm
   | false=>
     refine ag (fun _=>?_) (fun h=>by cases h)
     refine mK (by omega) (by omega) ?_
     have:=k h3 s3.fr
     rw[pq hk (fun j hj=>ha j (by omega) hj) hpm]at this
     simpa using this
  ·rw[hp r (h8 h9)]
   refine ag (fun _=>?_) (fun h=>by cases h)
   refine mK (by omega) (by omega) ?_
   have:=k h3 s3.fr
   rw[pq hk (fun j hj=>ha j (by omega) hj) (hp _ h9)]at this
   simpa using this
def x0 (c:Nat):Bool:=(decide (97≤c)&&decide (c≤122))||decide (c=95)
def dZ (c:Nat):Bool:=decide (48≤c)&&decide (c≤57)
def j8 (c:Nat):Bool:=x0 c||dZ c
def yh (c:Nat):Bool:=dZ c||(decide (97≤c)&&decide (c≤102))
theorem rz {a b:Nat}:decide ((a:Int)≤(b:Int))=decide (a≤b):=by rw[Bool.eq_iff_iff,decide_eq_true_eq,decide_eq_true_eq];omega
theorem TM {a b:Nat}:decide ((a:Int)=(b:Int))=decide (a=b):=by rw[Bool.eq_iff_iff,decide_eq_true_eq,decide_eq_true_eq];omega
theorem OX (c:Nat) {h:ab}{Q:QT}(k:Q (B (x0 c)) h):C o8 [R32 c] h Q:=by
 refine Cx _ _ _ ?_
 unfold B3
 have e1:decide ((97:Int)≤c)=decide (97≤c):=rz (a:=97)
 have e2:decide ((c:Int)≤122)=decide (c≤122):=rz (b:=122)
 have e3:decide ((c:Int)=95)=decide (c=95):=TM (b:=95)
 unfold x0 at k
 refine cy ?_
 rw[e1]
 cases h1:decide (97≤c) with
 | true=>
   refine ag (fun _=>?_) (fun h=>by cases h)
   rw[h1,Bool.true_and]at k
   refine mf ?_
   rw[e2]
   cases h2:decide (c≤122) with
   | true=>
     refine ag (fun _=>?_) (fun h=>by cases h)
     rw[h2,Bool.true_or]at k;exact k
   | false=>
     refine ag (fun h=>by cases h) (fun _=>?_)
     refine aB ?_
     rw[e3];rw[h2,Bool.false_or]at k;exact k
 | false=>
   refine ag (fun h=>by cases h) (fun _=>?_)
   refine aB ?_
   rw[e3];rw[h1,Bool.false_and,Bool.false_or]at k;exact k
theorem wg (c:Nat) {h:ab}{Q:QT}(k:Q (B (dZ c)) h):C cK [R32 c] h Q:=by
 refine Cq _ _ _ ?_
 unfold AZ
 have e1:decide ((48:Int)≤c)=decide (48≤c):=rz (a:=48)
 have e2:decide ((c:Int)≤57)=decide (c≤57):=rz (b:=57)
 unfold dZ at k
 refine cy ?_
 rw[e1]
 cases h1:decide (48≤c) with
 | true=>
   refine ag (fun _=>?_) (fun h=>by cases h)
   refine mf ?_
   rw[h1,Bool.true_and]at k
   rw[e2];exact k
 | false=>
   refine ag (fun h=>by cases h) (fun _=>?_)
   rw[h1,Bool.false_and]at k;exact k
theorem QN (c:Nat) {h:ab}{Q:QT}(k:Q (B (j8 c)) h):C dJ [R32 c] h Q:=by
 refine CO _ _ _ ?_
 unfold Ah
 refine OX c ?_
 unfold j8 at k
 cases h1:x0 c with
 | true=>
   refine ag (fun _=>?_) (fun h=>by cases h)
   rw[h1,Bool.true_or]at k;exact k
 | false=>
   refine ag (fun h=>by cases h) (fun _=>?_)
   rw[h1,Bool.false_or]at k
   exact wg c k
theorem T3 (c:Nat) {h:ab}{Q:QT}(k:Q (B (yh c)) h):C jH [R32 c] h Q:=by
 refine GN _ _ _ ?_
 unfold Hr
 refine wg c ?_
 unfold yh at k
 have e1:decide ((97:Int)≤c)=decide (97≤c):=rz (a:=97)
 have e2:decide ((c:Int)≤102)=decide (c≤102):=rz (b:=102)
 cases h1:dZ c with
 | true=>
   refine ag (fun _=>?_) (fun h=>by cases h)
   rw[h1,Bool.true_or]at k;exact k
 | false=>
   refine ag (fun h=>by cases h) (fun _=>?_)
   rw[h1,Bool.false_or]at k
   refine cy ?_
   rw[e1]
   cases h2:decide (97≤c) with
   | true=>
     refine gd (ag (fun _=>?_) (fun h=>by cases h)) ⟨_,rfl⟩
     rw[h2,Bool.true_and]at k
     refine mf ?_
     rw[e2];exact k
   | false=>
     refine gd (ag (fun h=>by cases h) (fun _=>?_)) ⟨_,rfl⟩
     rw[h2,Bool.false_and]at k;exact k
theorem rj (l:Str) {h:ab}{Q:QT}(k:∀ h',Fr [] h h'→Q (T (l.takeWhile fun c=>j8 c.toNat)) h'):C cF [T l,.fn (.func dJ) [] []] h Q:=
 OV (fv:=.fn (.func dJ) [] []) (p:=j8) (fun c h Q k=>QN c k) (fun c hc=>by simp[j8,x0,dZ];omega) l k
theorem Ag (l:Str) {h:ab}{Q:QT}(k:∀ h',Fr [] h h'→Q (T (l.takeWhile fun c=>dZ c.toNat)) h'):C cF [T l,.fn (.func cK) [] []] h Q:=
 OV (fv:=.fn (.func cK) [] []) (p:=dZ) (fun c h Q k=>wg c k) (fun c hc=>by simp[dZ];omega) l k
theorem HP (l:Str) {h:ab}{Q:QT}(k:∀ h',Fr [] h h'→Q (T (l.takeWhile fun c=>yh c.toNat)) h'):C cF [T l,.fn (.func jH) [] []] h Q:=
 OV (fv:=.fn (.func jH) [] []) (p:=yh) (fun c h Q k=>T3 c k) (fun c hc=>by simp[yh,dZ];omega) l k
def sJ (s:Str):Bool:=match s with
 | []=>false
 | c::t=>decide (s.length≤12)&&(!dZ c.toNat&&(s.all (fun c=>j8 c.toNat)&&(decide (c≠114)||(t.isEmpty||!(t.all fun c=>dZ c.toNat)))))
theorem pX (p:UInt8→Bool) (l:Str):decide (l.takeWhile p=l)=l.all p:=by
 rw[Bool.eq_iff_iff];simp[takeWhile_self]
theorem RT (s:Str) {h:ab}{Q:QT}(k:∀ h',Fr [] h h'→Q (B (sJ s)) h'):C j4 [T s] h Q:=by
 refine Fh _ _ _ ?_
 unfold Dk
 cases s with
 | nil=>(repeat refine bi ?_);exact k _ (Fr.refl _ _)
 | cons c t=>
 dsimp only[sJ]at k
 (repeat (first|refine bD ?_|refine cO ?_|refine bi ?_))
 refine ag (fun hl=>?_) (fun hl=>?_)<;>simp only[za,zb,zc,zd,ze,zf,zg,zh,zi,u8i,zj,zk,zl]at hl
 ·have e:decide ((c::t).length≤12)=false:=by simp at hl ⊢;omega
  rw[e,Bool.false_and]at k
  exact k _ (Fr.refl _ _)
 have e:decide ((c::t).length≤12)=true:=by simp at hl ⊢;omega
 rw[e,Bool.true_and]at k
 refine fK (by omega) (by simp) ?_
 refine eG ?_
 have e3:IntKind.i32.wrap ((c::t)[Int.toNat 0].toNat:Int)=(c.toNat:Nat):=by
  have:=c.toNat_lt
  simp[IntKind.wrap,IntKind.bits,IntKind.signed];omega
 rw[e3]
 refine wg c.toNat ?_
 cases h2:dZ c.toNat with
 | true=>
   refine ag (fun _=>?_) (fun h=>by cases h)
   rw[h2]at k
   exact k _ (Fr.refl _ _)
 | false=>
 refine ag (fun h=>by cases h) (fun _=>?_)
 rw[h2]at k
 simp only[Bool.not_false,Bool.true_and]at k
 refine rj _ fun h1 f1=>?_
 refine tL ?_
 rw[show decide ((c::t).takeWhile (fun c=>j8 c.toNat)≠c::t)=!((c::t).all fun c=>j8 c.toNat) by rw[← pX];simp]
 cases h3:(c::t).all fun c=>j8 c.toNat with
 | false=>
   refine ag (fun _=>?_) (fun h=>by cases h)
   rw[h3,Bool.false_and]at k
   exact k _ f1
 | true=>
 refine ag (fun h=>by cases h) (fun _=>?_)
 rw[h3,Bool.true_and]at k
 refine fK (by omega) (by simp) ?_
 refine cE ?_
 have e4:decide ((((c::t)[Int.toNat 0].toNat:Nat):Int)≠114)=decide (c≠114):=by
  rw[Bool.eq_iff_iff];simp[← UInt8.toNat_inj];omega
 rw[e4]
 cases h4:decide (c≠114) with
 | true=>
   refine ag (fun _=>?_) (fun h=>by cases h)
   rw[h4,Bool.true_or]at k
   exact k _ f1
 | false=>
 refine ag (fun h=>by cases h) (fun _=>?_)
 rw[h4,Bool.false_or]at k
 (repeat (first|refine bD ?_|refine aB ?_))
 cases t with
 | nil=>refine ag (fun _=>?_) (fun hb=>(by exfalso;first|(simp at hb;done)|(simp at hb;omega)|(revert hb;decide)|omega));exact k _ f1
 | cons d t=>
 refine ag (fun h=>by simp at h;omega) (fun _=>?_)
 refine gm (by omega) (by simp;omega) ?_
 refine gm (by omega) (by simp;omega) ?_
 refine Ag _ fun h5 f5=>?_
 refine tL ?_
 have:=k h5 (f1.trans f5 (by simp))
 rw[show ((c::d::t).drop (Int.toNat 1))=d::t from rfl]
 rw[show decide ((d::t).takeWhile (fun c=>dZ c.toNat)≠d::t)=!((d::t).all fun c=>dZ c.toNat) by rw[← pX];simp]
 exact this
end
section
variable [Tabs]
inductive Ex where
 | none
 | num (n:Nat)
 | name (s:Str)
 | here
 | neg (e:Ex)
 | bin (k:Nat) (a b:Ex)
 deriving DecidableEq
def cY:Ex→List AV
 | .none=>[I 0,I 0,T [],.full 0 []]
 | .num n=>[I 1,I (n:Nat),T [],.full 0 []]
 | .name s=>[I 2,I 0,T s,.full 0 []]
 | .here=>[I 3,I 0,T [],.full 0 []]
 | .neg e=>[I 4,I 0,T [],.full 1 (cY e)]
 | .bin k a b=>[I (k:Nat),I 0,T [],.full 2 (cY a++cY b)]
theorem ay (e:Ex):(cY e).length=4:=by cases e<;>rfl
theorem bW (e:Ex):(cY e).all AV.one=true:=by cases e<;>rfl
abbrev pO (l:Str) (d:Nat) (b:Bool):AObj:=.cells [T l,I (d:Nat),B b]
abbrev blk (l:Str):Str:=lW 32 l
theorem nJ (c:UInt8):∀ l:Str,lW c (lW c l)=lW c l
 | []=>rfl
 | x::l=>by
   by_cases h:x=c
   ·rw[lW,if_pos h];exact nJ c l
   ·rw[lW,if_neg h,lW,if_neg h]
theorem uj (c:UInt8):∀ l:Str,(lW c l).length≤l.length
 | []=>by simp[lW]
 | x::l=>by
   have:=uj c l
   unfold lW;split<;>simp<;>omega
section
variable {i d:Nat}{l:Str}{h:ab}{Q:QT}
theorem qy {b:Bool}(e:h[i]?=some (pO l d b)) (k:∀ h',Fr [i] h h'→h'[i]?=some (pO l d true)→Q (.agg (cY .none)) h'):C bP [.ptr i 0] h Q:=by
 refine uA _ _ _ ?_
 unfold pz
 have s:=St.start1 e
 refine bk s fun j h1 s1=>?_
 (repeat (first|refine aq ?_|refine an ?_))
 refine aF s1 (.tail .head) rfl rfl rfl (nle rfl) fun h2 s2=>?_
 (repeat refine aO rfl ?_)
 refine aF s2 .head rfl rfl rfl (nle rfl) fun h3 s3=>?_
 (repeat refine aW ‹_› (.head _) (nle rfl) ?_)
 exact k _ s3.fr (s3.get (.tail _ (.head _)))
theorem ub {b:Bool}(e:h[i]?=some (pO l d b)) (k:∀ h',Fr [i] h h'→h'[i]?=some (pO (blk l) d b)→Q (.tup []) h'):C eH [.ptr i 0] h Q:=by
 refine rM _ _ _ ?_
 unfold na
 have s:=St.start1 e
 (repeat (first|refine aq ?_|refine an ?_|refine aj ‹_› (.head _) rfl ?_))
 refine FL 32 (by decide) l ?_
 (repeat (first|refine aq ?_|refine an ?_))
 refine aF s .head rfl rfl rfl (nle rfl) fun h2 s2=>?_
 exact k _ s2.fr (s2.get (.head _))
theorem wY {m:Str}(e:h[i]?=some (pO l d false)) (k1:m.isPrefixOf (blk l)=true→∀ h',Fr [i] h h'→h'[i]?=some (pO ((blk l).drop m.length) d false)→Q (B true) h')
  (k0:m.isPrefixOf (blk l)=false→∀ h',Fr [i] h h'→h'[i]?=some (pO (blk l) d false)→Q (B false) h'):C cd [.ptr i 0,T m] h Q:=by
 refine mC _ _ _ _ ?_
 unfold k5
 refine ub e fun h1 f1 e1=>?_
 have s:=(St.start1 e).call1 f1 e1 .head
 (repeat (first|refine aq ?_|refine an ?_|refine aj ‹_› (.head _) rfl ?_))
 refine xb ?_
 (repeat refine dA ?_)
 cases hp:m.isPrefixOf (blk l) with
 | true=>
   refine ag (fun h=>by cases h) (fun _=>?_)
   have hle:=(List.isPrefixOf_iff_prefix.1 hp).length_le
   (repeat (first|refine aq ?_|refine an ?_|refine bD ?_|refine aj ‹_› (.head _) rfl ?_))
   refine gm (by omega) (by omega) ?_
   (repeat (first|refine aq ?_|refine an ?_))
   refine aF s .head rfl rfl rfl (nle rfl) fun h2 s2=>?_
   exact k1 hp _ s2.fr (s2.get (.head _))
 | false=>
   refine ag (fun _=>?_) (fun h=>by cases h)
   exact k0 hp _ s.fr (s.get (.head _))
theorem AP {m:Str}(e:h[i]?=some (pO l d true)) (k0:∀ h',Fr [i] h h'→h'[i]?=some (pO (blk l) d true)→Q (B false) h'):C cd [.ptr i 0,T m] h Q:=by
 refine mC _ _ _ _ ?_
 unfold k5
 refine ub e fun h1 f1 e1=>?_
 have s:=(St.start1 e).call1 f1 e1 .head
 (repeat (first|refine aq ?_|refine an ?_|refine aj ‹_› (.head _) rfl ?_))
 exact k0 _ s.fr (s.get (.head _))
def signsL:List Str:=[[],[],[],[46],[45],[43],[45],[42],[38],[124],[60,60],[62,62]]
abbrev sg (k:Nat):Str:=(signsL[k]?).getD []
def levelsL:List (List Nat):=[[9],[8],[10,11],[5,6],[7]]
def Lc (ks:List Nat):List AV:=[.full ks.length (ks.flatMap fun k=>[I (k:Nat)])]
theorem Ib (k:Q (.full signsL.length (signsL.flatMap fun x=>[T x])) h):C o9 [] h Q:=by
 refine Cz _ _ ?_
 unfold Ak
 (repeat refine aG rfl rfl ?_)
 exact k
theorem m4 (k:Q (.full levelsL.length (levelsL.flatMap Lc)) h):C gV [] h Q:=by
 refine A6 _ _ ?_
 unfold yQ
 (repeat refine aG rfl rfl ?_)
 exact k
def jI:List Nat→Str→Nat×Str
 | [],l=>(0,l)
 | k::ks,l=>if (sg k).isPrefixOf (blk l)=true then (k,(blk l).drop (sg k).length) else jI ks (blk l)
theorem Lw (ks:List Nat) (hk:∀ k∈ks,k<12) (hl:ks.length<1000) {v:AV}(r:Row (fun k:Nat=>[I (k:Nat)]) 1 h v ks) (e:h[i]?=some (pO l d false)) (hi:i<h.length)
  (hr:∀ h',Fr [i] h h'→Row (fun k:Nat=>[I (k:Nat)]) 1 h' v ks) (k:∀ h',Fr [i] h h'→h'[i]?=some (pO (jI ks l).2 d false)→Q (I ((jI ks l).1:Nat)) h'):C d9 [.ptr i 0,v] h Q:=by
 refine mt _ _ _ _ ?_
 unfold ln
 refine r.len ?_
 refine aR (fun n vs h'=>∃ (j:Nat) (b:AV) (l':Str),vs=[b,I (j:Nat)]∧n+j=ks.length∧Fr [i] h h'∧h'[i]?=some (pO l' d false)∧jI (ks.drop j) l'=jI ks l) ks.length ⟨0,_,l,rfl,by omega,Fr.refl _ _,e,rfl⟩ ?_
 rintro n vs h' ⟨j,b,l',rfl,hn,f1,e1,hm⟩
 unfold iQ
 (repeat refine aP ?_)
 refine ag (fun hb=>?_) (fun hb=>?_)<;>simp only[za,zb,zc,zd,ze,zf,zg,zh,zi,u8i,zj,zk,zl]at hb
 ·have hj:j<ks.length:=hb
  refine (hr h' f1).idx (fun _=>rfl) hj fun p t=>?_
  refine aE t ?_
  refine Ib ?_
  have hk12:ks[j]<signsL.length:=hk _ (by simp)
  refine (Row.full (h:=h') (enc:=fun x:Str=>[T x]) (fun _=>rfl) signsL).idx (fun _=>rfl) hk12 fun p t=>?_
  refine aE t ?_
  have hsg:signsL[ks[j]]=sg ks[j]:=by simp[sg,hk12]
  rw[List.drop_eq_getElem_cons hj,jI]at hm
  refine wY e1 (fun hp h2 f2 e2=>?_) (fun hp h2 f2 e2=>?_)
  ·refine ag (fun _=>?_) (fun h=>by cases h)
   rw[hsg]at hp e2
   rw[if_pos hp]at hm
   have:=k h2 (f1.trans f2 (by simp)) (by rw[← hm];exact e2)
   rw[← hm]at this;exact this
  ·refine ag (fun h=>by cases h) (fun _=>?_)
   rw[hsg]at hp
   rw[if_neg (by simp[hp])]at hm
   (repeat refine aH (by omega) ?_)
   exact⟨n-1,by omega,j+1,_,_,rfl,by omega,f1.trans f2 (by simp),e2,hm⟩
 ·rw[List.drop_of_length_le (by omega)]at hm
  have:=k h' f1 (by rw[← hm];exact e1)
  rw[← hm]at this;exact this
theorem Bs (ks:List Nat) (hk:∀ k∈ks,k<12) (hl:ks.length<1000) {v:AV}(r:Row (fun k:Nat=>[I (k:Nat)]) 1 h v ks) (e:h[i]?=some (pO l d true))
  (hr:∀ h',Fr [i] h h'→Row (fun k:Nat=>[I (k:Nat)]) 1 h' v ks) (k:∀ l' h',Fr [i] h h'→h'[i]?=some (pO l' d true)→Q (I 0) h'):C d9 [.ptr i 0,v] h Q:=by
 refine mt _ _ _ _ ?_
 unfold ln
 refine r.len ?_
 refine aR (fun n vs h'=>∃ (j:Nat) (b:AV) (l':Str),vs=[b,I (j:Nat)]∧n+j=ks.length∧Fr [i] h h'∧h'[i]?=some (pO l' d true)) ks.length ⟨0,_,l,rfl,by omega,Fr.refl _ _,e⟩ ?_
 rintro n vs h' ⟨j,b,l',rfl,hn,f1,e1⟩
 unfold iQ
 (repeat refine aP ?_)
 refine ag (fun hb=>?_) (fun hb=>?_)<;>simp only[za,zb,zc,zd,ze,zf,zg,zh,zi,u8i,zj,zk,zl]at hb
 ·have hj:j<ks.length:=hb
  refine (hr h' f1).idx (fun _=>rfl) hj fun p t=>?_
  refine aE t ?_
  refine Ib ?_
  have hk12:ks[j]<signsL.length:=hk _ (by simp)
  refine (Row.full (h:=h') (enc:=fun x:Str=>[T x]) (fun _=>rfl) signsL).idx (fun _=>rfl) hk12 fun p t=>?_
  refine aE t ?_
  refine AP e1 (fun h2 f2 e2=>?_)
  refine ag (fun h=>by cases h) (fun _=>?_)
  (repeat refine aH (by omega) ?_)
  exact⟨n-1,by omega,j+1,_,_,rfl,by omega,f1.trans f2 (by simp),e2⟩
 ·exact k _ h' f1 e1
end
structure PRes (i D:Nat) (m:Option (Ex×Str)) (h:ab) (Q:QT):Prop where
 good:∀ x l' h',m=some (x,l')→Fr [i] h h'→h'[i]?=some (pO l' D false)→Q (.agg (cY x)) h'
 bad:∀ cs l' h',m=none→Fr [i] h h'→h'[i]?=some (pO l' D true)→cs.length=4→cs.all AV.one=true→Q (.agg cs) h'
theorem PRes.fr {i D:Nat}{m:Option (Ex×Str)}{h h1:ab}{Q:QT}(r:PRes i D m h Q) (f:Fr [i] h h1):PRes i D m h1 Q:=
 ⟨fun x l' h' e f'=>r.good x l' h' e (f.trans f' (by simp)),fun cs l' h' e f'=>r.bad cs l' h' e (f.trans f' (by simp))⟩
abbrev PF:=Str→Option (Ex×Str)
def nu (f:PF):Prop:=∀ l x l',f l=some (x,l')→l'.length≤l.length
def wq (c:UInt8):Nat:=if 97≤c.toNat then c.toNat-97+10 else c.toNat-48
def CH (base:Nat):Str→Nat→Option Nat
 | [],n=>some n
 | c::cs,n=>if 4294967296≤n*base+wq c then none else CH base cs (n*base+wq c)
def oA (sub:PF) (ks:List Nat):Nat→Ex→Str→Option (Ex×Str)
 | 0,x,l=>if (jI ks l).1=0 then some (x,(jI ks l).2) else none
 | n+1,x,l=>if (jI ks l).1=0 then some (x,(jI ks l).2) else match sub (jI ks l).2 with
   | none=>none
   | some (y,l2)=>oA sub ks n (.bin (jI ks l).1 x y) l2
def rc (one:PF):Nat→PF
 | 0=>one
 | r+1=>fun l=>match rc one r l with
   | none=>none
   | some (x,l1)=>oA (rc one r) ((levelsL[4-r]?).getD []) l1.length x l1
def tw (two:PF):PF:=fun l=>match two l with
 | none=>none
 | some (x,l1)=>if ([41]:Str).isPrefixOf (blk l1)=true then some (x,(blk l1).drop 1) else none
def sf (one:PF):PF:=fun l=>match one l with
 | none=>none
 | some (x,l1)=>some (.neg x,l1)
def y4 (l:Str):Str:=l.takeWhile fun c=>j8 c.toNat
def Nw (l:Str):Str:=l.takeWhile fun c=>dZ c.toNat
def NB (l:Str):Str:=l.takeWhile fun c=>yh c.toNat
def ky (base:Nat) (l ds:Str):Option (Ex×Str):=match CH base ds 0 with
 | none=>none
 | some n=>if y4 (l.drop ds.length)=[] then some (.num n,l.drop ds.length) else none
def M5:PF:=fun l=>
 if Nw l≠[] then ky 10 l (Nw l)
 else if sJ (y4 l)=true then some (.name (y4 l),l.drop (y4 l).length) else none
def Mf:PF:=fun l=>
 if ([48,120]:Str).isPrefixOf l=true then (if NB (l.drop 2)≠[] then ky 16 (l.drop 2) (NB (l.drop 2)) else M5 l) else M5 l
def DQ (group minus:PF):PF:=fun l=>
 if ([40]:Str).isPrefixOf (blk l)=true then group ((blk l).drop 1)
 else if ([45]:Str).isPrefixOf (blk l)=true then minus ((blk l).drop 1)
 else if ([46]:Str).isPrefixOf (blk l)=true then some (.here,(blk l).drop 1)
 else Mf (blk l)
def NX:Nat→PF
 | 0=>DQ (fun _=>none) fun _=>none
 | d+1=>DQ (tw (rc (NX d) 5)) (sf (NX d))
def sK (l:Str):Option Ex:=match rc (NX 12) 5 l with
 | none=>none
 | some (x,l')=>if blk l'=[] then some x else none
theorem xU (ks:List Nat) (hk:∀ k∈ks,(sg k)≠[]):∀ l:Str,(jI ks l).2.length≤l.length∧((jI ks l).1≠0→(jI ks l).2.length<l.length):=by
 induction ks with
 | nil=>intro l;simp[jI]
 | cons k ks ih=>
   intro l
   unfold jI
   have hb:(blk l).length≤l.length:=uj 32 l
   split
   ·rename_i hp
    have hle:=(List.isPrefixOf_iff_prefix.1 hp).length_le
    have:0<(sg k).length:=List.length_pos_iff.2 (hk k (by simp))
    simp only[List.length_drop]
    exact⟨by omega,fun _=>by omega⟩
   ·obtain⟨h1,h2⟩:=ih (fun k hk'=>hk k (by simp[hk'])) (blk l)
    exact⟨by omega,fun h=>by have:=h2 h;omega⟩
theorem yG {sub:PF}(hs:nu sub) (ks:List Nat) (hk:∀ k∈ks,(sg k)≠[]):∀ n x,nu (oA sub ks n x)
 | 0,x,l,y,l',e=>by
   have:=(xU ks hk l).1
   unfold oA at e
   split at e
   ·cases e;exact this
   ·cases e
 | n+1,x,l,y,l',e=>by
   have:=(xU ks hk l).1
   unfold oA at e
   split at e
   ·cases e;exact this
   ·split at e
    ·cases e
    ·rename_i z l2 h2
     have h3:=hs _ _ _ h2
     have:=yG hs ks hk n _ _ _ _ e
     omega
theorem Eu:∀ ks∈levelsL,(∀ k∈ks,sg k≠[])∧(∀ k∈ks,k<12)∧ks.length<1000:=by decide
theorem Od {r:Nat}(h:r<5):(levelsL[r]?).getD []∈levelsL:=by
 have:r<levelsL.length:=h
 simp[this]
theorem vi {one:PF}(ho:nu one):∀ r,r≤5→nu (rc one r)
 | 0,_=>ho
 | r+1,hr=>fun l x l' e=>by
   unfold rc at e
   have ih:=vi ho r (by omega)
   cases h:rc one r l with
   | none=>rw[h]at e;cases e
   | some p=>
     obtain⟨y,l1⟩:=p
     rw[h]at e
     have h1:=ih _ _ _ h
     have:=yG ih _ (Eu _ (Od (by omega))).1 _ _ _ _ _ e
     omega
theorem Fi {two:PF}(h2:nu two):nu (tw two):=fun l x l' e=>by
 unfold tw at e
 cases h:two l with
 | none=>rw[h]at e;cases e
 | some p=>
   obtain⟨y,l1⟩:=p
   rw[h]at e
   have h1:=h2 _ _ _ h
   have hb:(blk l1).length≤l1.length:=uj 32 l1
   simp only at e
   split at e
   ·cases e;simp;omega
   ·cases e
theorem Fu {one:PF}(h2:nu one):nu (sf one):=fun l x l' e=>by
 unfold sf at e
 cases h:one l with
 | none=>rw[h]at e;cases e
 | some p=>
   obtain⟨y,l1⟩:=p
   rw[h]at e
   cases e
   exact h2 _ _ _ h
theorem tF (base:Nat) (l ds:Str) {x:Ex}{l':Str}(e:ky base l ds=some (x,l')):l'.length≤l.length:=by
 unfold ky at e
 split at e
 ·cases e
 ·split at e
  ·cases e;simp
  ·cases e
theorem AW:nu M5:=fun l x l' e=>by
 unfold M5 at e
 split at e
 ·exact tF _ _ _ e
 ·split at e
  ·cases e;simp
  ·cases e
theorem GV:nu Mf:=fun l x l' e=>by
 unfold Mf at e
 split at e
 ·split at e
  ·have:=tF _ _ _ e;simp at this;omega
  ·exact AW _ _ _ e
 ·exact AW _ _ _ e
theorem yE {group minus:PF}(hg:nu group) (hm:nu minus):nu (DQ group minus):=fun l x l' e=>by
 have hb:(blk l).length≤l.length:=uj 32 l
 unfold DQ at e
 split at e
 ·have:=hg _ _ _ e;simp at this;omega
 ·split at e
  ·have:=hm _ _ _ e;simp at this;omega
  ·split at e
   ·cases e;simp;omega
   ·have:=GV _ _ _ e;omega
theorem q0:∀ d,nu (NX d)
 | 0=>yE (fun l x l' e=>by cases e) (fun l x l' e=>by cases e)
 | d+1=>yE (Fi (vi (q0 d) 5 (Nat.le_refl _))) (Fu (q0 d))
end
section
variable [Tabs]
section
variable {i D:Nat}{l:Str}{h:ab}{Q:QT}
abbrev zE:List AV:=[I 0,I 0,T [],.full 0 []]
theorem U5 {cs:List AV}(h:cs.length=4):∃ a b c e,cs=[a,b,c,e]:=by
 match cs,h with
 | [a,b,c,e],_=>exact⟨a,b,c,e,rfl⟩
theorem SW {cs zs:List AV}(h:cs.length=4) (hz:zs.length=4):splice zs 0 cs=cs:=by
 simp[splice,h,hz]
theorem bl {h0 h:ab}{M:List Nat}{L L':Own}{j:Nat}{cs zs:List AV}{K:ab→Prop}(s:St h0 M h L) (hz:zs.length=4) (hc:cs.length=4) (ho:cs.all AV.one=true) (u:Sub L (j,true,.cells zs) L' (j,true,.cells cs))
  (k:∀ h',St h0 M h' L'→K h'):aw 4 (.ptr j 0) (.agg cs) h K:=by
 refine aF s (cs:=zs) (L':=L') ?_ rfl hc ho (by omega) k
 rw[show (AV.agg cs).cells=cs from rfl,SW hc hz];exact u
theorem bd {h0 h:ab}{M:List Nat}{L:Own}{j:Nat}{b:Bool}{cs:List AV}{K:AV→Prop}(s:St h0 M h L) (hc:cs.length=4) (u:(j,b,.cells cs)∈L) (k:K (.agg cs)):aD 4 (.ptr j 0) h K:=
 aW s u (by omega) (by rw[List.drop_zero,List.take_of_length_le (by omega)];exact k)
theorem bR:zE.length=4:=rfl
theorem Qq {cs:List AV}(hc:cs.length=4) (ho:cs.all AV.one=true) (e:h[i]?=some (pO l D false))
  (k1:y4 l=[]→∀ h',Fr [i] h h'→h'[i]?=some (pO l D false)→Q (.agg cs) h') (k0:y4 l≠[]→∀ h',Fr [i] h h'→h'[i]?=some (pO l D true)→Q (.agg zE) h'):C cr [.ptr i 0,.agg cs] h Q:=by
 refine l6 _ _ _ _ ?_
 unfold j0
 refine dF (St.start1 e) rfl fun j h1 s1=>?_
 refine bk s1 fun q h2 s2=>?_
 (repeat (first|refine aq ?_|refine an ?_|refine aj ‹_› (by first|exact .head _|exact .tail _ (.tail _ (.head _))) rfl ?_))
 refine rj l fun h3 f3=>?_
 have s3:=s2.call f3
 refine tL ?_
 refine ag (fun hb=>?_) (fun hb=>?_)<;>simp only[za,zb,zc,zd,ze,zf,zg,zh,zi,u8i,zj,zk,zl]at hb
 ·refine qy (s3.get (.tail _ (.tail _ (.head _)))) fun h4 f4 e4=>?_
  have s4:=s3.call1 f4 e4 (.tail (.tail .head))
  refine bl s4 bR (ay _) (bW _) .head fun h5 s5=>?_
  refine bd s5 (ay _) (.head _) ?_
  exact k0 hb _ s5.fr (s5.get (.tail _ (.tail _ (.head _))))
 ·have hb:y4 l=[]:=by
   unfold y4
   simpa using hb
  refine bd s3 hc (.tail _ (.head _)) ?_
  refine bl s3 bR hc ho .head fun h5 s5=>?_
  refine bd s5 hc (.head _) ?_
  exact k1 hb _ s5.fr (s5.get (.tail _ (.tail _ (.head _))))
theorem Kp {base:Nat}(hb:base≤16) (c:UInt8) (n:Nat) (hn:n<4294967296):n*base+wq c<9223372036854775807:=by
 have h1:=c.toNat_lt
 have h2:wq c<1000:=by unfold wq;split<;>omega
 have:n*base≤4294967296*16:=Nat.mul_le_mul (by omega) hb
 omega
theorem MP (base:Nat) (hb:base≤16) (ds:Str) (hds:∀ c∈ds,yh c.toNat=true) (hle:ds.length≤l.length) (e:h[i]?=some (pO l D false))
  (k1:∀ n,CH base ds 0=some n→∀ h',Fr [i] h h'→h'[i]?=some (pO (l.drop ds.length) D false)→Q (.agg (cY (.num n))) h')
  (k0:CH base ds 0=none→∀ h',Fr [i] h h'→h'[i]?=some (pO l D true)→Q (.agg zE) h'):C cg [.ptr i 0,T ds,I (base:Nat)] h Q:=by
 refine rI _ _ _ _ _ ?_
 unfold nz
 refine bk (St.start1 e) fun q h1 s1=>?_
 refine Es s1 fun j h2 s2=>?_
 refine aR (fun n vs h'=>∃ (k m:Nat),vs=[I (m:Nat)]∧m<4294967296∧n+k=ds.length∧St h [i] h' [(j,true,.siter ⟨⟨ds⟩⟩ k),(q,true,.cells zE),(i,true,pO l D false)]∧CH base (ds.drop k) m=CH base ds 0) ds.length ⟨0,0,rfl,by omega,by omega,s2,rfl⟩ ?_
 rintro n vs h' ⟨k,m,rfl,hm,hn,s3,hnum⟩
 unfold j3
 refine Ms s3 (fun hk=>?_) fun hk r w h4 s4 hw h7 h8=>?_
 ·rw[List.drop_of_length_le (by omega),CH]at hnum
  (repeat (first|refine aq ?_|refine an ?_|refine bD ?_|refine ax rfl ?_|refine aj ‹_› (by first|exact .tail _ (.head _)|exact .tail _ (.tail _ (.head _))) rfl ?_))
  refine gm (by omega) (by omega) ?_
  (repeat (first|refine aq ?_|refine an ?_))
  refine aF s3 (.tail (.tail .head)) rfl rfl rfl (nle rfl) fun h5 s5=>?_
  (repeat refine aO rfl ?_)
  refine bl s5 bR rfl rfl (.tail .head) fun h6 s6=>?_
  refine bd s6 rfl (.tail _ (.head _)) ?_
  exact k1 m hnum.symm _ s6.fr (s6.get (.tail _ (.tail _ (.head _))))
 ·have hhex:=hds ds[k] (by simp)
  have hlt:ds[k].toNat<128:=by
   unfold yh dZ at hhex;simp at hhex;omega
  obtain⟨rfl,rfl⟩:=h7 hlt
  rw[List.drop_eq_getElem_cons hk,CH]at hnum
  have hd:=Kp hb ds[k] m hm
  have hdv:wq ds[k]<1000:=by unfold wq;split<;>omega
  have hmb:(m:Int)*base=((m*base:Nat):Int):=by simp
  have fin:eI (I (wq ds[k]:Nat)) (I (m:Nat)) (.ptr q 0) (.ptr i 0) (I (base:Nat)) h4 (fun vs' h'=>∃ m_1,m_1<n∧∃ (k m:Nat),vs'=[I (m:Nat)]∧m<4294967296∧m_1+k=ds.length∧St h [i] h' [(j,true,.siter ⟨⟨ds⟩⟩ k),(q,true,.cells zE),(i,true,pO l D false)]∧CH base (ds.drop k) m=CH base ds 0) Q:=by
   unfold eI
   refine xm (by rw[hmb];omega) ?_
   rw[hmb]
   refine aH (by omega) ?_
   have e2:((m*base:Nat):Int)+(wq ds[k]:Nat)=((m*base+wq ds[k]:Nat):Int):=by simp
   rw[e2]
   refine cy ?_
   refine ag (fun hb=>?_) (fun hb=>?_)
   ·simp only[decide_eq_true_eq]at hb
    rw[if_pos (by omega)]at hnum
    refine qy (s4.get (.tail _ (.tail _ (.head _)))) fun h5 f5 e5=>?_
    have s5:=s4.call1 f5 e5 (.tail (.tail .head))
    refine bl s5 bR (ay _) (bW _) (.tail .head) fun h6 s6=>?_
    refine bd s6 (ay _) (.tail _ (.head _)) ?_
    exact k0 hnum.symm _ s6.fr (s6.get (.tail _ (.tail _ (.head _))))
   ·simp only[decide_eq_false_iff_not]at hb
    rw[if_neg (by omega)]at hnum
    exact⟨n-1,by omega,k+1,_,rfl,by omega,by omega,s4,hnum⟩
  (repeat refine ax rfl ?_)
  refine LA ?_
  refine eG ?_
  refine cy ?_
  refine ag (fun hb=>?_) (fun hb=>?_)
  ·simp only[decide_eq_true_eq]at hb
   refine LA ?_
   refine eG ?_
   have e1:IntKind.i64.wrap (IntKind.i32.wrap ((ds[k].toNat:Nat)-97))=((ds[k].toNat-97:Nat):Int):=by
    have:IntKind.i32.wrap ((ds[k].toNat:Nat)-97)=((ds[k].toNat-97:Nat):Int):=by
     simp[IntKind.wrap,IntKind.bits,IntKind.signed];omega
    rw[this];exact tV (by omega)
   rw[e1]
   refine aH (by omega) ?_
   have e2:((ds[k].toNat-97:Nat):Int)+10=(wq ds[k]:Nat):=by unfold wq;rw[if_pos (by omega)];omega
   rw[e2]
   exact fin
  ·simp only[decide_eq_false_iff_not]at hb
   have e1:IntKind.i64.wrap (IntKind.i32.wrap ((ds[k].toNat:Nat)-48))=(wq ds[k]:Nat):=by
    have h48:48≤ds[k].toNat:=by unfold yh dZ at hhex;simp at hhex;omega
    have:IntKind.i32.wrap ((ds[k].toNat:Nat)-48)=((ds[k].toNat-48:Nat):Int):=by
     simp[IntKind.wrap,IntKind.bits,IntKind.signed];omega
    rw[this,tV (by omega)]
    unfold wq;rw[if_neg (by omega)]
   rw[e1]
   exact fin
theorem Pr (l:Str):(y4 l).length≤l.length:=(List.takeWhile_sublist _).length_le
theorem OW (l:Str):(Nw l).length≤l.length:=(List.takeWhile_sublist _).length_le
theorem QI (l:Str):(NB l).length≤l.length:=(List.takeWhile_sublist _).length_le
theorem oY {p:UInt8→Bool}:∀ {l:Str}{c:UInt8},c∈l.takeWhile p→p c=true
 | [],c,h=>by simp at h
 | a::l,c,h=>by
   cases hp:p a with
   | true=>
     rw[List.takeWhile_cons_of_pos hp]at h
     rcases List.mem_cons.1 h with rfl|h
     ·exact hp
     ·exact oY h
   | false=>rw[List.takeWhile_cons_of_neg (by simp[hp])]at h;simp at h
theorem QR (l:Str):∀ c∈Nw l,yh c.toNat=true:=fun c hc=>by
 have:dZ c.toNat=true:=oY hc
 unfold yh;rw[this];rfl
theorem P9 (l:Str):∀ c∈NB l,yh c.toNat=true:=fun c hc=>oY hc
theorem yY (base:Nat) (hb:base≤16) (ds:Str) (hds:∀ c∈ds,yh c.toNat=true) (hle:ds.length≤l.length) (e:h[i]?=some (pO l D false)) (r:PRes i D (ky base l ds) h Q):
  C cg [.ptr i 0,T ds,I (base:Nat)] h fun t h1=>C cr [.ptr i 0,t] h1 Q:=by
 refine MP base hb ds hds hle e (fun n hn h1 f1 e1=>?_) (fun hn h1 f1 e1=>?_)
 ·have hm:ky base l ds=if y4 (l.drop ds.length)=[] then some (.num n,l.drop ds.length) else none:=by unfold ky;rw[hn]
  refine Qq (ay _) (bW _) e1 (fun h2 h3 f3 e3=>?_) (fun h2 h3 f3 e3=>?_)
  ·rw[if_pos h2]at hm
   exact r.good _ _ _ hm (f1.trans f3 (by simp)) e3
  ·rw[if_neg h2]at hm
   exact r.bad _ _ _ hm (f1.trans f3 (by simp)) e3 rfl rfl
 ·have hm:ky base l ds=none:=by unfold ky;rw[hn]
  refine l6 _ _ _ _ ?_
  unfold j0
  refine dF (St.start1 e1) rfl fun j h2 s2=>?_
  refine bk s2 fun q h3 s3=>?_
  (repeat (first|refine aq ?_|refine an ?_|refine aj ‹_› (by first|exact .head _|exact .tail _ (.tail _ (.head _))) rfl ?_))
  refine rj l fun h4 f4=>?_
  have s4:=s3.call f4
  refine tL ?_
  refine ag (fun hbb=>?_) (fun hbb=>?_)<;>simp only[za,zb,zc,zd,ze,zf,zg,zh,zi,u8i,zj,zk,zl]at hbb
  ·refine qy (s4.get (.tail _ (.tail _ (.head _)))) fun h5 f5 e5=>?_
   have s5:=s4.call1 f5 e5 (.tail (.tail .head))
   refine bl s5 bR (ay _) (bW _) .head fun h6 s6=>?_
   refine bd s6 (ay _) (.head _) ?_
   exact r.bad _ _ _ hm (f1.trans s6.fr (by simp)) (s6.get (.tail _ (.tail _ (.head _)))) rfl rfl
  ·refine bd s4 bR (.tail _ (.head _)) ?_
   refine bl s4 bR bR rfl .head fun h6 s6=>?_
   refine bd s6 bR (.head _) ?_
   exact r.bad _ _ _ hm (f1.trans s6.fr (by simp)) (s6.get (.tail _ (.tail _ (.head _)))) rfl rfl
def uX (f:FuncId) (args:List AV) (D:Nat) (m:PF):Prop:=∀ (l:Str) (h:ab) (Q:QT) (i:Nat),h[i]?=some (pO l D false)→PRes i D (m l) h Q→C f (.ptr i 0::args) h Q
theorem QE {two:PF}(ht:uX cq [I 0] D two):uX eT [] D (tw two):=fun l h Q i e r=>by
 refine tr _ _ _ ?_
 unfold oH
 refine bk (St.start1 e) fun q h1 s1=>?_
 refine ht l h1 _ i (s1.get (.tail _ (.head _))) ⟨fun x l' h2 hm f2 e2=>?_,fun cs l' h2 hm f2 e2 hc ho=>?_⟩
 ·have s2:=s1.call1 f2 e2 (.tail .head)
  have hm2:tw two l=if ([41]:Str).isPrefixOf (blk l')=true then some (x,(blk l').drop 1) else none:=by unfold tw;rw[hm]
  refine bk s2 fun q2 h3 s3=>?_
  refine bl s3 bR (ay _) (bW _) .head fun h4 s4=>?_
  refine wY (m:=[41]) (s4.get (.tail _ (.tail _ (.head _)))) (fun hp h5 f5 e5=>?_) (fun hp h5 f5 e5=>?_)
  ·have s5:=s4.call1 f5 e5 (.tail (.tail .head))
   rw[if_pos hp]at hm2
   refine dA ?_
   refine ag (fun h=>by cases h) (fun _=>?_)
   refine bd s5 (ay _) (.head _) ?_
   refine bl s5 bR (ay _) (bW _) (.tail .head) fun h6 s6=>?_
   refine bd s6 (ay _) (.tail _ (.head _)) ?_
   exact r.good _ _ _ hm2 s6.fr (s6.get (.tail _ (.tail _ (.head _))))
  ·have s5:=s4.call1 f5 e5 (.tail (.tail .head))
   rw[if_neg (by simp[hp])]at hm2
   refine dA ?_
   refine ag (fun _=>?_) (fun h=>by cases h)
   refine qy (s5.get (.tail _ (.tail _ (.head _)))) fun h6 f6 e6=>?_
   have s6:=s5.call1 f6 e6 (.tail (.tail .head))
   refine bl s6 bR (ay _) (bW _) (.tail .head) fun h7 s7=>?_
   refine bd s7 (ay _) (.tail _ (.head _)) ?_
   exact r.bad _ _ _ hm2 s7.fr (s7.get (.tail _ (.tail _ (.head _)))) rfl rfl
 ·have s2:=s1.call1 f2 e2 (.tail .head)
  have hm2:tw two l=none:=by unfold tw;rw[hm]
  refine bk s2 fun q2 h3 s3=>?_
  refine bl s3 bR hc ho .head fun h4 s4=>?_
  refine AP (m:=[41]) (s4.get (.tail _ (.tail _ (.head _)))) fun h5 f5 e5=>?_
  have s5:=s4.call1 f5 e5 (.tail (.tail .head))
  refine dA ?_
  refine ag (fun _=>?_) (fun h=>by cases h)
  refine qy (s5.get (.tail _ (.tail _ (.head _)))) fun h6 f6 e6=>?_
  have s6:=s5.call1 f6 e6 (.tail (.tail .head))
  refine bl s6 bR (ay _) (bW _) (.tail .head) fun h7 s7=>?_
  refine bd s7 (ay _) (.tail _ (.head _)) ?_
  exact r.bad _ _ _ hm2 s7.fr (s7.get (.tail _ (.tail _ (.head _)))) rfl rfl
theorem QS {one:PF}(ht:uX cN [] D one):uX eZ [] D (sf one):=fun l h Q i e r=>by
 refine tC _ _ _ ?_
 unfold oy
 refine bk (St.start1 e) fun q h1 s1=>?_
 refine ht l h1 _ i (s1.get (.tail _ (.head _))) ⟨fun x l' h2 hm f2 e2=>?_,fun cs l' h2 hm f2 e2 hc ho=>?_⟩
 ·have s2:=s1.call1 f2 e2 (.tail .head)
  have hm2:sf one l=some (.neg x,l'):=by unfold sf;rw[hm]
  refine aG rfl (by simp[AV.isTup,AV.cells,ay]) ?_
  rw[show ([AV.agg (cY x)].flatMap fun x=>x.cells)=cY x by simp[AV.cells]]
  (repeat refine aO rfl ?_)
  refine bl s2 bR rfl rfl .head fun h7 s7=>?_
  refine bd s7 rfl (.head _) ?_
  exact r.good _ _ _ hm2 s7.fr (s7.get (.tail _ (.head _)))
 ·have s2:=s1.call1 f2 e2 (.tail .head)
  have hm2:sf one l=none:=by unfold sf;rw[hm]
  refine aG rfl (by simp[AV.isTup,AV.cells,hc]) ?_
  (repeat refine aO rfl ?_)
  refine bl s2 bR rfl rfl .head fun h7 s7=>?_
  refine bd s7 rfl (.head _) ?_
  exact r.bad _ _ _ hm2 s7.fr (s7.get (.tail _ (.head _))) rfl rfl
theorem DT {f:FuncId}{m:PF}(hf:uX f [] (D+1) m) (hD:D<12):∀ (l:Str) (h:ab) (Q:QT) (i:Nat),h[i]?=some (pO l D false)→PRes i D (m l) h Q→C cI [.ptr i 0,.fn (.func f) [.ptr i 0] []] h Q:=fun l h Q i e r=>by
 refine kG _ _ _ _ ?_
 unfold jp
 refine bk (St.start1 e) fun q h1 s1=>?_
 (repeat (first|refine aq ?_|refine an ?_|refine cy ?_|refine aj ‹_› (by first|exact .head _|exact .tail _ (.head _)) rfl ?_))
 refine ag (fun hb=>absurd hb (by simp;omega)) (fun _=>?_)
 (repeat (first|refine aq ?_|refine an ?_|refine aH (by omega) ?_|refine aj ‹_› (by first|exact .head _|exact .tail _ (.head _)) rfl ?_))
 refine aF s1 (.tail .head) rfl rfl rfl (nle rfl) fun h2 s2=>?_
 have s2:St h [i] h2 [(q,true,.cells zE),(i,true,pO l (D+1) false)]:=s2
 show ACall Pg f [.ptr i 0] _ _
 refine hf l h2 _ i (s2.get (.tail _ (.head _))) ⟨fun x l' h3 hm f3 e3=>?_,fun cs l' h3 hm f3 e3 hc ho=>?_⟩
 ·have s3:=s2.call1 f3 e3 (.tail .head)
  refine bk s3 fun q2 h4 s4=>?_
  refine bl s4 bR (ay _) (bW _) .head fun h5 s5=>?_
  (repeat (first|refine aq ?_|refine an ?_|refine dD (by omega) ?_|refine aj ‹_› (by first|exact .head _|exact .tail _ (.tail _ (.head _))) rfl ?_))
  have eD:((D+1:Nat):Int)-1=(D:Nat):=by omega
  rw[eD]
  refine aF s5 (.tail (.tail .head)) rfl rfl rfl (nle rfl) fun h6 s6=>?_
  have s6:St h [i] h6 [(q2,true,.cells (cY x)),(q,true,.cells zE),(i,true,pO l' D false)]:=s6
  refine bd s6 (ay _) (.head _) ?_
  refine bl s6 bR (ay _) (bW _) (.tail .head) fun h7 s7=>?_
  refine bd s7 (ay _) (.tail _ (.head _)) ?_
  exact r.good _ _ _ hm s7.fr (s7.get (.tail _ (.tail _ (.head _))))
 ·have s3:=s2.call1 f3 e3 (.tail .head)
  refine bk s3 fun q2 h4 s4=>?_
  refine bl s4 bR hc ho .head fun h5 s5=>?_
  (repeat (first|refine aq ?_|refine an ?_|refine dD (by omega) ?_|refine aj ‹_› (by first|exact .head _|exact .tail _ (.tail _ (.head _))) rfl ?_))
  have eD:((D+1:Nat):Int)-1=(D:Nat):=by omega
  rw[eD]
  refine aF s5 (.tail (.tail .head)) rfl rfl rfl (nle rfl) fun h6 s6=>?_
  have s6:St h [i] h6 [(q2,true,.cells cs),(q,true,.cells zE),(i,true,pO l' D true)]:=s6
  refine bd s6 hc (.head _) ?_
  refine bl s6 bR hc ho (.tail .head) fun h7 s7=>?_
  refine bd s7 hc (.tail _ (.head _)) ?_
  exact r.bad _ _ _ hm s7.fr (s7.get (.tail _ (.tail _ (.head _)))) hc ho
theorem yz (fv:AV):∀ (l:Str) (h:ab) (Q:QT) (i:Nat),h[i]?=some (pO l 12 false)→PRes i 12 none h Q→C cI [.ptr i 0,fv] h Q:=fun l h Q i e r=>by
 refine kG _ _ _ _ ?_
 unfold jp
 refine bk (St.start1 e) fun q h1 s1=>?_
 (repeat (first|refine aq ?_|refine an ?_|refine cy ?_|refine aj ‹_› (by first|exact .head _|exact .tail _ (.head _)) rfl ?_))
 refine ag (fun _=>?_) (fun hb=>(by exfalso;first|(simp at hb;done)|(simp at hb;omega)|(revert hb;decide)|omega))
 refine qy (s1.get (.tail _ (.head _))) fun h2 f2 e2=>?_
 have s2:=s1.call1 f2 e2 (.tail .head)
 refine bl s2 bR (ay _) (bW _) .head fun h3 s3=>?_
 refine bd s3 (ay _) (.head _) ?_
 exact r.bad _ _ _ rfl s3.fr (s3.get (.tail _ (.head _))) rfl rfl
end
end
section
variable [Tabs]
section
variable {i D:Nat}{l:Str}{h:ab}{Q:QT}
def Tw (f:FuncId) (D:Nat) (m:PF):Prop:=∀ (l:Str) (h:ab) (Q:QT) (i:Nat),h[i]?=some (pO l D false)→PRes i D (m l) h Q→C cI [.ptr i 0,.fn (.func f) [.ptr i 0] []] h Q
theorem Q8 {h0:ab}{q:Nat}{b:Str}(s:St h0 [i] h [(q,true,.cells zE),(i,true,pO b D false)]) (r:PRes i D (M5 b) h0 Q):
  aJ (.ptr i 0) fun t61=>ae 0 t61 fun t62=>ai t62 h fun t63=>C cF [t63,(.fn (.func cK) [] [])] h fun t64 h22=>
   ah .neq t64 (S ⟨#[]⟩) fun t66=>ifB t66 (
    C cg [.ptr i 0,t64,(I 10)] h22 fun t70 h23=>C cr [.ptr i 0,t70] h23 fun t71 h24=>
    aw 4 (.ptr q 0) t71 h24 fun h25=>aD 4 (.ptr q 0) h25 fun r26=>Q r26 h25) (
    aJ (.ptr i 0) fun t73=>ae 0 t73 fun t74=>ai t74 h22 fun t75=>C cF [t75,(.fn (.func dJ) [] [])] h22 fun t76 h27=>C j4 [t76] h27 fun t78 h28=>
    ifB t78 (
     aJ (.ptr i 0) fun t81=>ae 0 t81 fun t82=>ai t82 h28 fun t83=>bZ t76 fun t85=>aM t83 (some t85) none fun t86=>
     aJ (.ptr i 0) fun t87=>ae 0 t87 fun t88=>aw 1 t88 t86 h28 fun h29=>au [(I 0),(I 0),(S ⟨#[]⟩),(.full 0 [])] [(0,1,(I 2)),(2,1,t76)] fun t90=>
     aw 4 (.ptr q 0) t90 h29 fun h30=>aD 4 (.ptr q 0) h30 fun r31=>Q r31 h30) (
     C bP [.ptr i 0] h28 fun t92 h32=>aw 4 (.ptr q 0) t92 h32 fun h33=>aD 4 (.ptr q 0) h33 fun r34=>Q r34 h33)):=by
 (repeat (first|refine aq ?_|refine an ?_|refine aj ‹_› (by first|exact .head _|exact .tail _ (.head _)) rfl ?_))
 refine Ag b fun h1 f1=>?_
 have s1:=s.call f1
 refine tL ?_
 unfold M5 at r
 refine ag (fun hb=>?_) (fun hb=>?_)<;>simp only[za,zb,zc,zd,ze,zf,zg,zh,zi,u8i,zj,zk,zl]at hb
 ·rw[if_pos (by exact hb)]at r
  refine yY 10 (by omega) (Nw b) (QR b) (OW b) (s1.get (.tail _ (.head _))) ⟨fun x l' h2 hm f2 e2=>?_,fun cs l' h2 hm f2 e2 hc ho=>?_⟩
  ·have s2:=s1.call1 f2 e2 (.tail .head)
   refine bl s2 bR (ay _) (bW _) .head fun h3 s3=>?_
   refine bd s3 (ay _) (.head _) ?_
   exact r.good _ _ _ hm s3.fr (s3.get (.tail _ (.head _)))
  ·have s2:=s1.call1 f2 e2 (.tail .head)
   refine bl s2 bR hc ho .head fun h3 s3=>?_
   refine bd s3 hc (.head _) ?_
   exact r.bad _ _ _ hm s3.fr (s3.get (.tail _ (.head _))) hc ho
 ·rw[if_neg (by simpa [Nw] using hb)]at r
  (repeat (first|refine aq ?_|refine an ?_|refine aj ‹_› (by first|exact .head _|exact .tail _ (.head _)) rfl ?_))
  refine rj b fun h2 f2=>?_
  have s2:=s1.call f2
  refine RT _ fun h3 f3=>?_
  have s3:=s2.call f3
  refine ag (fun hw=>?_) (fun hw=>?_)
  ·rw[if_pos (by exact hw)]at r
   (repeat (first|refine aq ?_|refine an ?_|refine bD ?_|refine aj ‹_› (by first|exact .head _|exact .tail _ (.head _)) rfl ?_))
   have hl:=Pr b
   unfold y4 at hl
   refine gm (by omega) (by omega) ?_
   (repeat (first|refine aq ?_|refine an ?_))
   refine aF s3 (.tail .head) rfl rfl rfl (nle rfl) fun h4 s4=>?_
   (repeat refine aO rfl ?_)
   refine bl s4 bR rfl rfl .head fun h5 s5=>?_
   refine bd s5 rfl (.head _) ?_
   exact r.good _ _ _ rfl s5.fr (s5.get (.tail _ (.head _)))
  ·rw[if_neg (by unfold y4;rw[hw];simp)]at r
   refine qy (s3.get (.tail _ (.head _))) fun h4 f4 e4=>?_
   have s4:=s3.call1 f4 e4 (.tail .head)
   refine bl s4 bR (ay _) (bW _) .head fun h5 s5=>?_
   refine bd s5 (ay _) (.head _) ?_
   exact r.bad _ _ _ rfl s5.fr (s5.get (.tail _ (.head _))) rfl rfl
theorem LB {group minus:PF}(hG:Tw eT D group) (hM:Tw eZ D minus):uX cN [] D (DQ group minus):=fun l h Q i e r=>by
 refine vl _ _ _ ?_
 unfold rq
 unfold DQ at r
 refine bk (St.start1 e) fun q h1 s1=>?_
 refine wY (m:=[40]) (s1.get (.tail _ (.head _))) (fun hp h2 f2 e2=>?_) (fun hp h2 f2 e2=>?_)
 ·have s2:=s1.call1 f2 e2 (.tail .head)
  rw[if_pos hp]at r
  refine ag (fun _=>?_) (fun h=>by cases h)
  refine hG _ _ _ i (s2.get (.tail _ (.head _))) ⟨fun x l' h3 hm f3 e3=>?_,fun cs l' h3 hm f3 e3 hc ho=>?_⟩
  ·have s3:=s2.call1 f3 e3 (.tail .head)
   refine bl s3 bR (ay _) (bW _) .head fun h4 s4=>?_
   refine bd s4 (ay _) (.head _) ?_
   exact r.good _ _ _ hm s4.fr (s4.get (.tail _ (.head _)))
  ·have s3:=s2.call1 f3 e3 (.tail .head)
   refine bl s3 bR hc ho .head fun h4 s4=>?_
   refine bd s4 hc (.head _) ?_
   exact r.bad _ _ _ hm s4.fr (s4.get (.tail _ (.head _))) hc ho
 have s2:=s1.call1 f2 e2 (.tail .head)
 rw[if_neg (by simp[hp])]at r
 refine ag (fun h=>by cases h) (fun _=>?_)
 refine wY (m:=[45]) (s2.get (.tail _ (.head _))) (fun hp h3 f3 e3=>?_) (fun hp h3 f3 e3=>?_)
 ·have s3:=s2.call1 f3 e3 (.tail .head)
  rw[show blk (blk l)=blk l from nJ 32 l]at hp s3
  rw[if_pos hp]at r
  refine ag (fun _=>?_) (fun h=>by cases h)
  refine hM _ _ _ i (s3.get (.tail _ (.head _))) ⟨fun x l' h4 hm f4 e4=>?_,fun cs l' h4 hm f4 e4 hc ho=>?_⟩
  ·have s4:=s3.call1 f4 e4 (.tail .head)
   refine bl s4 bR (ay _) (bW _) .head fun h5 s5=>?_
   refine bd s5 (ay _) (.head _) ?_
   exact r.good _ _ _ hm s5.fr (s5.get (.tail _ (.head _)))
  ·have s4:=s3.call1 f4 e4 (.tail .head)
   refine bl s4 bR hc ho .head fun h5 s5=>?_
   refine bd s5 hc (.head _) ?_
   exact r.bad _ _ _ hm s5.fr (s5.get (.tail _ (.head _))) hc ho
 have s3:=s2.call1 f3 e3 (.tail .head)
 rw[show blk (blk l)=blk l from nJ 32 l]at hp s3
 rw[if_neg (by simp[hp])]at r
 refine ag (fun h=>by cases h) (fun _=>?_)
 refine wY (m:=[46]) (s3.get (.tail _ (.head _))) (fun hp h4 f4 e4=>?_) (fun hp h4 f4 e4=>?_)
 ·have s4:=s3.call1 f4 e4 (.tail .head)
  rw[show blk (blk l)=blk l from nJ 32 l]at hp s4
  rw[if_pos hp]at r
  refine ag (fun _=>?_) (fun h=>by cases h)
  (repeat refine aO rfl ?_)
  refine bl s4 bR rfl rfl .head fun h5 s5=>?_
  refine bd s5 rfl (.head _) ?_
  exact r.good _ _ _ rfl s5.fr (s5.get (.tail _ (.head _)))
 have s4:=s3.call1 f4 e4 (.tail .head)
 rw[show blk (blk l)=blk l from nJ 32 l]at hp s4
 rw[if_neg (by simp[hp])]at r
 refine ag (fun h=>by cases h) (fun _=>?_)
 unfold Mf at r
 (repeat (first|refine aq ?_|refine an ?_|refine aj ‹_› (by first|exact .head _|exact .tail _ (.head _)) rfl ?_))
 refine xb ?_
 refine ag (fun hx=>?_) (fun hx=>?_)
 ·rw[if_pos hx]at r
  have hle:=(List.isPrefixOf_iff_prefix.1 hx).length_le
  have hle:2≤(blk l).length:=hle
  (repeat (first|refine aq ?_|refine an ?_|refine aj ‹_› (by first|exact .head _|exact .tail _ (.head _)) rfl ?_))
  refine gm (by omega) (by omega) ?_
  refine HP _ fun h5 f5=>?_
  have s5:=s4.call f5
  refine tL ?_
  refine ag (fun hb=>?_) (fun hb=>?_)<;>simp only[za,zb,zc,zd,ze,zf,zg,zh,zi,u8i,zj,zk,zl]at hb
  ·rw[if_pos (by exact hb)]at r
   (repeat (first|refine aq ?_|refine an ?_|refine aj ‹_› (by first|exact .head _|exact .tail _ (.head _)) rfl ?_))
   refine gm (by omega) (by omega) ?_
   (repeat (first|refine aq ?_|refine an ?_))
   refine aF s5 (.tail .head) rfl rfl rfl (nle rfl) fun h6 s6=>?_
   have s6:St h [i] h6 [(q,true,.cells zE),(i,true,pO ((blk l).drop 2) D false)]:=s6
   (repeat (first|refine aq ?_|refine an ?_|refine aj ‹_› (by first|exact .head _|exact .tail _ (.head _)) rfl ?_))
   refine HP _ fun h7 f7=>?_
   have s7:=s6.call f7
   refine yY 16 (by omega) (NB ((blk l).drop 2)) (P9 _) (QI _) (s7.get (.tail _ (.head _))) ⟨fun x l' h8 hm f8 e8=>?_,fun cs l' h8 hm f8 e8 hc ho=>?_⟩
   ·have s8:=s7.call1 f8 e8 (.tail .head)
    refine bl s8 bR (ay _) (bW _) .head fun h9 s9=>?_
    refine bd s9 (ay _) (.head _) ?_
    exact r.good _ _ _ hm s9.fr (s9.get (.tail _ (.head _)))
   ·have s8:=s7.call1 f8 e8 (.tail .head)
    refine bl s8 bR hc ho .head fun h9 s9=>?_
    refine bd s9 hc (.head _) ?_
    exact r.bad _ _ _ hm s9.fr (s9.get (.tail _ (.head _))) hc ho
  ·rw[if_neg (by simpa [NB] using hb)]at r
   exact Q8 s5 r
 ·rw[if_neg (by rw[hx];simp)]at r
  exact Q8 s4 r
theorem JM {one:PF}(ho:uX cN [] D one) (hs:nu one):∀ R,R≤5→uX cq [I ((5-R:Nat):Int)] D (rc one R)
 | 0,_=>fun l h Q i e r=>by
   refine nK _ _ _ _ ?_
   unfold mo
   refine bk (St.start1 e) fun q h1 s1=>?_
   refine m4 ?_
   (repeat (first|refine ep ?_|refine aB ?_))
   refine ag (fun _=>?_) (fun hb=>(by exfalso;first|(simp at hb;done)|(simp at hb;omega)|(revert hb;decide)|omega))
   refine ho l h1 _ i (s1.get (.tail _ (.head _))) ⟨fun x l' h2 hm f2 e2=>?_,fun cs l' h2 hm f2 e2 hc ho=>?_⟩
   ·have s2:=s1.call1 f2 e2 (.tail .head)
    refine bl s2 bR (ay _) (bW _) .head fun h3 s3=>?_
    refine bd s3 (ay _) (.head _) ?_
    exact r.good _ _ _ hm s3.fr (s3.get (.tail _ (.head _)))
   ·have s2:=s1.call1 f2 e2 (.tail .head)
    refine bl s2 bR hc ho .head fun h3 s3=>?_
    refine bd s3 hc (.head _) ?_
    exact r.bad _ _ _ hm s3.fr (s3.get (.tail _ (.head _))) hc ho
 | R+1,hR=>fun l h Q i e r=>by
   have ih:=JM ho hs R (by omega)
   have ihs:=vi hs R (by omega)
   have hlv:5-(R+1)=4-R:=by omega
   have hnx:(((5-(R+1):Nat):Int)+1)=((5-R:Nat):Int):=by omega
   have hlv5:4-R<levelsL.length:=by show 4-R<5;omega
   have hmem:levelsL[4-R]∈levelsL:=by simp
   obtain⟨hk1,hk2,hk3⟩:=Eu _ hmem
   have hks:(levelsL[4-R]?).getD []=levelsL[4-R]:=by simp[hlv5]
   generalize hkse:levelsL[4-R]=ks at hk1 hk2 hk3 hks
   have RK:∀ h',Row (fun k:Nat=>[I (k:Nat)]) 1 h' (.full ks.length (ks.flatMap fun k=>[I (k:Nat)])) ks:=fun h'=>Row.full (enc:=fun k:Nat=>[I (k:Nat)]) (fun _=>rfl) ks
   refine nK _ _ _ _ ?_
   unfold mo
   refine bk (St.start1 e) fun q h1 s1=>?_
   refine m4 ?_
   (repeat (first|refine ep ?_|refine aB ?_))
   refine ag (fun hb=>absurd hb (by simp[levelsL];omega)) (fun _=>?_)
   refine aH (by omega) ?_
   rw[hnx]
   have LV:∀ {h':ab} {K:AV→Prop},(∀ p,Pt h' p [.full ks.length (ks.flatMap fun k=>[I (k:Nat)])]→K p)→ao 1 (.full levelsL.length (levelsL.flatMap Lc)) (I ((5-(R+1):Nat):Int)) K:=fun {h' K} k=>by
    rw[hlv]
    refine (Row.full (h:=h') (enc:=Lc) (fun _=>rfl) levelsL).idx (fun _=>rfl) hlv5 fun p t=>k p ?_
    rw[hkse]at t;exact t
   refine ih l h1 _ i (s1.get (.tail _ (.head _))) ⟨fun x l1 h2 hm f2 e2=>?_,fun cs l1 h2 hm f2 e2 hc ho2=>?_⟩
   ·have s2:=s1.call1 f2 e2 (.tail .head)
    have hm2:rc one (R+1) l=oA (rc one R) ks l1.length x l1:=by
     conv=>lhs;unfold rc
     rw[hm,hks]
    rw[hm2]at r
    refine bk s2 fun q2 h3 s3=>?_
    refine bl s3 bR (ay _) (bW _) .head fun h4 s4=>?_
    refine m4 ?_
    refine LV (h':=h4) fun p t=>?_
    refine aE t ?_
    refine Lw ks hk2 hk3 (RK _) (s4.get (.tail _ (.tail _ (.head _)))) (hQ (s4.get (i:=i) (.tail _ (.tail _ (.head _))))) (fun h' _=>RK h') fun h5 f5 e5=>?_
    have s5:=s4.call1 f5 e5 (.tail (.tail .head))
    clear s4 s3 s2 s1 f5 e5 f2 e2 t p
    refine aR (fun n vs h'=>∃ (cs:List AV) (k:Nat) (l2:Str) (b:Bool),vs=[I (k:Nat)]∧cs.length=4∧cs.all AV.one=true∧St h [i] h' [(q2,true,.cells cs),(q,true,.cells zE),(i,true,pO l2 D b)]∧
     ((b=false∧∃ y l3,cs=cY y∧l3.length≤n∧jI ks l3=(k,l2)∧oA (rc one R) ks l1.length x l1=oA (rc one R) ks n y l3)∨(b=true∧k=0∧oA (rc one R) ks l1.length x l1=none))) l1.length
     ⟨cY x,(jI ks l1).1,(jI ks l1).2,false,rfl,ay _,bW _,s5,.inl ⟨rfl,x,l1,rfl,Nat.le_refl _,rfl,rfl⟩⟩ ?_
    rintro n vs h' ⟨cs,k,l2,b,rfl,hc,ho3,s6,hcase⟩
    unfold iR
    have fin:(b=false∧∃ y,cs=cY y∧oA (rc one R) ks l1.length x l1=some (y,l2))∨(b=true∧oA (rc one R) ks l1.length x l1=none)→
      aD 4 (.ptr q2 0) h' fun t46=>aw 4 (.ptr q 0) t46 h' fun h17=>aD 4 (.ptr q 0) h17 fun r18=>Q r18 h17:=by
     intro hh
     refine bd s6 hc (.head _) ?_
     refine bl s6 bR hc ho3 (.tail .head) fun h8 s8=>?_
     refine bd s8 hc (.tail _ (.head _)) ?_
     rcases hh with ⟨rfl,y,rfl,he⟩|⟨rfl,he⟩
     ·exact r.good _ _ _ he s8.fr (s8.get (.tail _ (.tail _ (.head _))))
     ·exact r.bad _ _ _ he s8.fr (s8.get (.tail _ (.tail _ (.head _)))) hc ho3
    refine cE ?_
    refine ag (fun hz=>?_) (fun hz=>?_)<;>simp only[za,zb,zc,zd,ze,zf,zg,zh,zi,u8i,zj,zk,zl]at hz
    ·(repeat (first|refine aq ?_|refine an ?_|refine dA ?_|refine aj ‹_› (by first|exact .head _|exact .tail _ (.tail _ (.head _))) rfl ?_))
     rcases hcase with ⟨rfl,y,l3,rfl,hl3,hkm,hlp⟩|⟨rfl,rfl,hno⟩
     ·refine ag (fun _=>?_) (fun h=>by cases h)
      have hk0:k≠0:=by omega
      obtain⟨hl4,hl5⟩:=xU ks hk1 l3
      rw[hkm]at hl4 hl5
      have hl5:=hl5 hk0
      simp only at hl5
      obtain⟨n',rfl⟩:∃ m,n=m+1:=⟨n-1,by omega⟩
      rw[oA,hkm]at hlp
      simp only[if_neg hk0]at hlp
      refine bd s6 (ay _) (.head _) ?_
      refine aH (by omega) ?_
      rw[hnx]
      refine ih l2 h' _ i (s6.get (.tail _ (.tail _ (.head _)))) ⟨fun z l4 h7 hm3 f7 e7=>?_,fun cs2 l4 h7 hm3 f7 e7 hc2 ho4=>?_⟩
      ·have s7:=s6.call1 f7 e7 (.tail (.tail .head))
       rw[hm3]at hlp
       refine⟨bd s7 (ay _) (.head _) rfl,?_⟩
       refine aG rfl (by simp[AV.isTup,AV.cells,ay]) ?_
       rw[show ([AV.agg (cY y),AV.agg (cY z)].flatMap fun x=>x.cells)=cY y++cY z by simp[AV.cells]]
       (repeat refine aO rfl ?_)
       refine bl s7 (ay _) rfl rfl .head fun h8 s8=>?_
       refine m4 ?_
       refine LV (h':=h8) fun p t=>?_
       refine aE t ?_
       refine Lw ks hk2 hk3 (RK _) (s8.get (.tail _ (.tail _ (.head _)))) (hQ (s8.get (i:=i) (.tail _ (.tail _ (.head _))))) (fun h' _=>RK h') fun h9 f9 e9=>?_
       have s9:=s8.call1 f9 e9 (.tail (.tail .head))
       have hsh:=ihs _ _ _ hm3
       exact⟨n',by omega,cY (.bin k y z),_,_,false,rfl,rfl,rfl,s9,.inl ⟨rfl,.bin k y z,l4,rfl,by omega,rfl,hlp⟩⟩
      ·have s7:=s6.call1 f7 e7 (.tail (.tail .head))
       rw[hm3]at hlp
       refine⟨bd s7 (ay _) (.head _) rfl,?_⟩
       refine aG rfl (by simp[AV.isTup,AV.cells,ay,hc2]) ?_
       (repeat refine aO rfl ?_)
       refine bl s7 (ay _) rfl rfl .head fun h8 s8=>?_
       refine m4 ?_
       refine LV (h':=h8) fun p t=>?_
       refine aE t ?_
       refine Bs ks hk2 hk3 (RK _) (s8.get (.tail _ (.tail _ (.head _)))) (fun h' _=>RK h') fun l5 h9 f9 e9=>?_
       have s9:=s8.call1 f9 e9 (.tail (.tail .head))
       exact⟨n',by omega,_,0,_,true,rfl,rfl,rfl,s9,.inr ⟨rfl,rfl,hlp⟩⟩
     ·exact absurd hz (by simp)
    ·have hk0:k=0:=by omega
     subst hk0
     refine fin ?_
     rcases hcase with ⟨rfl,y,l3,rfl,hl3,hkm,hlp⟩|⟨rfl,_,hno⟩
     ·refine .inl ⟨rfl,y,rfl,?_⟩
      rw[hlp]
      cases n with
      | zero=>rw[oA,hkm];simp
      | succ n=>rw[oA,hkm];simp
     ·exact .inr ⟨rfl,hno⟩
   ·have s2:=s1.call1 f2 e2 (.tail .head)
    have hm2:rc one (R+1) l=none:=by
     conv=>lhs;unfold rc
     rw[hm]
    rw[hm2]at r
    refine bk s2 fun q2 h3 s3=>?_
    refine bl s3 bR hc ho2 .head fun h4 s4=>?_
    refine m4 ?_
    refine LV (h':=h4) fun p t=>?_
    refine aE t ?_
    refine Bs ks hk2 hk3 (RK _) (s4.get (.tail _ (.tail _ (.head _)))) (fun h' _=>RK h') fun l5 h5 f5 e5=>?_
    have s5:=s4.call1 f5 e5 (.tail (.tail .head))
    refine aR (fun n vs h'=>vs=[I 0]∧h'=h5) 0 ⟨rfl,rfl⟩ ?_
    rintro n vs h' ⟨rfl,rfl⟩
    unfold iR
    refine cE ?_
    refine ag (fun hb=>absurd hb (by simp)) (fun _=>?_)
    refine bd s5 hc (.head _) ?_
    refine bl s5 bR hc ho2 (.tail .head) fun h8 s8=>?_
    refine bd s8 hc (.tail _ (.head _)) ?_
    exact r.bad _ _ _ rfl s8.fr (s8.get (.tail _ (.tail _ (.head _)))) hc ho2
end
end
section
variable [Tabs]
theorem P3:∀ (d D:Nat),D+d=12→uX cN [] D (NX d)
 | 0,D,h=>by
   have:D=12:=by omega
   subst this
   exact LB (fun l h Q i e r=>yz _ l h Q i e r) (fun l h Q i e r=>yz _ l h Q i e r)
 | d+1,D,h=>by
   have i1:=P3 d (D+1) (by omega)
   have i2:uX cq [I 0] (D+1) (rc (NX d) 5):=JM i1 (q0 d) 5 (Nat.le_refl _)
   exact LB (DT (QE i2) (by omega)) (DT (QS i1) (by omega))
theorem Qw (l:Str) {h:ab}{Q:QT}(k1:∀ x,sK l=some x→∀ h',Fr [] h h'→Q (.tup [.agg (cY x),B true]) h') (k0:sK l=none→∀ h',Fr [] h h'→Q (.tup [.agg zE,B false]) h'):C pr [T l] h Q:=by
 refine Cr _ _ _ ?_
 unfold BT
 refine bk (St.start h) fun q h1 s1=>?_
 (repeat refine aO rfl ?_)
 refine dF s1 rfl fun i h2 s2=>?_
 have s2:St h [] h2 [(i,true,pO l 0 false),(q,true,.cells zE)]:=s2
 refine JM (P3 12 0 rfl) (q0 12) 5 (Nat.le_refl _) l h2 _ i (s2.get (.head _)) ⟨fun x l' h3 hm f3 e3=>?_,fun cs l' h3 hm f3 e3 hc ho=>?_⟩
 ·have s3:=s2.call1 f3 e3 .head
  refine bl s3 bR (ay _) (bW _) (.tail .head) fun h4 s4=>?_
  refine ub (s4.get (.head _)) fun h5 f5 e5=>?_
  have s5:=s4.call1 f5 e5 .head
  have hp:sK l=if blk l'=[] then some x else none:=by unfold sK;rw[hm]
  (repeat (first|refine aq ?_|refine an ?_|refine tL ?_|refine aj ‹_› (.head _) rfl ?_))
  refine ag (fun hb=>?_) (fun hb=>?_)
  ·rw[if_neg (by simpa using hb)]at hp
   (repeat refine aO rfl ?_)
   refine bl s5 (ay _) rfl rfl (.tail .head) fun h6 s6=>?_
   refine bd s6 rfl (.tail _ (.head _)) ?_
   exact k0 hp _ s6.fr
  ·rw[if_pos (by simpa using hb)]at hp
   refine bd s5 (ay _) (.tail _ (.head _)) ?_
   refine bl s5 (ay _) (ay _) (bW _) (.tail .head) fun h6 s6=>?_
   refine bd s6 (ay _) (.tail _ (.head _)) ?_
   exact k1 x hp _ s6.fr
 ·have s3:=s2.call1 f3 e3 .head
  refine bl s3 bR hc ho (.tail .head) fun h4 s4=>?_
  refine ub (s4.get (.head _)) fun h5 f5 e5=>?_
  have s5:=s4.call1 f5 e5 .head
  have hp:sK l=none:=by unfold sK;rw[hm]
  (repeat (first|refine aq ?_|refine an ?_|refine aj ‹_› (.head _) rfl ?_|refine aO rfl ?_))
  refine bl s5 hc rfl rfl (.tail .head) fun h6 s6=>?_
  refine bd s6 rfl (.tail _ (.head _)) ?_
  exact k0 hp _ s6.fr
def mostI:Int:=1099511627776
abbrev Ev:=Int×Int
def evV (e:Ev):AV:=.tup [I e.1,I e.2]
def dn (n:Int):Ev:=if n < -1099511627776∨1099511627776<n then (0,6) else (n,0)
section
variable {h:ab}{Q:QT}
theorem i9 (n:Int) (k:Q (evV (dn n)) h):C cx [I n] h Q:=by
 refine CR _ _ _ ?_
 unfold AB
 unfold dn at k
 (repeat refine aP ?_)
 refine ag (fun h1=>?_) (fun h1=>?_)<;>simp only[za,zb,zc,zd,ze,zf,zg,zh,zi,u8i,zj,zk,zl]at h1
 ·rw[if_pos (.inl h1)]at k;exact k
 (repeat refine cO ?_)
 refine ag (fun h2=>?_) (fun h2=>?_)<;>simp only[za,zb,zc,zd,ze,zf,zg,zh,zi,u8i,zj,zk,zl]at h2
 ·rw[if_pos (.inr h2)]at k;exact k
 ·rw[if_neg (by omega)]at k;exact k
def vh (a b:Int):Ev:=if a=0∨b=0 then (0,0) else if (mostI.tdiv (max b (-b)))<max a (-a) then (0,6) else dn (a*b)
theorem HE (a b:Int) (ha:-1099511627776≤a∧a≤1099511627776) (hb:-1099511627776≤b∧b≤1099511627776) (k:Q (evV (vh a b)) h):C lw [I a,I b] h Q:=by
 refine C5 _ _ _ _ ?_
 unfold BL
 unfold vh mostI at k
 (repeat refine aB ?_)
 refine ag (fun h1=>?_) (fun h1=>?_)<;>simp only[za,zb,zc,zd,ze,zf,zg,zh,zi,u8i,zj,zk,zl]at h1
 ·rw[if_pos (.inl h1)]at k;exact k
 (repeat refine aB ?_)
 refine ag (fun h2=>?_) (fun h2=>?_)<;>simp only[za,zb,zc,zd,ze,zf,zg,zh,zi,u8i,zj,zk,zl]at h2
 ·rw[if_pos (.inr h2)]at k;exact k
 rw[if_neg (by omega)]at k
 refine SD ?_
 refine KN (by omega) ?_
 (repeat refine AE ?_)
 refine KN (by omega) ?_
 (repeat refine AE ?_)
 have hm:1≤max b (-b):=by omega
 have hq0:0≤Int.tdiv 1099511627776 (max b (-b)):=Int.tdiv_nonneg (by omega) (by omega)
 have hq1:Int.tdiv 1099511627776 (max b (-b))≤1099511627776:=by
  rw[Int.tdiv_eq_ediv_of_nonneg (by omega)];exact Int.ediv_le_self _ (by omega)
 refine mi (by omega) (by omega) ?_
 refine cO ?_
 refine ag (fun h3=>?_) (fun h3=>?_)<;>simp only[za,zb,zc,zd,ze,zf,zg,zh,zi,u8i,zj,zk,zl]at h3
 ·rw[if_pos h3]at k;exact k
 ·rw[if_neg (by omega)]at k
  have hmul:max a (-a)*max b (-b)≤1099511627776:=by
   have h4:max a (-a)≤Int.tdiv 1099511627776 (max b (-b)):=by omega
   have h5:max a (-a)*max b (-b)≤Int.tdiv 1099511627776 (max b (-b))*max b (-b):=Int.mul_le_mul_of_nonneg_right h4 (by omega)
   rw[Int.tdiv_eq_ediv_of_nonneg (by omega)]at h5
   have h6:=Int.ediv_mul_le 1099511627776 (show max b (-b)≠0 by omega)
   omega
  have hab:-1099511627776≤a*b∧a*b≤1099511627776:=by
   have e1:(a*b).natAbs=(max a (-a)*max b (-b)).natAbs:=by
    rw[Int.natAbs_mul,Int.natAbs_mul]
    congr 1<;>omega
   have h7:0≤max a (-a)*max b (-b):=Int.mul_nonneg (by omega) (by omega)
   omega
  rw[tV (by omega)]
  refine i9 _ ?_
  (repeat refine ax rfl ?_)
  exact k
def wJ (kd:Nat) (a b:Int):Ev:=
 if kd=5 then dn (a+b) else if kd=6 then dn (a-b) else if kd=7 then vh a b else if kd=8 then dn (zG .i64 a b) else if kd=9 then dn (orI .i64 a b)
 else if b<0∨40<b then (0,6) else if kd=11 then dn (F5 .i64 a b.toNat) else vh a (2^b.toNat)
theorem RV (kd:Nat) (a b:Int) (ha:-1099511627776≤a∧a≤1099511627776) (hb:-1099511627776≤b∧b≤1099511627776) (k:Q (evV (wJ kd a b)) h):C qk [I (kd:Nat),I a,I b] h Q:=by
 refine EX _ _ _ _ _ ?_
 unfold D6
 unfold wJ at k
 (repeat refine aB ?_)
 refine ag (fun h5=>?_) (fun h5=>?_)<;>simp only[za,zb,zc,zd,ze,zf,zg,zh,zi,u8i,zj,zk,zl]at h5
 ·rw[if_pos (by omega)]at k
  (repeat refine aH (by omega) ?_)
  refine i9 _ ?_
  (repeat refine ax rfl ?_);exact k
 rw[if_neg (by omega)]at k
 (repeat refine aB ?_)
 refine ag (fun h6=>?_) (fun h6=>?_)<;>simp only[za,zb,zc,zd,ze,zf,zg,zh,zi,u8i,zj,zk,zl]at h6
 ·rw[if_pos (by omega)]at k
  (repeat refine dD (by omega) ?_)
  refine i9 _ ?_
  (repeat refine ax rfl ?_);exact k
 rw[if_neg (by omega)]at k
 (repeat refine aB ?_)
 refine ag (fun h7=>?_) (fun h7=>?_)<;>simp only[za,zb,zc,zd,ze,zf,zg,zh,zi,u8i,zj,zk,zl]at h7
 ·rw[if_pos (by omega)]at k
  refine HE a b ha hb ?_
  (repeat refine ax rfl ?_);exact k
 rw[if_neg (by omega)]at k
 (repeat refine aB ?_)
 refine ag (fun h8=>?_) (fun h8=>?_)<;>simp only[za,zb,zc,zd,ze,zf,zg,zh,zi,u8i,zj,zk,zl]at h8
 ·rw[if_pos (by omega)]at k
  refine mM ?_
  refine i9 _ ?_
  (repeat refine ax rfl ?_);exact k
 rw[if_neg (by omega)]at k
 (repeat refine aB ?_)
 refine ag (fun h9=>?_) (fun h9=>?_)<;>simp only[za,zb,zc,zd,ze,zf,zg,zh,zi,u8i,zj,zk,zl]at h9
 ·rw[if_pos (by omega)]at k
  refine qY ?_
  refine i9 _ ?_
  (repeat refine ax rfl ?_);exact k
 rw[if_neg (by omega)]at k
 (repeat refine aP ?_)
 refine ag (fun hn=>?_) (fun hn=>?_)<;>simp only[za,zb,zc,zd,ze,zf,zg,zh,zi,u8i,zj,zk,zl]at hn
 ·rw[if_pos (.inl hn)]at k;exact k
 (repeat refine cO ?_)
 refine ag (fun hg=>?_) (fun hg=>?_)<;>simp only[za,zb,zc,zd,ze,zf,zg,zh,zi,u8i,zj,zk,zl]at hg
 ·rw[if_pos (.inr hg)]at k;exact k
 rw[if_neg (by omega)]at k
 (repeat refine aB ?_)
 refine ag (fun h11=>?_) (fun h11=>?_)<;>simp only[za,zb,zc,zd,ze,zf,zg,zh,zi,u8i,zj,zk,zl]at h11
 ·rw[if_pos (by omega)]at k
  refine sb (by omega) ?_
  refine i9 _ ?_
  (repeat refine ax rfl ?_);exact k
 ·rw[if_neg (by omega)]at k
  refine iJ (by omega) ?_
  obtain⟨n,rfl⟩:∃ n:Nat,b=n:=⟨b.toNat,by omega⟩
  have hn40:n≤40:=by omega
  have hp:2^n≤2^40:=Nat.pow_le_pow_right (by omega) hn40
  have hpi:((2:Int)^n)=((2^n:Nat):Int):=by simp
  have hp0:0<2^n:=Nat.two_pow_pos n
  have e1:min (n:Int).toNat IntKind.i64.bits=n:=by
   show min (n:Int).toNat 64=n
   omega
  rw[e1,Int.one_mul,tV (by rw[hpi];omega)]
  rw[Int.toNat_natCast]at k
  refine HE a _ ha (by rw[hpi];omega) ?_
  (repeat refine ax rfl ?_);exact k
abbrev Sy:=Str×Int
def syE (y:Sy):List AV:=[T y.1,I y.2]
def gI (here:Int) (syms:List Sy):Ex→Ev
 | .none=>(0,6)
 | .num n=>dn n
 | .name s=>match syms.find? fun y=>decide (y.1=s) with
   | some y=>dn y.2
   | none=>(0,4)
 | .here=>dn here
 | .neg e=>if (gI here syms e).2≠0 then (0,(gI here syms e).2) else dn (-(gI here syms e).1)
 | .bin k a b=>if (gI here syms a).2≠0 then (0,(gI here syms a).2) else if (gI here syms b).2≠0 then (0,(gI here syms b).2) else wJ k (gI here syms a).1 (gI here syms b).1
theorem gx (n:Int):-1099511627776≤(dn n).1∧(dn n).1≤1099511627776:=by unfold dn;split<;>simp<;>omega
theorem Om (a b:Int):-1099511627776≤(vh a b).1∧(vh a b).1≤1099511627776:=by
 unfold vh;split
 ·simp
 ·split
  ·simp
  ·exact gx _
theorem GC (k:Nat) (a b:Int):-1099511627776≤(wJ k a b).1∧(wJ k a b).1≤1099511627776:=by
 unfold wJ
 repeat' split
 all_goals first|exact gx _|exact Om _ _|simp
theorem B4 (here:Int) (syms:List Sy):∀ e:Ex,-1099511627776≤(gI here syms e).1∧(gI here syms e).1≤1099511627776
 | .none=>by simp[gI]
 | .num n=>gx _
 | .name s=>by
   unfold gI;split
   ·exact gx _
   ·simp
 | .here=>gx _
 | .neg e=>by
   unfold gI;split
   ·simp
   ·exact gx _
 | .bin k a b=>by
   unfold gI;split
   ·simp
   ·split
    ·simp
    ·exact GC _ _ _
def okE:Ex→Prop
 | .neg e=>okE e
 | .bin k a b=>(5≤k∧k≤11)∧okE a∧okE b
 | _=>True
theorem J8 {α:Type}(p:α→Bool):∀ l:List α,(eY p l=-1∧l.find? p=none)∨∃ (i:Nat) (hi:i<l.length),eY p l=(i:Nat)∧l.find? p=some l[i]:=fun l=>by
 unfold eY
 cases h:l.findIdx? p with
 | none=>
   rw[List.findIdx?_eq_none_iff]at h
   exact .inl ⟨rfl,by rw[List.find?_eq_none];intro x hx;simp[h x hx]⟩
 | some i=>
   rw[List.findIdx?_eq_some_iff_getElem]at h
   obtain⟨hi,hp,hn⟩:=h
   refine .inr ⟨i,hi,rfl,?_⟩
   rw[List.find?_eq_some_iff_getElem]
   exact⟨hp,i,hi,rfl,fun j hj=>by simpa using hn j hj⟩
theorem z8 (here:Int) (syms:List Sy) (hl:syms.length<1000000):∀ (e:Ex),okE e→∀ (h:ab) (Q:QT) {v:AV},Row syE 2 h v syms→(∀ h',Fr [] h h'→Q (evV (gI here syms e)) h')→C jY [.agg (cY e),I here,v] h Q
 | .none,hk,h,Q,v,r,k=>by
   refine ic _ _ _ _ _ ?_
   unfold kO
   refine dF (St.start h) rfl fun i h1 s1=>?_
   have s1:St h [] h1 [(i,true,.cells (cY .none))]:=s1
   (repeat (first|refine an ?_|refine ep ?_|refine aB ?_|refine aj ‹_› (.head _) rfl ?_))
   exact k _ s1.fr
 | .num n,hk,h,Q,v,r,k=>by
   refine ic _ _ _ _ _ ?_
   unfold kO
   refine dF (St.start h) rfl fun i h1 s1=>?_
   have s1:St h [] h1 [(i,true,.cells (cY (.num n)))]:=s1
   (repeat (first|refine an ?_|refine aB ?_|refine aj ‹_› (.head _) rfl ?_))
   refine i9 _ ?_
   (repeat refine ax rfl ?_)
   exact k _ s1.fr
 | .here,hk,h,Q,v,r,k=>by
   refine ic _ _ _ _ _ ?_
   unfold kO
   refine dF (St.start h) rfl fun i h1 s1=>?_
   have s1:St h [] h1 [(i,true,.cells (cY .here))]:=s1
   (repeat (first|refine an ?_|refine aB ?_|refine aj ‹_› (.head _) rfl ?_))
   refine i9 _ ?_
   (repeat refine ax rfl ?_)
   exact k _ s1.fr
 | .name s,hk,h,Q,v,r,k=>by
   refine ic _ _ _ _ _ ?_
   unfold kO
   refine dF (St.start h) rfl fun i h1 s1=>?_
   have s1:St h [] h1 [(i,true,.cells (cY (.name s)))]:=s1
   (repeat (first|refine an ?_|refine aB ?_|refine aj ‹_› (.head _) rfl ?_))
   refine sP (enc:=syE) (fun _=>rfl) _ (fun y=>decide (y.1=s)) syms (by omega) (r.fr s1.fr) (fun x hx h2 Q f2 kq=>?_) fun h2 f2=>?_
   ·show ACall Pg nw _ _ _
    refine BM _ _ _ _ ?_
    unfold yM
    have s2:=St.startr (f2.get (s1.get (.head _)) (by simp))
    refine dF s2 rfl fun j h3 s3=>?_
    (repeat (first|refine an ?_|refine bi ?_|refine aj ‹_› (by first|exact .head _|exact .tail _ (.head _)) rfl ?_))
    exact kq _ s3.fr
   ·have s2:=s1.call f2
    unfold gI at k
    rcases J8 (fun y:Sy=>decide (y.1=s)) syms with ⟨e1,e2⟩|⟨j,hj,e1,e2⟩
    ·rw[e1]
     rw[e2]at k
     (repeat refine aP ?_)
     exact k _ s2.fr
    ·rw[e1]
     rw[e2]at k
     (repeat refine aP ?_)
     refine (r.fr s2.fr).idx (fun _=>rfl) hj fun p t=>?_
     refine Fy t (nle rfl) fun q t2=>?_
     refine aE t2 ?_
     refine i9 _ ?_
     (repeat refine ax rfl ?_)
     exact k _ s2.fr
 | .neg e,hk,h,Q,v,r,k=>by
   refine ic _ _ _ _ _ ?_
   unfold kO
   refine dF (St.start h) rfl fun i h1 s1=>?_
   have s1:St h [] h1 [(i,true,.cells (cY (.neg e)))]:=s1
   (repeat (first|refine an ?_|refine ep ?_|refine aB ?_|refine aj ‹_› (.head _) rfl ?_))
   have R1:∀ h,Row cY 4 h (.full 1 (cY e)) [e]:=fun h=>by
    have:=Row.full (h:=h) (enc:=cY) ay [e]
    simpa using this
   refine (R1 h1).idx ay (j:=0) (by simp) fun p t=>?_
   refine cb t (ay e).symm ?_
   refine z8 here syms hl e hk h1 _ (r.fr s1.fr) fun h2 f2=>?_
   have s2:=s1.call f2
   have hin:=B4 here syms e
   unfold gI at k
   (repeat (first|refine ax rfl ?_|refine cE ?_))
   refine ag (fun h1=>?_) (fun h1=>?_)<;>simp only[za,zb,zc,zd,ze,zf,zg,zh,zi,u8i,zj,zk,zl]at h1
   ·rw[if_pos h1]at k
    exact k _ s2.fr
   ·rw[if_neg (by omega)]at k
    (repeat (first|refine an ?_|refine ep ?_|refine aB ?_|refine aj ‹_› (.head _) rfl ?_))
    refine KN (by simp[evV];omega) ?_
    refine i9 _ ?_
    (repeat refine ax rfl ?_)
    exact k _ s2.fr
 | .bin kd a b,hk,h,Q,v,r,k=>by
   obtain⟨hkd,hka,hkb⟩:=hk
   refine ic _ _ _ _ _ ?_
   unfold kO
   refine dF (St.start h) rfl fun i h1 s1=>?_
   have s1:St h [] h1 [(i,true,.cells (cY (.bin kd a b)))]:=s1
   have R2:∀ h,Row cY 4 h (.full 2 (cY a++cY b)) [a,b]:=fun h=>by
    have:=Row.full (h:=h) (enc:=cY) ay [a,b]
    simpa using this
   (repeat (first|refine an ?_|refine aB ?_|refine aj ‹_› (.head _) rfl ?_))
   refine ag (fun hb=>absurd hb (by simp;omega)) (fun _=>?_)
   (repeat (first|refine an ?_|refine aB ?_|refine aj ‹_› (.head _) rfl ?_))
   refine ag (fun hb=>absurd hb (by simp;omega)) (fun _=>?_)
   (repeat (first|refine an ?_|refine aB ?_|refine aj ‹_› (.head _) rfl ?_))
   refine ag (fun hb=>absurd hb (by simp;omega)) (fun _=>?_)
   (repeat (first|refine an ?_|refine ep ?_|refine aB ?_|refine aj ‹_› (.head _) rfl ?_))
   refine (R2 h1).idx ay (j:=0) (by simp) fun p t=>?_
   refine cb t (ay a).symm ?_
   refine z8 here syms hl a hka h1 _ (r.fr s1.fr) fun h2 f2=>?_
   have s2:=s1.call f2
   have hin:=B4 here syms a
   have hin2:=B4 here syms b
   unfold gI at k
   (repeat (first|refine ax rfl ?_|refine cE ?_))
   refine ag (fun ha=>?_) (fun ha=>?_)<;>simp only[za,zb,zc,zd,ze,zf,zg,zh,zi,u8i,zj,zk,zl]at ha
   ·rw[if_pos ha]at k
    exact k _ s2.fr
   rw[if_neg (by omega)]at k
   (repeat (first|refine an ?_|refine ep ?_|refine aB ?_|refine aj ‹_› (.head _) rfl ?_))
   refine (R2 h2).idx ay (j:=1) (by simp) fun p t=>?_
   refine cb t (ay b).symm ?_
   refine z8 here syms hl b hkb h2 _ (r.fr s2.fr) fun h3 f3=>?_
   have s3:=s2.call f3
   (repeat (first|refine ax rfl ?_|refine cE ?_))
   refine ag (fun hb=>?_) (fun hb=>?_)<;>simp only[za,zb,zc,zd,ze,zf,zg,zh,zi,u8i,zj,zk,zl]at hb
   ·rw[if_pos hb]at k
    exact k _ s3.fr
   rw[if_neg (by omega)]at k
   (repeat (first|refine an ?_|refine aj ‹_› (.head _) rfl ?_))
   refine RV kd _ _ hin hin2 ?_
   (repeat refine ax rfl ?_)
   exact k _ s3.fr
end
end
section
variable [Tabs]
def rL (out:List Str) (n:Str):List Str:=if out.any (fun y=>decide (n=y))=true then out else out++[n]
def bQ:Ex→List Str
 | .name s=>[s]
 | .neg e=>(bQ e).foldl rL []
 | .bin _ a b=>(bQ b).foldl rL ((bQ a).foldl rL [])
 | _=>[]
def iw:Ex→Nat
 | .neg e=>1+iw e
 | .bin _ a b=>1+iw a+iw b
 | _=>1
theorem PE (out:List Str) (n:Str):(rL out n).length≤out.length+1:=by unfold rL;split<;>simp
theorem ul:∀ (l out:List Str),(l.foldl rL out).length≤out.length+l.length
 | [],out=>by simp
 | n::l,out=>by
   have h1:=ul l (rL out n)
   have h2:=PE out n
   simp only[List.foldl_cons,List.length_cons];omega
theorem jo:∀ e:Ex,(bQ e).length≤iw e
 | .none=>by simp[bQ]
 | .num _=>by simp[bQ]
 | .here=>by simp[bQ]
 | .name _=>by simp[bQ,iw]
 | .neg e=>by
   have h1:=ul (bQ e) []
   have h2:=jo e
   simp only[bQ,iw,List.length_nil]at *;omega
 | .bin k a b=>by
   have h1:=ul (bQ a) []
   have h2:=ul (bQ b) ((bQ a).foldl rL [])
   have h3:=jo a
   have h4:=jo b
   simp only[bQ,iw,List.length_nil]at *;omega
def dz:Ex→List Ex
 | .neg e=>[e]
 | .bin _ a b=>[a,b]
 | _=>[]
def Nd:Ex→List Str
 | .name s=>[s]
 | _=>[]
theorem Nt (e:Ex):bQ e=(dz e).foldl (fun out c=>(bQ c).foldl rL out) (Nd e):=by cases e<;>rfl
theorem w5 {e c:Ex}(h:c∈dz e):iw c<iw e:=by
 cases e<;>simp[dz]at h
 ·subst h;simp[iw]
 ·rcases h with rfl|rfl<;>simp[iw]<;>omega
theorem AY {e c:Ex}(hk:okE e) (h:c∈dz e):okE c:=by
 cases e<;>simp[dz]at h
 ·subst h;exact hk
 ·rcases h with rfl|rfl
  ·exact hk.2.1
  ·exact hk.2.2
abbrev sE:Str→List AV:=fun x=>[T x]
theorem Br (e:Ex) (h:ab):Row cY 4 h ((cY e)[3]'(by rw[ay];omega)) (dz e):=by
 cases e with
 | none=>exact .nil
 | num n=>exact .nil
 | name s=>exact .nil
 | here=>exact .nil
 | neg e=>simpa [cY,dz] using Row.full (h:=h) (enc:=cY) ay [e]
 | bin k a b=>simpa [cY,dz] using Row.full (h:=h) (enc:=cY) ay [a,b]
theorem BW:∀ (n:Nat) (e:Ex),okE e→iw e≤n→n<100000000→∀ (h:ab) (Q:QT),(∀ h',Fr [] h h'→Q (.snap (bQ e).length ((bQ e).flatMap sE)) h')→C jb [.agg (cY e)] h Q
 | 0,e,_,hn,_,h,Q,k=>by cases e<;>simp[iw]at hn
 | n+1,e,hok,hn,hn2,h,Q,k=>by
   refine CB _ _ _ ?_
   unfold AQ
   refine dF (St.start h) rfl fun i h1 s1=>?_
   have s1:St h [] h1 [(i,true,.cells (cY e))]:=s1
   have RC:=Br e
   have rest:∀ (v:AV) (E:Own) (h2:ab),AccE 1 v (Nd e).length ((Nd e).flatMap sE) E→St h [] h2 (E++[(i,true,.cells (cY e))])→j1 v (.ptr i 0) h2 Q:=by
    intro v E h2 a s2
    unfold j1
    (repeat refine an ?_)
    refine aj (a.rest s2) (.head _) (List.getElem?_eq_getElem (by rw[ay];decide)) ?_
    refine (RC h2).len ?_
    refine aR (fun m vs h'=>∃ (j:Nat) (v:AV) (out:List Str) (E:Own),vs=[v,I (j:Nat)]∧m+j=(dz e).length∧AccE 1 v out.length (out.flatMap sE) E∧St h [] h' (E++[(i,true,.cells (cY e))])∧
     out=((dz e).take j).foldl (fun out c=>(bQ c).foldl rL out) (Nd e)∧out.length≤1+j*n) (dz e).length ⟨0,v,Nd e,E,rfl,by omega,a,s2,rfl,by cases e<;>simp[Nd]⟩ ?_
    rintro m vs h3 ⟨j,v,out,E,rfl,hm,a,s3,hout,hol⟩
    unfold sA
    (repeat refine aP ?_)
    have hcl:(dz e).length≤2:=by cases e<;>simp[dz]
    refine ag (fun hb=>?_) (fun hb=>?_)<;>simp only[za,zb,zc,zd,ze,zf,zg,zh,zi,u8i,zj,zk,zl]at hb
    ·have hj:j<(dz e).length:=hb
     have hc:=w5 (List.getElem_mem hj)
     refine (RC h3).idx ay hj fun p t=>?_
     refine cb t (ay _).symm ?_
     refine bk s3 fun q h4 s4=>?_
     refine bl s4 rfl (ay _) (bW _) .head fun h5 s5=>?_
     refine bd s5 (ay _) (.head _) ?_
     refine BW n (dz e)[j] (AY hok (List.getElem_mem hj)) (by omega) (by omega) h5 _ fun h6 f6=>?_
     have s6:=(s5.call f6).drop1
     have hnl:=jo (dz e)[j]
     (repeat refine dy ?_)
     have RN6:∀ h,Row sE 1 h (.snap (bQ (dz e)[j]).length ((bQ (dz e)[j]).flatMap sE)) (bQ (dz e)[j]):=fun h=>Row.snap (enc:=sE) (fun _=>rfl) _
     generalize hns:bQ (dz e)[j]=ns at RN6 hnl ⊢
     have hb2:j*n≤2*n:=Nat.mul_le_mul_right _ (by omega)
     refine aR (fun m2 vs h'=>∃ (q:Nat) (v:AV) (o:List Str) (E:Own),vs=[v,I (q:Nat)]∧m2+q=ns.length∧AccE 1 v o.length (o.flatMap sE) E∧St h [] h' (E++[(i,true,.cells (cY e))])∧
      o=(ns.take q).foldl rL out∧o.length≤out.length+q) ns.length ⟨0,v,out,E,rfl,by omega,a,s6,rfl,by omega⟩ ?_
     rintro m2 vs h7 ⟨q2,v2,o,E2,rfl,hm2,a2,s7,ho,hoo⟩
     unfold tI
     (repeat refine aP ?_)
     refine ag (fun hb3=>?_) (fun hb3=>?_)<;>simp only[za,zb,zc,zd,ze,zf,zg,zh,zi,u8i,zj,zk,zl]at hb3
     ·have hq:q2<ns.length:=hb3
      refine (RN6 h7).idx (fun _=>rfl) hq fun p t=>?_
      refine aE t ?_
      have RO:Row sE 1 h7 v2 o:=a2.rd s7
      refine vW ns[q2] o (by omega) RO ?_
      have hnext:(ns.take (q2+1)).foldl rL out=rL o ns[q2]:=by
       rw[List.take_succ_eq_append_getElem hq,List.foldl_append,← ho];rfl
      refine dA ?_
      cases hc2:o.any fun y=>decide (ns[q2]=y) with
      | true=>
        refine ag (fun h=>by cases h) (fun _=>?_)
        unfold kw o5
        refine aH (by omega) ?_
        refine⟨m2-1,by omega,q2+1,v2,o,E2,rfl,by omega,a2,s7,?_,by omega⟩
        rw[hnext,rL,if_pos hc2]
      | false=>
        refine ag (fun _=>?_) (fun h=>by cases h)
        refine aG rfl rfl ?_
        refine a2.app s7 (xs:=[T ns[q2]]) (m:=1) (Rd.full rfl) rfl (by omega) fun v3 E3 h8 a3 s8=>?_
        unfold kw o5
        refine aH (by omega) ?_
        refine⟨m2-1,by omega,q2+1,v3,o++[ns[q2]],E3,rfl,by omega,by simpa using a3,s8,?_,by simp;omega⟩
        rw[hnext,rL,if_neg (by simp[hc2])]
     ·have hq:ns.length≤q2:=by omega
      rw[List.take_of_length_le hq]at ho
      refine aH (by omega) ?_
      have hj1:(j+1)*n=j*n+n:=by rw[Nat.add_mul];omega
      refine⟨m-1,by omega,j+1,v2,o,E2,rfl,by omega,a2,s7,?_,by omega⟩
      rw[List.take_succ_eq_append_getElem hj,List.foldl_append,← hout,ho,← hns];rfl
    ·have hj:(dz e).length≤j:=by omega
     rw[List.take_of_length_le hj,← Nt]at hout
     have hnl:=jo e
     have hol2:out.length=(bQ e).length:=by rw[hout]
     refine zy (by omega) (a.rd s3) fun h4 f4=>?_
     rw[hout]
     exact k h4 (s3.call f4).fr
   cases e with
   | name s=>
     (repeat (first|refine an ?_|refine aB ?_|refine aj ‹_› (.head _) rfl ?_|refine aG rfl rfl ?_))
     refine ov s1 (Rd.full (n:=1) (cs:=[T s]) rfl) (by decide) (fun h=>by omega) fun j h2 _ s2=>?_
     exact rest _ [(j,true,.cells [T s])] h2 (.inr ⟨rfl,j,rfl,rfl⟩) s2
   | none=>
     refine an (aj s1 (.head _) rfl (aB (ag (fun h=>absurd h (by decide)) (fun _=>?_))))
     exact rest _ [] _ (.none _) s1
   | num n=>
     refine an (aj s1 (.head _) rfl (aB (ag (fun h=>absurd h (by decide)) (fun _=>?_))))
     exact rest _ [] _ (.none _) s1
   | here=>
     refine an (aj s1 (.head _) rfl (aB (ag (fun h=>absurd h (by decide)) (fun _=>?_))))
     exact rest _ [] _ (.none _) s1
   | neg e=>
     refine an (aj s1 (.head _) rfl (aB (ag (fun h=>absurd h (by decide)) (fun _=>?_))))
     exact rest _ [] _ (.none _) s1
   | bin k a b=>
     have hk2:=hok.1
     refine an (aj s1 (.head _) rfl (aB (ag (fun h=>absurd h (by simp;omega)) (fun _=>?_))))
     exact rest _ [] _ (.none _) s1
end
section
variable [Tabs]
def Bx (fv:AV) (p:UInt8→Bool):Prop:=∀ (c:UInt8) (h:ab) (Q:QT),Q (B (p c)) h→CV fv [U8 c] h Q
section
variable {h:ab}{Q:QT}
def c8 (p:UInt8→Bool) (l:Str):Nat:=(l.takeWhile p).length
theorem Da (p:UInt8→Bool) (l:Str):c8 p l≤l.length:=(List.takeWhile_sublist _).length_le
theorem DW {p:UInt8→Bool}{l:Str}:c8 p l=l.length↔l.all p=true:=by
 unfold c8
 constructor
 ·intro h
  have:l.takeWhile p=l:=(List.takeWhile_sublist p).eq_of_length h
  rw[List.all_eq_true]
  exact takeWhile_self.1 this
 ·intro h
  rw[List.all_eq_true]at h
  rw[takeWhile_self.2 h]
theorem pD {fv:AV}{p:UInt8→Bool}(ht:Bx fv p) (l:Str) (hl:l.length<4611686018427387904) (k:Q (I (c8 p l:Nat)) h):C ej [T l,fv] h Q:=by
 refine Cw _ _ _ _ ?_
 unfold AO
 refine aR (fun n vs h'=>h'=h∧∃ i:Nat,vs=[I (i:Nat)]∧n+i=l.length∧∀ j (hj:j<l.length),j<i→p l[j]=true) l.length ⟨rfl,0,rfl,by omega,fun j _ hj=>by omega⟩ ?_
 rintro n vs h' ⟨rfl,i,rfl,hn,ha⟩
 unfold uR
 (repeat (first|refine bD ?_|refine aP ?_))
 refine ag (fun hb=>?_) (fun hb=>?_)<;>simp only[za,zb,zc,zd,ze,zf,zg,zh,zi,u8i,zj,zk,zl]at hb
 ·have hi:i<l.length:=hb
  refine co hi ?_
  refine ht l[i] _ _ ?_
  cases hp:p l[i] with
  | true=>
    refine ag (fun _=>?_) (fun h=>by cases h)
    (repeat refine aH (by omega) ?_)
    refine⟨n-1,by omega,rfl,i+1,rfl,by omega,fun j hj hj2=>?_⟩
    rcases Nat.lt_or_eq_of_le (Nat.le_of_lt_succ hj2) with h1|h1
    ·exact ha j hj h1
    ·subst h1;exact hp
  | false=>
    refine ag (fun h=>by cases h) (fun _=>?_)
    have:c8 p l=i:=by
     unfold c8
     rw[pq hi (fun j hj=>ha j (by omega) hj) hp];simp;omega
    rw[this]at k;exact k
 ·have:c8 p l=i:=by
   unfold c8
   rw[uI fun j hj=>ha j hj (by omega)];omega
  rw[this]at k;exact k
abbrev pf (c:UInt8):Bool:=dZ c.toNat
abbrev ff (c:UInt8):Bool:=j8 c.toNat
theorem xu (c:UInt8) (k:Q (B (pf c)) h):C dK [U8 c] h Q:=by
 refine CD _ _ _ ?_
 unfold BU
 have e1:decide ((48:Int)≤c.toNat)=decide (48≤c.toNat):=rz (a:=48)
 have e2:decide ((c.toNat:Int)≤57)=decide (c.toNat≤57):=rz (b:=57)
 unfold pf dZ at k
 refine cy ?_
 rw[e1]
 cases h1:decide (48≤c.toNat) with
 | true=>
   refine ag (fun _=>?_) (fun h=>by cases h)
   refine mf ?_
   rw[h1,Bool.true_and]at k
   rw[e2];exact k
 | false=>
   refine ag (fun h=>by cases h) (fun _=>?_)
   rw[h1,Bool.false_and]at k;exact k
theorem MN (c:UInt8) (k:Q (B (ff c)) h):C iV [U8 c] h Q:=by
 refine C1 _ _ _ ?_
 unfold Cb
 have e1:decide ((97:Int)≤c.toNat)=decide (97≤c.toNat):=rz (a:=97)
 have e2:decide ((c.toNat:Int)≤122)=decide (c.toNat≤122):=rz (b:=122)
 have e3:decide ((c.toNat:Int)=95)=decide (c.toNat=95):=TM (b:=95)
 unfold ff j8 x0 at k
 have tail:∀ (h':h=h),(Q (B (decide (c.toNat=95)||dZ c.toNat)) h)→ah .eql (U8 c) (.lit (.int .u8 95)) fun t11=>ifB t11 (Q (B true) h) (C dK [U8 c] h fun t15 h0=>Q t15 h0):=by
  intro _ k
  refine aB ?_
  rw[e3]
  cases h3:decide (c.toNat=95) with
  | true=>
    refine ag (fun _=>?_) (fun h=>by cases h)
    rw[h3,Bool.true_or]at k;exact k
  | false=>
    refine ag (fun h=>by cases h) (fun _=>?_)
    rw[h3,Bool.false_or]at k
    exact xu c k
 refine cy ?_
 rw[e1]
 cases h1:decide (97≤c.toNat) with
 | true=>
   refine ag (fun _=>?_) (fun h=>by cases h)
   rw[h1,Bool.true_and]at k
   refine mf ?_
   rw[e2]
   cases h2:decide (c.toNat≤122) with
   | true=>
     refine ag (fun _=>?_) (fun h=>by cases h)
     rw[h2,Bool.true_or,Bool.true_or]at k;exact k
   | false=>
     refine ag (fun h=>by cases h) (fun _=>?_)
     rw[h2,Bool.false_or]at k
     exact tail rfl k
 | false=>
   refine ag (fun h=>by cases h) (fun _=>?_)
   rw[h1,Bool.false_and,Bool.false_or]at k
   exact tail rfl k
theorem OU:Bx (.fn (.func iV) [] []) ff:=fun c h Q k=>MN c k
theorem Rc:Bx (.fn (.func dK) [] []) pf:=fun c h Q k=>xu c k
theorem vF {p:UInt8→Bool}{l:Str}:decide (((c8 p l:Nat):Int)≠((l.length:Nat):Int))=!(l.all p):=by
 rw[Bool.eq_iff_iff,decide_eq_true_eq,Bool.not_eq_true',← Bool.not_eq_true,← DW];omega
theorem Mw (s:Str) (hs:s.length<4611686018427387904) (k:Q (B (sJ s)) h):C mV [T s] h Q:=by
 refine FM _ _ _ ?_
 unfold Dc
 cases s with
 | nil=>(repeat refine bi ?_);exact k
 | cons c t=>
 dsimp only[sJ]at k
 (repeat (first|refine bD ?_|refine cO ?_|refine bi ?_))
 refine ag (fun hl=>?_) (fun hl=>?_)<;>simp only[za,zb,zc,zd,ze,zf,zg,zh,zi,u8i,zj,zk,zl]at hl
 ·have e:decide ((c::t).length≤12)=false:=by simp at hl ⊢;omega
  rw[e,Bool.false_and]at k
  exact k
 have e:decide ((c::t).length≤12)=true:=by simp at hl ⊢;omega
 rw[e,Bool.true_and]at k
 refine fK (by omega) (by simp) ?_
 refine xu c ?_
 cases h2:pf c with
 | true=>
   refine ag (fun _=>?_) (fun h=>by cases h)
   rw[show dZ c.toNat=true from h2]at k
   exact k
 | false=>
 refine ag (fun h=>by cases h) (fun _=>?_)
 rw[show dZ c.toNat=false from h2]at k
 simp only[Bool.not_false,Bool.true_and]at k
 refine pD OU _ hs ?_
 refine bD ?_
 refine cE ?_
 rw[vF]
 cases h3:(c::t).all ff with
 | false=>
   refine ag (fun _=>?_) (fun h=>by cases h)
   rw[show ((c::t).all fun c=>j8 c.toNat)=false from h3,Bool.false_and]at k
   exact k
 | true=>
 refine ag (fun h=>by cases h) (fun _=>?_)
 rw[show ((c::t).all fun c=>j8 c.toNat)=true from h3,Bool.true_and]at k
 refine fK (by omega) (by simp) ?_
 refine cE ?_
 have e4:decide ((((c::t)[Int.toNat 0].toNat:Nat):Int)≠114)=decide (c≠114):=by
  rw[Bool.eq_iff_iff];simp[← UInt8.toNat_inj];omega
 rw[e4]
 cases h4:decide (c≠114) with
 | true=>
   refine ag (fun _=>?_) (fun h=>by cases h)
   rw[h4,Bool.true_or]at k
   exact k
 | false=>
 refine ag (fun h=>by cases h) (fun _=>?_)
 rw[h4,Bool.false_or]at k
 (repeat (first|refine bD ?_|refine aB ?_))
 cases t with
 | nil=>refine ag (fun _=>?_) (fun hb=>(by exfalso;first|(simp at hb;done)|(simp at hb;omega)|(revert hb;decide)|omega));exact k
 | cons d t=>
 refine ag (fun h=>by simp at h;omega) (fun _=>?_)
 refine gm (by omega) (by simp;omega) ?_
 rw[show ((c::d::t).drop (Int.toNat 1))=d::t from rfl]
 refine pD Rc (d::t) (by simp at hs ⊢;omega) ?_
 refine bD ?_
 refine dD (by simp at hs ⊢;omega) ?_
 refine cE ?_
 rw[show (((c::d::t).length:Nat):Int)-1=(((d::t).length:Nat):Int) by simp,vF]
 exact k
def iG:Prop:=∀ (s:Str),1≤s.length→s.length≤2→s.all pf=true→∀ (h:ab) (Q:QT),Q (.tup [I (s.foldl (fun n c=>n*10+(c.toNat-48)) 0:Nat),.lit .nilIface]) h→C d7 [T s] h Q
def SF (s:Str):Nat:=s.foldl (fun n c=>n*10+(c.toNat-48)) 0
def zx (s:Str):Nat×Bool:=match s with
 | c::t=>if decide (c=114)&&(decide (t.length=1∨t.length=2)&&(t.all pf&&!(decide (t.length=2)&&decide (t.head?=some 48)))) then (SF t,decide (SF t<32)) else (0,false)
 | []=>(0,false)
theorem IQ (hA:iG) (s:Str) (hs:s.length<4611686018427387904) (k:Q (.tup [I ((zx s).1:Nat),B (zx s).2]) h):C kN [T s] h Q:=by
 refine xw _ _ _ ?_
 unfold uO
 (repeat (first|refine bD ?_|refine aP ?_))
 cases s with
 | nil=>refine ag (fun _=>?_) (fun hb=>(by exfalso;first|(simp at hb;done)|(simp at hb;omega)|(revert hb;decide)|omega));exact k
 | cons c t=>
 dsimp only[zx]at k
 refine ag (fun h1=>?_) (fun h1=>?_)<;>simp only[za,zb,zc,zd,ze,zf,zg,zh,zi,u8i,zj,zk,zl]at h1
 ·have:t.length=0:=by simp at h1;omega
  rw[if_neg (by simp;omega)]at k
  exact k
 (repeat (first|refine bD ?_|refine cO ?_))
 refine ag (fun h2=>?_) (fun h2=>?_)<;>simp only[za,zb,zc,zd,ze,zf,zg,zh,zi,u8i,zj,zk,zl]at h2
 ·rw[if_neg (by simp at h2 ⊢;omega)]at k
  exact k
 have ht:t.length=1∨t.length=2:=by simp at h1 h2;omega
 refine fK (by omega) (by simp) ?_
 (repeat refine cE ?_)
 have e4:decide ((((c::t)[Int.toNat 0].toNat:Nat):Int)≠114)=decide (c≠114):=by
  rw[Bool.eq_iff_iff];simp[← UInt8.toNat_inj];omega
 rw[e4]
 refine ag (fun h3=>?_) (fun h3=>?_)<;>simp only[za,zb,zc,zd,ze,zf,zg,zh,zi,u8i,zj,zk,zl]at h3
 ·rw[if_neg (by simp[h3])]at k
  exact k
 have h3:c=114:=by simpa using h3
 refine gm (by omega) (by simp;omega) ?_
 rw[show ((c::t).drop (Int.toNat 1))=t from rfl]
 refine pD Rc t (by omega) ?_
 (repeat (first|refine bD ?_|refine cE ?_|refine dD (by omega) ?_))
 rw[show (((c::t).length:Nat):Int)-1=((t.length:Nat):Int) by simp,vF]
 cases h5:t.all pf with
 | false=>
   refine ag (fun _=>?_) (fun h=>by cases h)
   rw[if_neg (by simp[h5])]at k
   exact k
 | true=>
 refine ag (fun h=>by cases h) (fun _=>?_)
 (repeat (first|refine bD ?_|refine aB ?_))
 have fin:(!(decide (t.length=2)&&decide (t.head?=some 48)))=true→aM (T (c::t)) (some (I 1)) none fun t40=>C d7 [t40] h fun t41 h1=>am 0 t41 fun t42=>am 1 t41 fun t43=>ah .lss t42 (I 32) fun t46=>Q (.tup [t42,t46]) h1:=by
  intro hz
  refine gm (by omega) (by simp;omega) ?_
  rw[show ((c::t).drop (Int.toNat 1))=t from rfl]
  refine hA t (by omega) (by omega) h5 _ _ ?_
  (repeat (first|refine ax rfl ?_|refine aP ?_))
  rw[if_pos (by simp only[h3,h5,hz,decide_true,Bool.true_and,Bool.and_true,decide_eq_true_eq];exact ht)]at k
  have e5:decide (((t.foldl (fun n c=>n*10+(c.toNat-48)) 0:Nat):Int)<32)=decide (SF t<32):=by
   unfold SF;rw[Bool.eq_iff_iff,decide_eq_true_eq,decide_eq_true_eq];omega
  rw[e5]
  exact k
 cases h6:decide (t.length=2) with
 | true=>
   simp only[decide_eq_true_eq]at h6
   obtain⟨a,b,rfl⟩:∃ a b,t=[a,b]:=by
    match t,h6 with
    | [a,b],_=>exact⟨a,b,rfl⟩
   have e6:decide ((([c,a,b].length:Nat):Int)=3)=true:=by simp
   rw[e6]
   refine gd (ag (fun _=>?_) (fun h=>by cases h)) ⟨_,rfl⟩
   refine fK (by omega) (by simp) ?_
   refine aB ?_
   have e7:decide ((([c,a,b][Int.toNat 1].toNat:Nat):Int)=48)=decide (a=48):=by
    rw[Bool.eq_iff_iff];simp[← UInt8.toNat_inj];omega
   rw[e7]
   refine ag (fun h8=>?_) (fun h8=>?_)<;>simp only[za,zb,zc,zd,ze,zf,zg,zh,zi,u8i,zj,zk,zl]at h8
   ·rw[if_neg (by simp[h8])]at k;exact k
   ·exact fin (by simp[h8])
 | false=>
   simp only[decide_eq_false_iff_not]at h6
   have e6:decide ((((c::t).length:Nat):Int)=3)=false:=by simp;omega
   rw[e6]
   refine gd (ag (fun h=>by cases h) (fun _=>?_)) ⟨_,rfl⟩
   exact fin (by simp[h6])
def cH (s:Str):List Str:=if s=[] then [] else (bM 44 s).map pN
theorem kV (c:UInt8):∀ (l x:Str),x∈bM c l→x.length≤l.length
 | [],x,h=>by simp[bM]at h;subst h;simp
 | a::l,x,h=>by
   unfold bM at h
   split at h
   ·rcases List.mem_cons.1 h with rfl|h
    ·simp
    ·have:=kV c l x h;simp;omega
   ·cases hs:bM c l with
    | nil=>rw[hs]at h;simp at h;subst h;simp
    | cons p ps=>
      rw[hs]at h
      rcases List.mem_cons.1 h with rfl|h
      ·have:=kV c l p (by rw[hs];simp);simp;omega
      ·have:=kV c l x (by rw[hs];simp[h]);simp;omega
theorem F4 (hI:gf) (s:Str) (hs:s.length<4000000000) (k:∀ h',Fr [] h h'→Q (.snap (cH s).length ((cH s).flatMap sE)) h'):C kX [T s] h Q:=by
 refine ACall.conv ?_
 refine x5 _ _ _ ?_
 unfold uE
 unfold cH at k
 (repeat refine bi ?_)
 refine ag (fun hb=>?_) (fun hb=>?_)<;>simp only[za,zb,zc,zd,ze,zf,zg,zh,zi,u8i,zj,zk,zl]at hb
 ·rw[if_pos hb]at k
  exact dT (k _ (Fr.refl _ _))
 rw[if_neg hb]at k
 refine DM hI 44 s hs fun i h1 s1=>?_
 have hsum:=kV 44 s
 have hlen:=jx 44 s
 have hcnt:=List.count_le_length (a:=44) (l:=s)
 generalize bM 44 s=ps at s1 k hsum hlen ⊢
 (repeat refine O6 ?_)
 refine aR (fun n vs h'=>∃ j:Nat,vs=[I (j:Nat)]∧n+j=ps.length∧St h [] h' [(i,true,.cells (((ps.take j).map pN++ps.drop j).flatMap fun x=>[T x]))]) ps.length ⟨0,rfl,by omega,by simpa using s1⟩ ?_
 rintro n vs h2 ⟨j,rfl,hn,s2⟩
 unfold p9
 (repeat refine aP ?_)
 have hll:((ps.take j).map pN++ps.drop j).length=ps.length:=by simp;omega
 refine ag (fun hb2=>?_) (fun hb2=>?_)<;>simp only[za,zb,zc,zd,ze,zf,zg,zh,zi,u8i,zj,zk,zl]at hb2
 ·have hj:j<ps.length:=hb2
  refine zU hj ?_
  rw[Nat.mul_one]
  have hx:((ps.take j).map pN++ps.drop j)[j]?=some ps[j]:=by
   rw[List.getElem?_append_right (by simp;omega),List.getElem?_drop]
   have:j+(j-((ps.take j).map pN).length)=j:=by simp;omega
   rw[this];simp[hj]
  refine aj (a:=T ps[j]) s2 (.head _) (by rw[P5,List.getElem?_map,hx];rfl) ?_
  refine zX _ (by have:=hsum _ (List.getElem_mem hj);omega) fun h3 f3=>?_
  have s3:=s2.call f3
  refine zU hj ?_
  rw[Nat.mul_one]
  refine aF s3 .head rfl rfl rfl (by rw[gu _ 1 (fun _=>rfl),hll];omega) fun h4 s4=>?_
  rw[show (T (pN ps[j])).cells=[T (pN ps[j])] from rfl,vp (by omega)]at s4
  (repeat refine aH (by omega) ?_)
  refine⟨n-1,by omega,j+1,rfl,by omega,?_⟩
  have e:((ps.take j).map pN++ps.drop j).set j (pN ps[j])=(ps.take (j+1)).map pN++ps.drop (j+1):=by
   rw[List.set_append_right _ _ (by simp;omega),show j-((ps.take j).map pN).length=0 by simp;omega,List.drop_eq_getElem_cons hj,List.set_cons_zero,List.take_succ_eq_append_getElem hj,List.map_append,List.append_assoc];rfl
  rw[e]at s4;exact s4
 ·rw[List.take_of_length_le (by omega),List.drop_of_length_le (by omega),List.append_nil]at s2
  have:=mN (n:=ps.length) (sz:=1) (Q:=Q) (s2.get (i:=i) (.head _)) (by rw[gu _ 1 (fun _=>rfl)];simp) (by
   have:=k _ (s2.kill .head).fr
   simpa using this)
  exact this
