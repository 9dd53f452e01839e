import Derived.Test.YtbhphjpgjgigpaaGreatDoorAI3
import Derived.Laws.RangeString
import Derived.Laws.RangeAny
set_option linter.all false
set_option autoImplicit true
set_option relaxedAutoImplicit true
set_option maxRecDepth 100000
namespace Go.Proofs.YtbhphjpgjgigpaaGreatDoor.AL
noncomputable section
section
variable [Tabs]
def kI:List Str→List Int→Int→Option Int
 | k::ks,v::vs,b=>match iA k v with
   | some n=>kI ks vs (orI .u32 b n)
   | none=>none
 | _,_,b=>some b
def fH (op:Nat) (vs:List Int):Option Int:=
 if (cM (aU op)).length=vs.length then kI (cM (aU op)) vs (Gd op) else none
theorem Ix {ks:List Str}{vs:List Int}{i:Nat}(h1:i<ks.length) (h2:i<vs.length) (b:Int):kI (ks.drop i) (vs.drop i) b=match iA ks[i] vs[i] with|some n=>kI (ks.drop (i+1)) (vs.drop (i+1)) (orI .u32 b n)|none=>none:=by
 rw[List.drop_eq_getElem_cons h1,List.drop_eq_getElem_cons h2,kI]
omit [Tabs] in
theorem xP:∀ r∈tbl,(cM r.kinds).length≤3:=by decide
theorem Lh (hF:cg) (hL:da) {op:Nat}(ho:op<tbl.length) (vs:List Int) (hv:∀ v∈vs,dp v) {fv:AV}{h:ab}(r:Row (fun v:Int=>[I v]) 1 h fv vs) {Q:QT}(q:PutK (fH op vs) h Q):C n5 [.agg [I (op:Nat),fv]] h Q:=by
 refine He _ _ _ ?_
 unfold Hz
 have hfv:fv.isTup=false∧fv.cells=[fv]:=by
  have:=r.1;unfold uu at this;split at this<;>first|exact⟨rfl,rfl⟩|cases this
 refine dz (St.start h) rfl fun i h1 s1=>?_
 have e1:(AV.agg [I (op:Nat),fv]).cells=[I (op:Nat),fv]:=rfl
 rw[e1]at s1
 (repeat (first|refine ak ?_|refine ai ‹_› (.head _) rfl ?_))
 refine LF ho fun h2 f2=>?_
 have s2:=s1.call f2
 (repeat refine be ?_)
 have hn:Cb op≠[]:=by rw[x4 ho];exact LZ _ (by simp)
 refine af (fun hb=>absurd (by simpa using hb) hn) (fun _=>?_)
 (repeat (first|refine ak ?_|refine ai ‹_› (.head _) rfl ?_))
 refine T2 ho _ ?_
 show ACall Pg lz _ _ _
 refine Rg _ fun h3 f3=>?_
 have s3:=s2.call f3
 refine⟨ai s3 (.head _) rfl rfl,?_⟩
 refine TA ho _ ?_
 show ACall Pg i9 _ _ _
 refine Rz hF (by simp) fun h4 f4=>?_
 have s4:=s3.call f4
 rw[← g5 ho,← N9 ho]
 have hk:∀ k∈cM (aU op),k∈RE:=fun k hk=>Pp tbl[op] (by simp) k (by rw[← g5 ho];exact hk)
 (repeat (first|refine ak ?_|refine dr ?_|refine ai ‹_› (.head _) rfl ?_))
 refine (r.fr s4.fr).len ?_
 refine cr ?_
 refine af (fun hl=>?_) (fun hl=>?_)<;>simp only[za,zb,zc,zd,ze,zf,zg,zh,zi,u8i,zj,zk,zl]at hl
 ·exact q.none s4.fr 0 (by unfold fH;rw[if_neg (by omega)])
 have hl:(cM (aU op)).length=vs.length:=by omega
 unfold fH at q
 rw[if_pos hl]at q
 have h3:(cM (aU op)).length≤3:=by rw[g5 ho];exact xP _ (by simp)
 (repeat refine dr ?_)
 have RK:∀ h,Row (fun x=>[T x]) 1 h (.snap (cM (aU op)).length ((cM (aU op)).flatMap fun x=>[T x])) (cM (aU op)):=fun h=>Row.snap (enc:=fun x=>[T x]) (fun _=>rfl) _
 refine aP (fun n vs' h'=>St h [] h' [(i,true,.cells [I (op:Nat),fv])]∧∃ (j:Nat) (x y:AV) (b:Int),vs'=[x,y,U32 b,I (j:Nat)]∧n+j=vs.length∧kI (cM (aU op)) vs (Gd op)=kI ((cM (aU op)).drop j) (vs.drop j) b) vs.length ⟨s4,0,_,_,_,rfl,by omega,rfl⟩ ?_
 rintro n vs' h5 ⟨s5,j,x,y,b,rfl,hn,hc⟩
 unfold yr
 (repeat refine aL ?_)
 refine af (fun hb=>?_) (fun hb=>?_)<;>simp only[za,zb,zc,zd,ze,zf,zg,zh,zi,u8i,zj,zk,zl]at hb
 ·have hj:j<(cM (aU op)).length:=hb
  refine (RK h5).idx (fun _=>rfl) hj fun p t=>?_
  refine aD t ?_
  (repeat (first|refine ak ?_|refine ai ‹_› (.head _) rfl ?_))
  refine (r.fr s5.fr).idx (fun _=>rfl) (show j<vs.length by omega) fun p2 t2=>?_
  refine aD t2 ?_
  rw[Ix hj (by omega)]at hc
  refine Tb hL (hk _ (by simp)) _ (hv _ (by simp)) fun b2 h6 f6 hb2=>?_
  have s6:=s5.call f6
  (repeat (first|refine aw rfl ?_|refine dy ?_))
  cases hp:iA (cM (aU op))[j] vs[j] with
  | none=>
    refine af (fun _=>?_) (fun h=>by cases h)
    rw[hp]at hc
    exact q.none s6.fr 0 hc
  | some m=>
    refine af (fun h=>by cases h) (fun _=>?_)
    rw[hp]at hc
    have:=hb2 m hp
    subst this
    refine qc ?_
    refine aJ (by omega) ?_
    exact⟨n-1,by omega,s6,j+1,_,_,_,rfl,by omega,hc⟩
 ·have hj:vs.length≤j:=by omega
  rw[List.drop_of_length_le (by omega),List.drop_of_length_le (by omega)]at hc
  exact q.some s5.fr (by rw[hc];simp[kI])
theorem H9 (hF:cg) (hL:da) {op:Nat}(ho:op<tbl.length) (vs:List Int) (hv:∀ v∈vs,dp v) {fv:AV}{h:ab}(r:Row (fun v:Int=>[I v]) 1 h fv vs) {Q:QT}(k:∀ h',Fr [] h h'→Q (B (fH op vs).isSome) h'):C mJ [.agg [I (op:Nat),fv]] h Q:=by
 refine Fc _ _ _ ?_
 unfold C8
 refine dz (St.start h) rfl fun i h1 s1=>?_
 (repeat refine aQ ‹_› (.head _) (nle rfl) ?_)
 refine Lh hF hL ho vs hv (r.fr s1.fr) fun b h2 f2 _=>?_
 (repeat refine aw rfl ?_)
 exact k _ (s1.call f2).fr
def Qu (b:Int):List Int:=[IntKind.u8.wrap (Gg .u32 b 24),IntKind.u8.wrap (Gg .u32 b 16),IntKind.u8.wrap (Gg .u32 b 8),IntKind.u8.wrap b]
def Cq (op:Nat) (vs:List Int):Option (List Int):=(fH op vs).map fun b=>(Qu b).drop (4-jo op)
abbrev BI (n:Int):AV:=.lit (.int .u8 n)
theorem MJ (hF:cg) (hL:da) {op:Nat}(ho:op<tbl.length) (vs:List Int) (hv:∀ v∈vs,dp v) {bs:List Int}(he:Cq op vs=some bs) {fv:AV}{h:ab}(r:Row (fun v:Int=>[I v]) 1 h fv vs) {Q:QT}(k:∀ h',Fr [] h h'→Q (.tup [.snap bs.length (bs.flatMap fun x=>[BI x]),B true]) h'):C o9 [.agg [I (op:Nat),fv]] h Q:=by
 refine CP _ _ _ ?_
 unfold Ax
 refine dz (St.start h) rfl fun i h1 s1=>?_
 (repeat refine aQ ‹_› (.head _) (nle rfl) ?_)
 unfold Cq at he
 cases hc:fH op vs with
 | none=>rw[hc]at he;cases he
 | some b0=>
 rw[hc]at he
 refine Lh hF hL ho vs hv (r.fr s1.fr) fun b h2 f2 hb=>?_
 have:=hb b0 hc
 subst this
 have s2:=s1.call f2
 rw[hc]
 (repeat (first|refine aw rfl ?_|refine dy ?_))
 refine af (fun h=>by cases h) (fun _=>?_)
 refine tz (by decide) ?_
 refine eB ?_
 refine tz (by decide) ?_
 refine eB ?_
 refine tz (by decide) ?_
 refine eB ?_
 refine eB ?_
 (repeat (first|refine ak ?_|refine ai ‹_› (.head _) rfl ?_|refine aF rfl rfl ?_))
 refine LY ho fun h3 f3=>?_
 have s3:=s2.call f3
 have hsz:jo op=2∨jo op=4:=by unfold jo;split<;>simp
 simp only[Option.map_some,Option.some.injEq]at he
 rcases hsz with e|e<;>rw[e]at he ⊢<;>subst he
 ·refine dh (by decide) ?_
  refine (⟨(⟨⟨by decide,by decide,by decide⟩,?_⟩:gx 1 (.full 4 _) (some (I 2)) none _)⟩:ln 1 (.full 4 _) (some (I 2)) none _)
  refine oF (n:=2) (cs:=[BI _,BI _]) (by decide) (Rd.snap rfl) fun h4 f4=>?_
  exact k _ (s3.call f4).fr
 ·refine dh (by decide) ?_
  refine (⟨(⟨⟨by decide,by decide,by decide⟩,?_⟩:gx 1 (.full 4 _) (some (I 0)) none _)⟩:ln 1 (.full 4 _) (some (I 0)) none _)
  refine oF (n:=4) (cs:=[BI _,BI _,BI _,BI _]) (by decide) (Rd.snap rfl) fun h4 f4=>?_
  exact k _ (s3.call f4).fr
end
section
variable [Tabs]
abbrev R32 (n:Nat):AV:=.lit (.int .i32 (n:Nat))
def T6 (fv:AV) (p:Nat→Bool):Prop:=∀ (c:Nat) (h:ab) (Q:QT),Q (B (p c)) h→CV fv [R32 c] h Q
theorem Lp {h0 h:ab}{M:List Nat}{L:Own}{l:Str}{i k:Nat}(s:St h0 M h ((i,true,.siter ⟨⟨l⟩⟩ k)::L)) {K:QT}(k0:l.length≤k→K (.tup [B false]) h)
  (k1:∀ (hk:k<l.length) (r w:Nat) (h':ab),St h0 M h' ((i,true,.siter ⟨⟨l⟩⟩ (k+w))::L)→1≤w→(l[k].toNat<128→r=l[k].toNat∧w=1)→(128≤l[k].toNat→128≤r)→K (.tup [B true,I (k:Nat),R32 r]) h'):vk (.ptr i 0) h K:=⟨by
 simp only[qx,s.get (.head _)]
 have hsz:(⟨⟨l⟩⟩:ByteArray).size=l.length:=rfl
 split
 ·rename_i hk
  have hk':k<l.length:=hk
  have hget:((⟨⟨l⟩⟩:ByteArray)[k]'hk)=l[k]:=rfl
  rcases Nat.lt_or_ge l[k].toNat 128 with ha|ha
  ·have:=decode_ascii ⟨⟨l⟩⟩ k hk (by rw[hget];exact ha)
   rw[this,hget]
   exact k1 hk' _ 1 _ (s.turn .head) (Nat.le_refl _) (fun _=>⟨rfl,rfl⟩) (fun h=>by omega)
  ·obtain⟨g1,g2⟩:=decode_high ⟨⟨l⟩⟩ k hk (by rw[hget];exact ha)
   exact k1 hk' _ _ _ (s.turn .head) g2 (fun h=>by omega) (fun _=>g1)
 ·exact k0 (by omega)⟩
theorem takeWhile_self {p:UInt8→Bool}:∀ {l:Str},l.takeWhile p=l↔∀ x∈l,p x=true
 | []=>by simp
 | a::l=>by
   cases h:p a with
   | true=>rw[List.takeWhile_cons_of_pos h];simp[h,takeWhile_self (l:=l)]
   | false=>rw[List.takeWhile_cons_of_neg (by simp[h])];simp[h]
theorem uQ {p:UInt8→Bool}{l:Str}(h:∀ j (hj:j<l.length),p l[j]=true):l.takeWhile p=l:=by
 rw[takeWhile_self]
 intro x hx
 obtain⟨j,hj,rfl⟩:=List.getElem_of_mem hx
 exact h j hj
theorem pg {p:UInt8→Bool}{l:Str}{k:Nat}(hk:k<l.length) (h:∀ j (hj:j<k),p (l[j]'(by omega))=true) (hn:p l[k]=false):l.takeWhile p=l.take k:=by
 conv=>lhs;rw[← List.take_append_drop k l]
 rw[List.takeWhile_append_of_pos,List.drop_eq_getElem_cons hk,List.takeWhile_cons_of_neg (by simp[hn]),List.append_nil]
 intro x hx
 obtain⟨j,hj,rfl⟩:=List.getElem_of_mem hx
 rw[List.length_take]at hj
 rw[List.getElem_take]
 exact h j (by omega)
theorem PH {fv:AV}{p:Nat→Bool}(ht:T6 fv p) (hp:∀ c,128≤c→p c=false) (l:Str) {h:ab}{Q:QT}(k:∀ h',Fr [] h h'→Q (T (l.takeWhile fun c=>p c.toNat)) h'):C cx [T l,fv] h Q:=by
 refine J8 _ _ _ _ ?_
 unfold LJ
 refine De (St.start h) fun i h1 s1=>?_
 refine aP (fun n vs h'=>∃ k:Nat,(∃ x,vs=[x])∧n+k=l.length∧St h [] h' [(i,true,.siter ⟨⟨l⟩⟩ k)]∧∀ j (hj:j<l.length),j<k→p l[j].toNat=true) l.length ⟨0,⟨_,rfl⟩,by omega,s1,fun j _ hj=>by omega⟩ ?_
 rintro n vs h' ⟨m,⟨x,rfl⟩,hn,s2,ha⟩
 unfold Bn
 refine Lp s2 (fun hk=>?_) fun hk r w h3 s3 hw h7 h8=>?_
 ·(repeat refine aw rfl ?_)
  have:=k h' s2.fr
  rw[uQ fun j hj=>ha j hj (by omega)]at this
  exact this
 ·(repeat refine aw rfl ?_)
  refine ht r _ _ ?_
  (repeat refine dy ?_)
  rcases Nat.lt_or_ge l[m].toNat 128 with h9|h9
  ·obtain⟨rfl,rfl⟩:=h7 h9
   cases hpm:p l[m].toNat with
   | true=>
     refine af (fun h=>by cases h) (fun _=>?_)
     refine⟨n-1,by omega,m+1,⟨_,rfl⟩,by omega,s3,fun j hj hj2=>?_⟩
     rcases Nat.lt_or_eq_of_le (Nat.le_of_lt_succ hj2) with h1|h1
     ·exact ha j hj h1
     ·subst h1;exact hpm
   | false=>
     refine af (fun _=>?_) (fun h=>by cases h)
     refine lm (by omega) (by omega) ?_
     have:=k h3 s3.fr
     rw[pg hk (fun j hj=>ha j (by omega) hj) hpm]at this
     simpa using this
  ·rw[hp r (h8 h9)]
   refine af (fun _=>?_) (fun h=>by cases h)
   refine lm (by omega) (by omega) ?_
   have:=k h3 s3.fr
   rw[pg hk (fun j hj=>ha j (by omega) hj) (hp _ h9)]at this
   simpa using this
def xq (c:Nat):Bool:=(decide (97≤c)&&decide (c≤122))||decide (c=95)
def dV (c:Nat):Bool:=decide (48≤c)&&decide (c≤57)
def jX (c:Nat):Bool:=xq c||dV c
def yb (c:Nat):Bool:=dV c||(decide (97≤c)&&decide (c≤102))
theorem rc {a b:Nat}:decide ((a:Int)≤(b:Int))=decide (a≤b):=by rw[Bool.eq_iff_iff,decide_eq_true_eq,decide_eq_true_eq];omega
theorem Tw {a b:Nat}:decide ((a:Int)=(b:Int))=decide (a=b):=by rw[Bool.eq_iff_iff,decide_eq_true_eq,decide_eq_true_eq];omega
theorem Qw (c:Nat) {h:ab}{Q:QT}(k:Q (B (xq c)) h):C o6 [R32 c] h Q:=by
 refine CL _ _ _ ?_
 unfold Az
 have e1:decide ((97:Int)≤c)=decide (97≤c):=rc (a:=97)
 have e2:decide ((c:Int)≤122)=decide (c≤122):=rc (b:=122)
 have e3:decide ((c:Int)=95)=decide (c=95):=Tw (b:=95)
 unfold xq at k
 refine cO ?_
 rw[e1]
 cases h1:decide (97≤c) with
 | true=>
   refine af (fun _=>?_) (fun h=>by cases h)
   rw[h1,Bool.true_and]at k
   refine tC ?_
   rw[e2]
   cases h2:decide (c≤122) with
   | true=>
     refine af (fun _=>?_) (fun h=>by cases h)
     rw[h2,Bool.true_or]at k;exact k
   | false=>
     refine af (fun h=>by cases h) (fun _=>?_)
     refine aA ?_
     rw[e3];rw[h2,Bool.false_or]at k;exact k
 | false=>
   refine af (fun h=>by cases h) (fun _=>?_)
   refine aA ?_
   rw[e3];rw[h1,Bool.false_and,Bool.false_or]at k;exact k
theorem wE (c:Nat) {h:ab}{Q:QT}(k:Q (B (dV c)) h):C cG [R32 c] h Q:=by
 refine Cu _ _ _ ?_
 unfold BV
 have e1:decide ((48:Int)≤c)=decide (48≤c):=rc (a:=48)
 have e2:decide ((c:Int)≤57)=decide (c≤57):=rc (b:=57)
 unfold dV at k
 refine cO ?_
 rw[e1]
 cases h1:decide (48≤c) with
 | true=>
   refine af (fun _=>?_) (fun h=>by cases h)
   refine tC ?_
   rw[h1,Bool.true_and]at k
   rw[e2];exact k
 | false=>
   refine af (fun h=>by cases h) (fun _=>?_)
   rw[h1,Bool.false_and]at k;exact k
theorem QR (c:Nat) {h:ab}{Q:QT}(k:Q (B (jX c)) h):C dF [R32 c] h Q:=by
 refine Ce _ _ _ ?_
 unfold zX
 refine Qw c ?_
 unfold jX at k
 cases h1:xq c with
 | true=>
   refine af (fun _=>?_) (fun h=>by cases h)
   rw[h1,Bool.true_or]at k;exact k
 | false=>
   refine af (fun h=>by cases h) (fun _=>?_)
   rw[h1,Bool.false_or]at k
   exact wE c k
theorem TQ (c:Nat) {h:ab}{Q:QT}(k:Q (B (yb c)) h):C jD [R32 c] h Q:=by
 refine Ir _ _ _ ?_
 unfold Ip
 refine wE c ?_
 unfold yb at k
 have e1:decide ((97:Int)≤c)=decide (97≤c):=rc (a:=97)
 have e2:decide ((c:Int)≤102)=decide (c≤102):=rc (b:=102)
 cases h1:dV c with
 | true=>
   refine af (fun _=>?_) (fun h=>by cases h)
   rw[h1,Bool.true_or]at k;exact k
 | false=>
   refine af (fun h=>by cases h) (fun _=>?_)
   rw[h1,Bool.false_or]at k
   refine cO ?_
   rw[e1]
   cases h2:decide (97≤c) with
   | true=>
     refine oI (af (fun _=>?_) (fun h=>by cases h)) ⟨_,rfl⟩
     rw[h2,Bool.true_and]at k
     refine tC ?_
     rw[e2];exact k
   | false=>
     refine oI (af (fun h=>by cases h) (fun _=>?_)) ⟨_,rfl⟩
     rw[h2,Bool.false_and]at k;exact k
theorem qd (l:Str) {h:ab}{Q:QT}(k:∀ h',Fr [] h h'→Q (T (l.takeWhile fun c=>jX c.toNat)) h'):C cx [T l,.fn (.func dF) [] []] h Q:=
 PH (fv:=.fn (.func dF) [] []) (p:=jX) (fun c h Q k=>QR c k) (fun c hc=>by simp[jX,xq,dV];omega) l k
theorem Ap (l:Str) {h:ab}{Q:QT}(k:∀ h',Fr [] h h'→Q (T (l.takeWhile fun c=>dV c.toNat)) h'):C cx [T l,.fn (.func cG) [] []] h Q:=
 PH (fv:=.fn (.func cG) [] []) (p:=dV) (fun c h Q k=>wE c k) (fun c hc=>by simp[dV];omega) l k
theorem HL (l:Str) {h:ab}{Q:QT}(k:∀ h',Fr [] h h'→Q (T (l.takeWhile fun c=>yb c.toNat)) h'):C cx [T l,.fn (.func jD) [] []] h Q:=
 PH (fv:=.fn (.func jD) [] []) (p:=yb) (fun c h Q k=>TQ c k) (fun c hc=>by simp[yb,dV];omega) l k
def sF (s:Str):Bool:=match s with
 | []=>false
 | c::t=>decide (s.length≤12)&&(!dV c.toNat&&(s.all (fun c=>jX c.toNat)&&(decide (c≠114)||(t.isEmpty||!(t.all fun c=>dV c.toNat)))))
theorem px (p:UInt8→Bool) (l:Str):decide (l.takeWhile p=l)=l.all p:=by
 rw[Bool.eq_iff_iff];simp[takeWhile_self]
theorem Rp (s:Str) {h:ab}{Q:QT}(k:∀ h',Fr [] h h'→Q (B (sF s)) h'):C j6 [T s] h Q:=by
 refine FN _ _ _ ?_
 unfold Eh
 cases s with
 | nil=>(repeat refine be ?_);exact k _ (Fr.refl _ _)
 | cons c t=>
 dsimp only[sF]at k
 (repeat (first|refine bz ?_|refine cH ?_|refine be ?_))
 refine af (fun hl=>?_) (fun hl=>?_)<;>simp only[za,zb,zc,zd,ze,zf,zg,zh,zi,u8i,zj,zk,zl]at hl
 ·have e:decide ((c::t).length≤12)=false:=by simp at hl ⊢;omega
  rw[e,Bool.false_and]at k
  exact k _ (Fr.refl _ _)
 have e:decide ((c::t).length≤12)=true:=by simp at hl ⊢;omega
 rw[e,Bool.true_and]at k
 refine fA (by omega) (by simp) ?_
 refine eB ?_
 have e3:IntKind.i32.wrap ((c::t)[Int.toNat 0].toNat:Int)=(c.toNat:Nat):=by
  have:=c.toNat_lt
  simp[IntKind.wrap,IntKind.bits,IntKind.signed];omega
 rw[e3]
 refine wE c.toNat ?_
 cases h2:dV c.toNat with
 | true=>
   refine af (fun _=>?_) (fun h=>by cases h)
   rw[h2]at k
   exact k _ (Fr.refl _ _)
 | false=>
 refine af (fun h=>by cases h) (fun _=>?_)
 rw[h2]at k
 simp only[Bool.not_false,Bool.true_and]at k
 refine qd _ fun h1 f1=>?_
 refine sZ ?_
 rw[show decide ((c::t).takeWhile (fun c=>jX c.toNat)≠c::t)=!((c::t).all fun c=>jX c.toNat) by rw[← px];simp]
 cases h3:(c::t).all fun c=>jX c.toNat with
 | false=>
   refine af (fun _=>?_) (fun h=>by cases h)
   rw[h3,Bool.false_and]at k
   exact k _ f1
 | true=>
 refine af (fun h=>by cases h) (fun _=>?_)
 rw[h3,Bool.true_and]at k
 refine fA (by omega) (by simp) ?_
 refine cr ?_
 have e4:decide ((((c::t)[Int.toNat 0].toNat:Nat):Int)≠114)=decide (c≠114):=by
  rw[Bool.eq_iff_iff];simp[← UInt8.toNat_inj];omega
 rw[e4]
 cases h4:decide (c≠114) with
 | true=>
   refine af (fun _=>?_) (fun h=>by cases h)
   rw[h4,Bool.true_or]at k
   exact k _ f1
 | false=>
 refine af (fun h=>by cases h) (fun _=>?_)
 rw[h4,Bool.false_or]at k
 (repeat (first|refine bz ?_|refine aA ?_))
 cases t with
 | nil=>refine af (fun _=>?_) (fun hb=>(by exfalso;first|(simp at hb;done)|(simp at hb;omega)|(revert hb;decide)|omega));exact k _ f1
 | cons d t=>
 refine af (fun h=>by simp at h;omega) (fun _=>?_)
 refine ft (by omega) (by simp;omega) ?_
 refine ft (by omega) (by simp;omega) ?_
 refine Ap _ fun h5 f5=>?_
 refine sZ ?_
 have:=k h5 (f1.trans f5 (by simp))
 rw[show ((c::d::t).drop (Int.toNat 1))=d::t from rfl]
 rw[show decide ((d::t).takeWhile (fun c=>dV c.toNat)≠d::t)=!((d::t).all fun c=>dV c.toNat) by rw[← px];simp]
 exact this
end
section
variable [Tabs]
inductive Ex where
 | none
 | num (n:Nat)
 | name (s:Str)
 | here
 | neg (e:Ex)
 | bin (k:Nat) (a b:Ex)
 deriving DecidableEq
def cU:Ex→List AV
 | .none=>[I 0,I 0,T [],.full 0 []]
 | .num n=>[I 1,I (n:Nat),T [],.full 0 []]
 | .name s=>[I 2,I 0,T s,.full 0 []]
 | .here=>[I 3,I 0,T [],.full 0 []]
 | .neg e=>[I 4,I 0,T [],.full 1 (cU e)]
 | .bin k a b=>[I (k:Nat),I 0,T [],.full 2 (cU a++cU b)]
theorem ax (e:Ex):(cU e).length=4:=by cases e<;>rfl
theorem bS (e:Ex):(cU e).all AV.one=true:=by cases e<;>rfl
abbrev pO (l:Str) (d:Nat) (b:Bool):AObj:=.cells [T l,I (d:Nat),B b]
abbrev blk (l:Str):Str:=lS 32 l
theorem np (c:UInt8):∀ l:Str,lS c (lS c l)=lS c l
 | []=>rfl
 | x::l=>by
   by_cases h:x=c
   ·rw[lS,if_pos h];exact np c l
   ·rw[lS,if_neg h,lS,if_neg h]
theorem tT (c:UInt8):∀ l:Str,(lS c l).length≤l.length
 | []=>by simp[lS]
 | x::l=>by
   have:=tT c l
   unfold lS;split<;>simp<;>omega
section
variable {i d:Nat}{l:Str}{h:ab}{Q:QT}
theorem qo {b:Bool}(e:h[i]?=some (pO l d b)) (k:∀ h',Fr [i] h h'→h'[i]?=some (pO l d true)→Q (.agg (cU .none)) h'):C bK [.ptr i 0] h Q:=by
 refine ut _ _ _ ?_
 unfold pP
 have s:=St.start1 e
 refine bf s fun j h1 s1=>?_
 (repeat (first|refine ap ?_|refine ak ?_))
 refine aB s1 (.tail .head) rfl rfl rfl (nle rfl) fun h2 s2=>?_
 (repeat refine aK rfl ?_)
 refine aB s2 .head rfl rfl rfl (nle rfl) fun h3 s3=>?_
 (repeat refine aQ ‹_› (.head _) (nle rfl) ?_)
 exact k _ s3.fr (s3.get (.tail _ (.head _)))
theorem tR {b:Bool}(e:h[i]?=some (pO l d b)) (k:∀ h',Fr [i] h h'→h'[i]?=some (pO (blk l) d b)→Q (.tup []) h'):C eA [.ptr i 0] h Q:=by
 refine rD _ _ _ ?_
 unfold na
 have s:=St.start1 e
 (repeat (first|refine ap ?_|refine ak ?_|refine ai ‹_› (.head _) rfl ?_))
 refine Ez 32 (by decide) l ?_
 (repeat (first|refine ap ?_|refine ak ?_))
 refine aB s .head rfl rfl rfl (nle rfl) fun h2 s2=>?_
 exact k _ s2.fr (s2.get (.head _))
theorem vT {m:Str}(e:h[i]?=some (pO l d false)) (k1:m.isPrefixOf (blk l)=true→∀ h',Fr [i] h h'→h'[i]?=some (pO ((blk l).drop m.length) d false)→Q (B true) h')
  (k0:m.isPrefixOf (blk l)=false→∀ h',Fr [i] h h'→h'[i]?=some (pO (blk l) d false)→Q (B false) h'):C bZ [.ptr i 0,T m] h Q:=by
 refine mo _ _ _ _ ?_
 unfold lc
 refine tR e fun h1 f1 e1=>?_
 have s:=(St.start1 e).call1 f1 e1 .head
 (repeat (first|refine ap ?_|refine ak ?_|refine ai ‹_› (.head _) rfl ?_))
 refine vO ?_
 (repeat refine dy ?_)
 cases hp:m.isPrefixOf (blk l) with
 | true=>
   refine af (fun h=>by cases h) (fun _=>?_)
   have hle:=(List.isPrefixOf_iff_prefix.1 hp).length_le
   (repeat (first|refine ap ?_|refine ak ?_|refine bz ?_|refine ai ‹_› (.head _) rfl ?_))
   refine ft (by omega) (by omega) ?_
   (repeat (first|refine ap ?_|refine ak ?_))
   refine aB s .head rfl rfl rfl (nle rfl) fun h2 s2=>?_
   exact k1 hp _ s2.fr (s2.get (.head _))
 | false=>
   refine af (fun _=>?_) (fun h=>by cases h)
   exact k0 hp _ s.fr (s.get (.head _))
theorem B1 {m:Str}(e:h[i]?=some (pO l d true)) (k0:∀ h',Fr [i] h h'→h'[i]?=some (pO (blk l) d true)→Q (B false) h'):C bZ [.ptr i 0,T m] h Q:=by
 refine mo _ _ _ _ ?_
 unfold lc
 refine tR e fun h1 f1 e1=>?_
 have s:=(St.start1 e).call1 f1 e1 .head
 (repeat (first|refine ap ?_|refine ak ?_|refine ai ‹_› (.head _) rfl ?_))
 exact k0 _ s.fr (s.get (.head _))
def signsL:List Str:=[[],[],[],[46],[45],[43],[45],[42],[38],[124],[60,60],[62,62]]
abbrev sg (k:Nat):Str:=(signsL[k]?).getD []
def levelsL:List (List Nat):=[[9],[8],[10,11],[5,6],[7]]
def Kh (ks:List Nat):List AV:=[.full ks.length (ks.flatMap fun k=>[I (k:Nat)])]
theorem Ik (k:Q (.full signsL.length (signsL.flatMap fun x=>[T x])) h):C pj [] h Q:=by
 refine CE _ _ ?_
 unfold AN
 (repeat refine aF rfl rfl ?_)
 exact k
theorem mW (k:Q (.full levelsL.length (levelsL.flatMap Kh)) h):C gL [] h Q:=by
 refine z7 _ _ ?_
 unfold yR
 (repeat refine aF rfl rfl ?_)
 exact k
def jC:List Nat→Str→Nat×Str
 | [],l=>(0,l)
 | k::ks,l=>if (sg k).isPrefixOf (blk l)=true then (k,(blk l).drop (sg k).length) else jC ks (blk l)
theorem Ma (ks:List Nat) (hk:∀ k∈ks,k<12) (hl:ks.length<1000) {v:AV}(r:Row (fun k:Nat=>[I (k:Nat)]) 1 h v ks) (e:h[i]?=some (pO l d false)) (hi:i<h.length)
  (hr:∀ h',Fr [i] h h'→Row (fun k:Nat=>[I (k:Nat)]) 1 h' v ks) (k:∀ h',Fr [i] h h'→h'[i]?=some (pO (jC ks l).2 d false)→Q (I ((jC ks l).1:Nat)) h'):C d5 [.ptr i 0,v] h Q:=by
 refine mj _ _ _ _ ?_
 unfold kV
 refine r.len ?_
 refine aP (fun n vs h'=>∃ (j:Nat) (b:AV) (l':Str),vs=[b,I (j:Nat)]∧n+j=ks.length∧Fr [i] h h'∧h'[i]?=some (pO l' d false)∧jC (ks.drop j) l'=jC ks l) ks.length ⟨0,_,l,rfl,by omega,Fr.refl _ _,e,rfl⟩ ?_
 rintro n vs h' ⟨j,b,l',rfl,hn,f1,e1,hm⟩
 unfold iJ
 (repeat refine aL ?_)
 refine af (fun hb=>?_) (fun hb=>?_)<;>simp only[za,zb,zc,zd,ze,zf,zg,zh,zi,u8i,zj,zk,zl]at hb
 ·have hj:j<ks.length:=hb
  refine (hr h' f1).idx (fun _=>rfl) hj fun p t=>?_
  refine aD t ?_
  refine Ik ?_
  have hk12:ks[j]<signsL.length:=hk _ (by simp)
  refine (Row.full (h:=h') (enc:=fun x:Str=>[T x]) (fun _=>rfl) signsL).idx (fun _=>rfl) hk12 fun p t=>?_
  refine aD t ?_
  have hsg:signsL[ks[j]]=sg ks[j]:=by simp[sg,hk12]
  rw[List.drop_eq_getElem_cons hj,jC]at hm
  refine vT e1 (fun hp h2 f2 e2=>?_) (fun hp h2 f2 e2=>?_)
  ·refine af (fun _=>?_) (fun h=>by cases h)
   rw[hsg]at hp e2
   rw[if_pos hp]at hm
   have:=k h2 (f1.trans f2 (by simp)) (by rw[← hm];exact e2)
   rw[← hm]at this;exact this
  ·refine af (fun h=>by cases h) (fun _=>?_)
   rw[hsg]at hp
   rw[if_neg (by simp[hp])]at hm
   (repeat refine aJ (by omega) ?_)
   exact⟨n-1,by omega,j+1,_,_,rfl,by omega,f1.trans f2 (by simp),e2,hm⟩
 ·rw[List.drop_of_length_le (by omega)]at hm
  have:=k h' f1 (by rw[← hm];exact e1)
  rw[← hm]at this;exact this
theorem Ba (ks:List Nat) (hk:∀ k∈ks,k<12) (hl:ks.length<1000) {v:AV}(r:Row (fun k:Nat=>[I (k:Nat)]) 1 h v ks) (e:h[i]?=some (pO l d true))
  (hr:∀ h',Fr [i] h h'→Row (fun k:Nat=>[I (k:Nat)]) 1 h' v ks) (k:∀ l' h',Fr [i] h h'→h'[i]?=some (pO l' d true)→Q (I 0) h'):C d5 [.ptr i 0,v] h Q:=by
 refine mj _ _ _ _ ?_
 unfold kV
 refine r.len ?_
 refine aP (fun n vs h'=>∃ (j:Nat) (b:AV) (l':Str),vs=[b,I (j:Nat)]∧n+j=ks.length∧Fr [i] h h'∧h'[i]?=some (pO l' d true)) ks.length ⟨0,_,l,rfl,by omega,Fr.refl _ _,e⟩ ?_
 rintro n vs h' ⟨j,b,l',rfl,hn,f1,e1⟩
 unfold iJ
 (repeat refine aL ?_)
 refine af (fun hb=>?_) (fun hb=>?_)<;>simp only[za,zb,zc,zd,ze,zf,zg,zh,zi,u8i,zj,zk,zl]at hb
 ·have hj:j<ks.length:=hb
  refine (hr h' f1).idx (fun _=>rfl) hj fun p t=>?_
  refine aD t ?_
  refine Ik ?_
  have hk12:ks[j]<signsL.length:=hk _ (by simp)
  refine (Row.full (h:=h') (enc:=fun x:Str=>[T x]) (fun _=>rfl) signsL).idx (fun _=>rfl) hk12 fun p t=>?_
  refine aD t ?_
  refine B1 e1 (fun h2 f2 e2=>?_)
  refine af (fun h=>by cases h) (fun _=>?_)
  (repeat refine aJ (by omega) ?_)
  exact⟨n-1,by omega,j+1,_,_,rfl,by omega,f1.trans f2 (by simp),e2⟩
 ·exact k _ h' f1 e1
end
structure PRes (i D:Nat) (m:Option (Ex×Str)) (h:ab) (Q:QT):Prop where
 good:∀ x l' h',m=some (x,l')→Fr [i] h h'→h'[i]?=some (pO l' D false)→Q (.agg (cU x)) h'
 bad:∀ cs l' h',m=none→Fr [i] h h'→h'[i]?=some (pO l' D true)→cs.length=4→cs.all AV.one=true→Q (.agg cs) h'
theorem PRes.fr {i D:Nat}{m:Option (Ex×Str)}{h h1:ab}{Q:QT}(r:PRes i D m h Q) (f:Fr [i] h h1):PRes i D m h1 Q:=
 ⟨fun x l' h' e f'=>r.good x l' h' e (f.trans f' (by simp)),fun cs l' h' e f'=>r.bad cs l' h' e (f.trans f' (by simp))⟩
abbrev PF:=Str→Option (Ex×Str)
def mZ (f:PF):Prop:=∀ l x l',f l=some (x,l')→l'.length≤l.length
def wv (c:UInt8):Nat:=if 97≤c.toNat then c.toNat-97+10 else c.toNat-48
def Cs (base:Nat):Str→Nat→Option Nat
 | [],n=>some n
 | c::cs,n=>if 4294967296≤n*base+wv c then none else Cs base cs (n*base+wv c)
def nT (sub:PF) (ks:List Nat):Nat→Ex→Str→Option (Ex×Str)
 | 0,x,l=>if (jC ks l).1=0 then some (x,(jC ks l).2) else none
 | n+1,x,l=>if (jC ks l).1=0 then some (x,(jC ks l).2) else match sub (jC ks l).2 with
   | none=>none
   | some (y,l2)=>nT sub ks n (.bin (jC ks l).1 x y) l2
def qF (one:PF):Nat→PF
 | 0=>one
 | r+1=>fun l=>match qF one r l with
   | none=>none
   | some (x,l1)=>nT (qF one r) ((levelsL[4-r]?).getD []) l1.length x l1
def sS (two:PF):PF:=fun l=>match two l with
 | none=>none
 | some (x,l1)=>if ([41]:Str).isPrefixOf (blk l1)=true then some (x,(blk l1).drop 1) else none
def sT (one:PF):PF:=fun l=>match one l with
 | none=>none
 | some (x,l1)=>some (.neg x,l1)
def zm (l:Str):Str:=l.takeWhile fun c=>jX c.toNat
def Ns (l:Str):Str:=l.takeWhile fun c=>dV c.toNat
def NO (l:Str):Str:=l.takeWhile fun c=>yb c.toNat
def kf (base:Nat) (l ds:Str):Option (Ex×Str):=match Cs base ds 0 with
 | none=>none
 | some n=>if zm (l.drop ds.length)=[] then some (.num n,l.drop ds.length) else none
def Ni:PF:=fun l=>
 if Ns l≠[] then kf 10 l (Ns l)
 else if sF (zm l)=true then some (.name (zm l),l.drop (zm l).length) else none
def Lr:PF:=fun l=>
 if ([48,120]:Str).isPrefixOf l=true then (if NO (l.drop 2)≠[] then kf 16 (l.drop 2) (NO (l.drop 2)) else Ni l) else Ni l
def Dz (group minus:PF):PF:=fun l=>
 if ([40]:Str).isPrefixOf (blk l)=true then group ((blk l).drop 1)
 else if ([45]:Str).isPrefixOf (blk l)=true then minus ((blk l).drop 1)
 else if ([46]:Str).isPrefixOf (blk l)=true then some (.here,(blk l).drop 1)
 else Lr (blk l)
def MH:Nat→PF
 | 0=>Dz (fun _=>none) fun _=>none
 | d+1=>Dz (sS (qF (MH d) 5)) (sT (MH d))
def tM (l:Str):Option Ex:=match qF (MH 12) 5 l with
 | none=>none
 | some (x,l')=>if blk l'=[] then some x else none
theorem wX (ks:List Nat) (hk:∀ k∈ks,(sg k)≠[]):∀ l:Str,(jC ks l).2.length≤l.length∧((jC ks l).1≠0→(jC ks l).2.length<l.length):=by
 induction ks with
 | nil=>intro l;simp[jC]
 | cons k ks ih=>
   intro l
   unfold jC
   have hb:(blk l).length≤l.length:=tT 32 l
   split
   ·rename_i hp
    have hle:=(List.isPrefixOf_iff_prefix.1 hp).length_le
    have:0<(sg k).length:=List.length_pos_iff.2 (hk k (by simp))
    simp only[List.length_drop]
    exact⟨by omega,fun _=>by omega⟩
   ·obtain⟨h1,h2⟩:=ih (fun k hk'=>hk k (by simp[hk'])) (blk l)
    exact⟨by omega,fun h=>by have:=h2 h;omega⟩
theorem yI {sub:PF}(hs:mZ sub) (ks:List Nat) (hk:∀ k∈ks,(sg k)≠[]):∀ n x,mZ (nT sub ks n x)
 | 0,x,l,y,l',e=>by
   have:=(wX ks hk l).1
   unfold nT at e
   split at e
   ·cases e;exact this
   ·cases e
 | n+1,x,l,y,l',e=>by
   have:=(wX ks hk l).1
   unfold nT at e
   split at e
   ·cases e;exact this
   ·split at e
    ·cases e
    ·rename_i z l2 h2
     have h3:=hs _ _ _ h2
     have:=yI hs ks hk n _ _ _ _ e
     omega
theorem DQ:∀ ks∈levelsL,(∀ k∈ks,sg k≠[])∧(∀ k∈ks,k<12)∧ks.length<1000:=by decide
theorem Nn {r:Nat}(h:r<5):(levelsL[r]?).getD []∈levelsL:=by
 have:r<levelsL.length:=h
 simp[this]
theorem vB {one:PF}(ho:mZ one):∀ r,r≤5→mZ (qF one r)
 | 0,_=>ho
 | r+1,hr=>fun l x l' e=>by
   unfold qF at e
   have ih:=vB ho r (by omega)
   cases h:qF one r l with
   | none=>rw[h]at e;cases e
   | some p=>
     obtain⟨y,l1⟩:=p
     rw[h]at e
     have h1:=ih _ _ _ h
     have:=yI ih _ (DQ _ (Nn (by omega))).1 _ _ _ _ _ e
     omega
theorem FB {two:PF}(h2:mZ two):mZ (sS two):=fun l x l' e=>by
 unfold sS at e
 cases h:two l with
 | none=>rw[h]at e;cases e
 | some p=>
   obtain⟨y,l1⟩:=p
   rw[h]at e
   have h1:=h2 _ _ _ h
   have hb:(blk l1).length≤l1.length:=tT 32 l1
   simp only at e
   split at e
   ·cases e;simp;omega
   ·cases e
theorem EK {one:PF}(h2:mZ one):mZ (sT one):=fun l x l' e=>by
 unfold sT at e
 cases h:one l with
 | none=>rw[h]at e;cases e
 | some p=>
   obtain⟨y,l1⟩:=p
   rw[h]at e
   cases e
   exact h2 _ _ _ h
theorem th (base:Nat) (l ds:Str) {x:Ex}{l':Str}(e:kf base l ds=some (x,l')):l'.length≤l.length:=by
 unfold kf at e
 split at e
 ·cases e
 ·split at e
  ·cases e;simp
  ·cases e
theorem B7:mZ Ni:=fun l x l' e=>by
 unfold Ni at e
 split at e
 ·exact th _ _ _ e
 ·split at e
  ·cases e;simp
  ·cases e
theorem IG:mZ Lr:=fun l x l' e=>by
 unfold Lr at e
 split at e
 ·split at e
  ·have:=th _ _ _ e;simp at this;omega
  ·exact B7 _ _ _ e
 ·exact B7 _ _ _ e
theorem yG {group minus:PF}(hg:mZ group) (hm:mZ minus):mZ (Dz group minus):=fun l x l' e=>by
 have hb:(blk l).length≤l.length:=tT 32 l
 unfold Dz at e
 split at e
 ·have:=hg _ _ _ e;simp at this;omega
 ·split at e
  ·have:=hm _ _ _ e;simp at this;omega
  ·split at e
   ·cases e;simp;omega
   ·have:=IG _ _ _ e;omega
theorem qG:∀ d,mZ (MH d)
 | 0=>yG (fun l x l' e=>by cases e) (fun l x l' e=>by cases e)
 | d+1=>yG (FB (vB (qG d) 5 (Nat.le_refl _))) (EK (qG d))
end
section
variable [Tabs]
section
variable {i D:Nat}{l:Str}{h:ab}{Q:QT}
abbrev zE:List AV:=[I 0,I 0,T [],.full 0 []]
theorem UD {cs:List AV}(h:cs.length=4):∃ a b c e,cs=[a,b,c,e]:=by
 match cs,h with
 | [a,b,c,e],_=>exact⟨a,b,c,e,rfl⟩
theorem SC {cs zs:List AV}(h:cs.length=4) (hz:zs.length=4):splice zs 0 cs=cs:=by
 simp[splice,h,hz]
theorem bh {h0 h:ab}{M:List Nat}{L L':Own}{j:Nat}{cs zs:List AV}{K:ab→Prop}(s:St h0 M h L) (hz:zs.length=4) (hc:cs.length=4) (ho:cs.all AV.one=true) (u:Sub L (j,true,.cells zs) L' (j,true,.cells cs))
  (k:∀ h',St h0 M h' L'→K h'):au 4 (.ptr j 0) (.agg cs) h K:=by
 refine aB s (cs:=zs) (L':=L') ?_ rfl hc ho (by omega) k
 rw[show (AV.agg cs).cells=cs from rfl,SC hc hz];exact u
theorem aY {h0 h:ab}{M:List Nat}{L:Own}{j:Nat}{b:Bool}{cs:List AV}{K:AV→Prop}(s:St h0 M h L) (hc:cs.length=4) (u:(j,b,.cells cs)∈L) (k:K (.agg cs)):ay 4 (.ptr j 0) h K:=
 aQ s u (by omega) (by rw[List.drop_zero,List.take_of_length_le (by omega)];exact k)
theorem bN:zE.length=4:=rfl
theorem Qr {cs:List AV}(hc:cs.length=4) (ho:cs.all AV.one=true) (e:h[i]?=some (pO l D false))
  (k1:zm l=[]→∀ h',Fr [i] h h'→h'[i]?=some (pO l D false)→Q (.agg cs) h') (k0:zm l≠[]→∀ h',Fr [i] h h'→h'[i]?=some (pO l D true)→Q (.agg zE) h'):C co [.ptr i 0,.agg cs] h Q:=by
 refine lX _ _ _ _ ?_
 unfold j4
 refine dz (St.start1 e) rfl fun j h1 s1=>?_
 refine bf s1 fun q h2 s2=>?_
 (repeat (first|refine ap ?_|refine ak ?_|refine ai ‹_› (by first|exact .head _|exact .tail _ (.tail _ (.head _))) rfl ?_))
 refine qd l fun h3 f3=>?_
 have s3:=s2.call f3
 refine sZ ?_
 refine af (fun hb=>?_) (fun hb=>?_)<;>simp only[za,zb,zc,zd,ze,zf,zg,zh,zi,u8i,zj,zk,zl]at hb
 ·refine qo (s3.get (.tail _ (.tail _ (.head _)))) fun h4 f4 e4=>?_
  have s4:=s3.call1 f4 e4 (.tail (.tail .head))
  refine bh s4 bN (ax _) (bS _) .head fun h5 s5=>?_
  refine aY s5 (ax _) (.head _) ?_
  exact k0 hb _ s5.fr (s5.get (.tail _ (.tail _ (.head _))))
 ·have hb:zm l=[]:=by
   unfold zm
   simpa using hb
  refine aY s3 hc (.tail _ (.head _)) ?_
  refine bh s3 bN hc ho .head fun h5 s5=>?_
  refine aY s5 hc (.head _) ?_
  exact k1 hb _ s5.fr (s5.get (.tail _ (.tail _ (.head _))))
theorem Jz {base:Nat}(hb:base≤16) (c:UInt8) (n:Nat) (hn:n<4294967296):n*base+wv c<9223372036854775807:=by
 have h1:=c.toNat_lt
 have h2:wv c<1000:=by unfold wv;split<;>omega
 have:n*base≤4294967296*16:=Nat.mul_le_mul (by omega) hb
 omega
theorem Nt (base:Nat) (hb:base≤16) (ds:Str) (hds:∀ c∈ds,yb c.toNat=true) (hle:ds.length≤l.length) (e:h[i]?=some (pO l D false))
  (k1:∀ n,Cs base ds 0=some n→∀ h',Fr [i] h h'→h'[i]?=some (pO (l.drop ds.length) D false)→Q (.agg (cU (.num n))) h')
  (k0:Cs base ds 0=none→∀ h',Fr [i] h h'→h'[i]?=some (pO l D true)→Q (.agg zE) h'):C cb [.ptr i 0,T ds,I (base:Nat)] h Q:=by
 refine rC _ _ _ _ _ ?_
 unfold nD
 refine bf (St.start1 e) fun q h1 s1=>?_
 refine De s1 fun j h2 s2=>?_
 refine aP (fun n vs h'=>∃ (k m:Nat),vs=[I (m:Nat)]∧m<4294967296∧n+k=ds.length∧St h [i] h' [(j,true,.siter ⟨⟨ds⟩⟩ k),(q,true,.cells zE),(i,true,pO l D false)]∧Cs base (ds.drop k) m=Cs base ds 0) ds.length ⟨0,0,rfl,by omega,by omega,s2,rfl⟩ ?_
 rintro n vs h' ⟨k,m,rfl,hm,hn,s3,hnum⟩
 unfold ku
 refine Lp s3 (fun hk=>?_) fun hk r w h4 s4 hw h7 h8=>?_
 ·rw[List.drop_of_length_le (by omega),Cs]at hnum
  (repeat (first|refine ap ?_|refine ak ?_|refine bz ?_|refine aw rfl ?_|refine ai ‹_› (by first|exact .tail _ (.head _)|exact .tail _ (.tail _ (.head _))) rfl ?_))
  refine ft (by omega) (by omega) ?_
  (repeat (first|refine ap ?_|refine ak ?_))
  refine aB s3 (.tail (.tail .head)) rfl rfl rfl (nle rfl) fun h5 s5=>?_
  (repeat refine aK rfl ?_)
  refine bh s5 bN rfl rfl (.tail .head) fun h6 s6=>?_
  refine aY s6 rfl (.tail _ (.head _)) ?_
  exact k1 m hnum.symm _ s6.fr (s6.get (.tail _ (.tail _ (.head _))))
 ·have hhex:=hds ds[k] (by simp)
  have hlt:ds[k].toNat<128:=by
   unfold yb dV at hhex;simp at hhex;omega
  obtain⟨rfl,rfl⟩:=h7 hlt
  rw[List.drop_eq_getElem_cons hk,Cs]at hnum
  have hd:=Jz hb ds[k] m hm
  have hdv:wv ds[k]<1000:=by unfold wv;split<;>omega
  have hmb:(m:Int)*base=((m*base:Nat):Int):=by simp
  have fin:eC (I (wv ds[k]:Nat)) (I (m:Nat)) (.ptr q 0) (.ptr i 0) (I (base:Nat)) h4 (fun vs' h'=>∃ m_1,m_1<n∧∃ (k m:Nat),vs'=[I (m:Nat)]∧m<4294967296∧m_1+k=ds.length∧St h [i] h' [(j,true,.siter ⟨⟨ds⟩⟩ k),(q,true,.cells zE),(i,true,pO l D false)]∧Cs base (ds.drop k) m=Cs base ds 0) Q:=by
   unfold eC
   refine x9 (by rw[hmb];omega) ?_
   rw[hmb]
   refine aJ (by omega) ?_
   have e2:((m*base:Nat):Int)+(wv ds[k]:Nat)=((m*base+wv ds[k]:Nat):Int):=by simp
   rw[e2]
   refine cO ?_
   refine af (fun hb=>?_) (fun hb=>?_)
   ·simp only[decide_eq_true_eq]at hb
    rw[if_pos (by omega)]at hnum
    refine qo (s4.get (.tail _ (.tail _ (.head _)))) fun h5 f5 e5=>?_
    have s5:=s4.call1 f5 e5 (.tail (.tail .head))
    refine bh s5 bN (ax _) (bS _) (.tail .head) fun h6 s6=>?_
    refine aY s6 (ax _) (.tail _ (.head _)) ?_
    exact k0 hnum.symm _ s6.fr (s6.get (.tail _ (.tail _ (.head _))))
   ·simp only[decide_eq_false_iff_not]at hb
    rw[if_neg (by omega)]at hnum
    exact⟨n-1,by omega,k+1,_,rfl,by omega,by omega,s4,hnum⟩
  (repeat refine aw rfl ?_)
  refine LK ?_
  refine eB ?_
  refine cO ?_
  refine af (fun hb=>?_) (fun hb=>?_)
  ·simp only[decide_eq_true_eq]at hb
   refine LK ?_
   refine eB ?_
   have e1:IntKind.i64.wrap (IntKind.i32.wrap ((ds[k].toNat:Nat)-97))=((ds[k].toNat-97:Nat):Int):=by
    have:IntKind.i32.wrap ((ds[k].toNat:Nat)-97)=((ds[k].toNat-97:Nat):Int):=by
     simp[IntKind.wrap,IntKind.bits,IntKind.signed];omega
    rw[this];exact rP (by omega)
   rw[e1]
   refine aJ (by omega) ?_
   have e2:((ds[k].toNat-97:Nat):Int)+10=(wv ds[k]:Nat):=by unfold wv;rw[if_pos (by omega)];omega
   rw[e2]
   exact fin
  ·simp only[decide_eq_false_iff_not]at hb
   have e1:IntKind.i64.wrap (IntKind.i32.wrap ((ds[k].toNat:Nat)-48))=(wv ds[k]:Nat):=by
    have h48:48≤ds[k].toNat:=by unfold yb dV at hhex;simp at hhex;omega
    have:IntKind.i32.wrap ((ds[k].toNat:Nat)-48)=((ds[k].toNat-48:Nat):Int):=by
     simp[IntKind.wrap,IntKind.bits,IntKind.signed];omega
    rw[this,rP (by omega)]
    unfold wv;rw[if_neg (by omega)]
   rw[e1]
   exact fin
theorem Pf (l:Str):(zm l).length≤l.length:=(List.takeWhile_sublist _).length_le
theorem PY (l:Str):(Ns l).length≤l.length:=(List.takeWhile_sublist _).length_le
theorem Q3 (l:Str):(NO l).length≤l.length:=(List.takeWhile_sublist _).length_le
theorem pf {p:UInt8→Bool}:∀ {l:Str}{c:UInt8},c∈l.takeWhile p→p c=true
 | [],c,h=>by simp at h
 | a::l,c,h=>by
   cases hp:p a with
   | true=>
     rw[List.takeWhile_cons_of_pos hp]at h
     rcases List.mem_cons.1 h with rfl|h
     ·exact hp
     ·exact pf h
   | false=>rw[List.takeWhile_cons_of_neg (by simp[hp])]at h;simp at h
theorem PL (l:Str):∀ c∈Ns l,yb c.toNat=true:=fun c hc=>by
 have:dV c.toNat=true:=pf hc
 unfold yb;rw[this];rfl
theorem O6 (l:Str):∀ c∈NO l,yb c.toNat=true:=fun c hc=>pf hc
theorem yf (base:Nat) (hb:base≤16) (ds:Str) (hds:∀ c∈ds,yb c.toNat=true) (hle:ds.length≤l.length) (e:h[i]?=some (pO l D false)) (r:PRes i D (kf base l ds) h Q):
  C cb [.ptr i 0,T ds,I (base:Nat)] h fun t h1=>C co [.ptr i 0,t] h1 Q:=by
 refine Nt base hb ds hds hle e (fun n hn h1 f1 e1=>?_) (fun hn h1 f1 e1=>?_)
 ·have hm:kf base l ds=if zm (l.drop ds.length)=[] then some (.num n,l.drop ds.length) else none:=by unfold kf;rw[hn]
  refine Qr (ax _) (bS _) e1 (fun h2 h3 f3 e3=>?_) (fun h2 h3 f3 e3=>?_)
  ·rw[if_pos h2]at hm
   exact r.good _ _ _ hm (f1.trans f3 (by simp)) e3
  ·rw[if_neg h2]at hm
   exact r.bad _ _ _ hm (f1.trans f3 (by simp)) e3 rfl rfl
 ·have hm:kf base l ds=none:=by unfold kf;rw[hn]
  refine lX _ _ _ _ ?_
  unfold j4
  refine dz (St.start1 e1) rfl fun j h2 s2=>?_
  refine bf s2 fun q h3 s3=>?_
  (repeat (first|refine ap ?_|refine ak ?_|refine ai ‹_› (by first|exact .head _|exact .tail _ (.tail _ (.head _))) rfl ?_))
  refine qd l fun h4 f4=>?_
  have s4:=s3.call f4
  refine sZ ?_
  refine af (fun hbb=>?_) (fun hbb=>?_)<;>simp only[za,zb,zc,zd,ze,zf,zg,zh,zi,u8i,zj,zk,zl]at hbb
  ·refine qo (s4.get (.tail _ (.tail _ (.head _)))) fun h5 f5 e5=>?_
   have s5:=s4.call1 f5 e5 (.tail (.tail .head))
   refine bh s5 bN (ax _) (bS _) .head fun h6 s6=>?_
   refine aY s6 (ax _) (.head _) ?_
   exact r.bad _ _ _ hm (f1.trans s6.fr (by simp)) (s6.get (.tail _ (.tail _ (.head _)))) rfl rfl
  ·refine aY s4 bN (.tail _ (.head _)) ?_
   refine bh s4 bN bN rfl .head fun h6 s6=>?_
   refine aY s6 bN (.head _) ?_
   exact r.bad _ _ _ hm (f1.trans s6.fr (by simp)) (s6.get (.tail _ (.tail _ (.head _)))) rfl rfl
def uA (f:FuncId) (args:List AV) (D:Nat) (m:PF):Prop:=∀ (l:Str) (h:ab) (Q:QT) (i:Nat),h[i]?=some (pO l D false)→PRes i D (m l) h Q→C f (.ptr i 0::args) h Q
theorem Qz {two:PF}(ht:uA cj [I 0] D two):uA eP [] D (sS two):=fun l h Q i e r=>by
 refine sL _ _ _ ?_
 unfold oe
 refine bf (St.start1 e) fun q h1 s1=>?_
 refine ht l h1 _ i (s1.get (.tail _ (.head _))) ⟨fun x l' h2 hm f2 e2=>?_,fun cs l' h2 hm f2 e2 hc ho=>?_⟩
 ·have s2:=s1.call1 f2 e2 (.tail .head)
  have hm2:sS two l=if ([41]:Str).isPrefixOf (blk l')=true then some (x,(blk l').drop 1) else none:=by unfold sS;rw[hm]
  refine bf s2 fun q2 h3 s3=>?_
  refine bh s3 bN (ax _) (bS _) .head fun h4 s4=>?_
  refine vT (m:=[41]) (s4.get (.tail _ (.tail _ (.head _)))) (fun hp h5 f5 e5=>?_) (fun hp h5 f5 e5=>?_)
  ·have s5:=s4.call1 f5 e5 (.tail (.tail .head))
   rw[if_pos hp]at hm2
   refine dy ?_
   refine af (fun h=>by cases h) (fun _=>?_)
   refine aY s5 (ax _) (.head _) ?_
   refine bh s5 bN (ax _) (bS _) (.tail .head) fun h6 s6=>?_
   refine aY s6 (ax _) (.tail _ (.head _)) ?_
   exact r.good _ _ _ hm2 s6.fr (s6.get (.tail _ (.tail _ (.head _))))
  ·have s5:=s4.call1 f5 e5 (.tail (.tail .head))
   rw[if_neg (by simp[hp])]at hm2
   refine dy ?_
   refine af (fun _=>?_) (fun h=>by cases h)
   refine qo (s5.get (.tail _ (.tail _ (.head _)))) fun h6 f6 e6=>?_
   have s6:=s5.call1 f6 e6 (.tail (.tail .head))
   refine bh s6 bN (ax _) (bS _) (.tail .head) fun h7 s7=>?_
   refine aY s7 (ax _) (.tail _ (.head _)) ?_
   exact r.bad _ _ _ hm2 s7.fr (s7.get (.tail _ (.tail _ (.head _)))) rfl rfl
 ·have s2:=s1.call1 f2 e2 (.tail .head)
  have hm2:sS two l=none:=by unfold sS;rw[hm]
  refine bf s2 fun q2 h3 s3=>?_
  refine bh s3 bN hc ho .head fun h4 s4=>?_
  refine B1 (m:=[41]) (s4.get (.tail _ (.tail _ (.head _)))) fun h5 f5 e5=>?_
  have s5:=s4.call1 f5 e5 (.tail (.tail .head))
  refine dy ?_
  refine af (fun _=>?_) (fun h=>by cases h)
  refine qo (s5.get (.tail _ (.tail _ (.head _)))) fun h6 f6 e6=>?_
  have s6:=s5.call1 f6 e6 (.tail (.tail .head))
  refine bh s6 bN (ax _) (bS _) (.tail .head) fun h7 s7=>?_
  refine aY s7 (ax _) (.tail _ (.head _)) ?_
  exact r.bad _ _ _ hm2 s7.fr (s7.get (.tail _ (.tail _ (.head _)))) rfl rfl
theorem PQ {one:PF}(ht:uA cK [] D one):uA eU [] D (sT one):=fun l h Q i e r=>by
 refine rZ _ _ _ ?_
 unfold nO
 refine bf (St.start1 e) fun q h1 s1=>?_
 refine ht l h1 _ i (s1.get (.tail _ (.head _))) ⟨fun x l' h2 hm f2 e2=>?_,fun cs l' h2 hm f2 e2 hc ho=>?_⟩
 ·have s2:=s1.call1 f2 e2 (.tail .head)
  have hm2:sT one l=some (.neg x,l'):=by unfold sT;rw[hm]
  refine aF rfl (by simp[AV.isTup,AV.cells,ax]) ?_
  rw[show ([AV.agg (cU x)].flatMap fun x=>x.cells)=cU x by simp[AV.cells]]
  (repeat refine aK rfl ?_)
  refine bh s2 bN rfl rfl .head fun h7 s7=>?_
  refine aY s7 rfl (.head _) ?_
  exact r.good _ _ _ hm2 s7.fr (s7.get (.tail _ (.head _)))
 ·have s2:=s1.call1 f2 e2 (.tail .head)
  have hm2:sT one l=none:=by unfold sT;rw[hm]
  refine aF rfl (by simp[AV.isTup,AV.cells,hc]) ?_
  (repeat refine aK rfl ?_)
  refine bh s2 bN rfl rfl .head fun h7 s7=>?_
  refine aY s7 rfl (.head _) ?_
  exact r.bad _ _ _ hm2 s7.fr (s7.get (.tail _ (.head _))) rfl rfl
theorem Da {f:FuncId}{m:PF}(hf:uA f [] (D+1) m) (hD:D<12):∀ (l:Str) (h:ab) (Q:QT) (i:Nat),h[i]?=some (pO l D false)→PRes i D (m l) h Q→C cF [.ptr i 0,.fn (.func f) [.ptr i 0] []] h Q:=fun l h Q i e r=>by
 refine kF _ _ _ _ ?_
 unfold jr
 refine bf (St.start1 e) fun q h1 s1=>?_
 (repeat (first|refine ap ?_|refine ak ?_|refine cO ?_|refine ai ‹_› (by first|exact .head _|exact .tail _ (.head _)) rfl ?_))
 refine af (fun hb=>absurd hb (by simp;omega)) (fun _=>?_)
 (repeat (first|refine ap ?_|refine ak ?_|refine aJ (by omega) ?_|refine ai ‹_› (by first|exact .head _|exact .tail _ (.head _)) rfl ?_))
 refine aB s1 (.tail .head) rfl rfl rfl (nle rfl) fun h2 s2=>?_
 have s2:St h [i] h2 [(q,true,.cells zE),(i,true,pO l (D+1) false)]:=s2
 show ACall Pg f [.ptr i 0] _ _
 refine hf l h2 _ i (s2.get (.tail _ (.head _))) ⟨fun x l' h3 hm f3 e3=>?_,fun cs l' h3 hm f3 e3 hc ho=>?_⟩
 ·have s3:=s2.call1 f3 e3 (.tail .head)
  refine bf s3 fun q2 h4 s4=>?_
  refine bh s4 bN (ax _) (bS _) .head fun h5 s5=>?_
  (repeat (first|refine ap ?_|refine ak ?_|refine dh (by omega) ?_|refine ai ‹_› (by first|exact .head _|exact .tail _ (.tail _ (.head _))) rfl ?_))
  have eD:((D+1:Nat):Int)-1=(D:Nat):=by omega
  rw[eD]
  refine aB s5 (.tail (.tail .head)) rfl rfl rfl (nle rfl) fun h6 s6=>?_
  have s6:St h [i] h6 [(q2,true,.cells (cU x)),(q,true,.cells zE),(i,true,pO l' D false)]:=s6
  refine aY s6 (ax _) (.head _) ?_
  refine bh s6 bN (ax _) (bS _) (.tail .head) fun h7 s7=>?_
  refine aY s7 (ax _) (.tail _ (.head _)) ?_
  exact r.good _ _ _ hm s7.fr (s7.get (.tail _ (.tail _ (.head _))))
 ·have s3:=s2.call1 f3 e3 (.tail .head)
  refine bf s3 fun q2 h4 s4=>?_
  refine bh s4 bN hc ho .head fun h5 s5=>?_
  (repeat (first|refine ap ?_|refine ak ?_|refine dh (by omega) ?_|refine ai ‹_› (by first|exact .head _|exact .tail _ (.tail _ (.head _))) rfl ?_))
  have eD:((D+1:Nat):Int)-1=(D:Nat):=by omega
  rw[eD]
  refine aB s5 (.tail (.tail .head)) rfl rfl rfl (nle rfl) fun h6 s6=>?_
  have s6:St h [i] h6 [(q2,true,.cells cs),(q,true,.cells zE),(i,true,pO l' D true)]:=s6
  refine aY s6 hc (.head _) ?_
  refine bh s6 bN hc ho (.tail .head) fun h7 s7=>?_
  refine aY s7 hc (.tail _ (.head _)) ?_
  exact r.bad _ _ _ hm s7.fr (s7.get (.tail _ (.tail _ (.head _)))) hc ho
theorem yS (fv:AV):∀ (l:Str) (h:ab) (Q:QT) (i:Nat),h[i]?=some (pO l 12 false)→PRes i 12 none h Q→C cF [.ptr i 0,fv] h Q:=fun l h Q i e r=>by
 refine kF _ _ _ _ ?_
 unfold jr
 refine bf (St.start1 e) fun q h1 s1=>?_
 (repeat (first|refine ap ?_|refine ak ?_|refine cO ?_|refine ai ‹_› (by first|exact .head _|exact .tail _ (.head _)) rfl ?_))
 refine af (fun _=>?_) (fun hb=>(by exfalso;first|(simp at hb;done)|(simp at hb;omega)|(revert hb;decide)|omega))
 refine qo (s1.get (.tail _ (.head _))) fun h2 f2 e2=>?_
 have s2:=s1.call1 f2 e2 (.tail .head)
 refine bh s2 bN (ax _) (bS _) .head fun h3 s3=>?_
 refine aY s3 (ax _) (.head _) ?_
 exact r.bad _ _ _ rfl s3.fr (s3.get (.tail _ (.head _))) rfl rfl
end
end
section
variable [Tabs]
section
variable {i D:Nat}{l:Str}{h:ab}{Q:QT}
def S2 (f:FuncId) (D:Nat) (m:PF):Prop:=∀ (l:Str) (h:ab) (Q:QT) (i:Nat),h[i]?=some (pO l D false)→PRes i D (m l) h Q→C cF [.ptr i 0,.fn (.func f) [.ptr i 0] []] h Q
theorem Ps {h0:ab}{q:Nat}{b:Str}(s:St h0 [i] h [(q,true,.cells zE),(i,true,pO b D false)]) (r:PRes i D (Ni b) h0 Q):
  aE (.ptr i 0) fun t61=>ae 0 t61 fun t62=>ah t62 h fun t63=>C cx [t63,(.fn (.func cG) [] [])] h fun t64 h22=>
   ag .neq t64 (S ⟨#[]⟩) fun t66=>ifB t66 (
    C cb [.ptr i 0,t64,(I 10)] h22 fun t70 h23=>C co [.ptr i 0,t70] h23 fun t71 h24=>
    au 4 (.ptr q 0) t71 h24 fun h25=>ay 4 (.ptr q 0) h25 fun r26=>Q r26 h25) (
    aE (.ptr i 0) fun t73=>ae 0 t73 fun t74=>ah t74 h22 fun t75=>C cx [t75,(.fn (.func dF) [] [])] h22 fun t76 h27=>C j6 [t76] h27 fun t78 h28=>
    ifB t78 (
     aE (.ptr i 0) fun t81=>ae 0 t81 fun t82=>ah t82 h28 fun t83=>ce t76 fun t85=>bk t83 (some t85) none fun t86=>
     aE (.ptr i 0) fun t87=>ae 0 t87 fun t88=>au 1 t88 t86 h28 fun h29=>aq [(I 0),(I 0),(S ⟨#[]⟩),(.full 0 [])] [(0,1,(I 2)),(2,1,t76)] fun t90=>
     au 4 (.ptr q 0) t90 h29 fun h30=>ay 4 (.ptr q 0) h30 fun r31=>Q r31 h30) (
     C bK [.ptr i 0] h28 fun t92 h32=>au 4 (.ptr q 0) t92 h32 fun h33=>ay 4 (.ptr q 0) h33 fun r34=>Q r34 h33)):=by
 (repeat (first|refine ap ?_|refine ak ?_|refine ai ‹_› (by first|exact .head _|exact .tail _ (.head _)) rfl ?_))
 refine Ap b fun h1 f1=>?_
 have s1:=s.call f1
 refine sZ ?_
 unfold Ni at r
 refine af (fun hb=>?_) (fun hb=>?_)<;>simp only[za,zb,zc,zd,ze,zf,zg,zh,zi,u8i,zj,zk,zl]at hb
 ·rw[if_pos (by exact hb)]at r
  refine yf 10 (by omega) (Ns b) (PL b) (PY b) (s1.get (.tail _ (.head _))) ⟨fun x l' h2 hm f2 e2=>?_,fun cs l' h2 hm f2 e2 hc ho=>?_⟩
  ·have s2:=s1.call1 f2 e2 (.tail .head)
   refine bh s2 bN (ax _) (bS _) .head fun h3 s3=>?_
   refine aY s3 (ax _) (.head _) ?_
   exact r.good _ _ _ hm s3.fr (s3.get (.tail _ (.head _)))
  ·have s2:=s1.call1 f2 e2 (.tail .head)
   refine bh s2 bN hc ho .head fun h3 s3=>?_
   refine aY s3 hc (.head _) ?_
   exact r.bad _ _ _ hm s3.fr (s3.get (.tail _ (.head _))) hc ho
 ·rw[if_neg (by simpa [Ns] using hb)]at r
  (repeat (first|refine ap ?_|refine ak ?_|refine ai ‹_› (by first|exact .head _|exact .tail _ (.head _)) rfl ?_))
  refine qd b fun h2 f2=>?_
  have s2:=s1.call f2
  refine Rp _ fun h3 f3=>?_
  have s3:=s2.call f3
  refine af (fun hw=>?_) (fun hw=>?_)
  ·rw[if_pos (by exact hw)]at r
   (repeat (first|refine ap ?_|refine ak ?_|refine bz ?_|refine ai ‹_› (by first|exact .head _|exact .tail _ (.head _)) rfl ?_))
   have hl:=Pf b
   unfold zm at hl
   refine ft (by omega) (by omega) ?_
   (repeat (first|refine ap ?_|refine ak ?_))
   refine aB s3 (.tail .head) rfl rfl rfl (nle rfl) fun h4 s4=>?_
   (repeat refine aK rfl ?_)
   refine bh s4 bN rfl rfl .head fun h5 s5=>?_
   refine aY s5 rfl (.head _) ?_
   exact r.good _ _ _ rfl s5.fr (s5.get (.tail _ (.head _)))
  ·rw[if_neg (by unfold zm;rw[hw];simp)]at r
   refine qo (s3.get (.tail _ (.head _))) fun h4 f4 e4=>?_
   have s4:=s3.call1 f4 e4 (.tail .head)
   refine bh s4 bN (ax _) (bS _) .head fun h5 s5=>?_
   refine aY s5 (ax _) (.head _) ?_
   exact r.bad _ _ _ rfl s5.fr (s5.get (.tail _ (.head _))) rfl rfl
theorem Lb {group minus:PF}(hG:S2 eP D group) (hM:S2 eU D minus):uA cK [] D (Dz group minus):=fun l h Q i e r=>by
 refine vn _ _ _ ?_
 unfold rn
 unfold Dz at r
 refine bf (St.start1 e) fun q h1 s1=>?_
 refine vT (m:=[40]) (s1.get (.tail _ (.head _))) (fun hp h2 f2 e2=>?_) (fun hp h2 f2 e2=>?_)
 ·have s2:=s1.call1 f2 e2 (.tail .head)
  rw[if_pos hp]at r
  refine af (fun _=>?_) (fun h=>by cases h)
  refine hG _ _ _ i (s2.get (.tail _ (.head _))) ⟨fun x l' h3 hm f3 e3=>?_,fun cs l' h3 hm f3 e3 hc ho=>?_⟩
  ·have s3:=s2.call1 f3 e3 (.tail .head)
   refine bh s3 bN (ax _) (bS _) .head fun h4 s4=>?_
   refine aY s4 (ax _) (.head _) ?_
   exact r.good _ _ _ hm s4.fr (s4.get (.tail _ (.head _)))
  ·have s3:=s2.call1 f3 e3 (.tail .head)
   refine bh s3 bN hc ho .head fun h4 s4=>?_
   refine aY s4 hc (.head _) ?_
   exact r.bad _ _ _ hm s4.fr (s4.get (.tail _ (.head _))) hc ho
 have s2:=s1.call1 f2 e2 (.tail .head)
 rw[if_neg (by simp[hp])]at r
 refine af (fun h=>by cases h) (fun _=>?_)
 refine vT (m:=[45]) (s2.get (.tail _ (.head _))) (fun hp h3 f3 e3=>?_) (fun hp h3 f3 e3=>?_)
 ·have s3:=s2.call1 f3 e3 (.tail .head)
  rw[show blk (blk l)=blk l from np 32 l]at hp s3
  rw[if_pos hp]at r
  refine af (fun _=>?_) (fun h=>by cases h)
  refine hM _ _ _ i (s3.get (.tail _ (.head _))) ⟨fun x l' h4 hm f4 e4=>?_,fun cs l' h4 hm f4 e4 hc ho=>?_⟩
  ·have s4:=s3.call1 f4 e4 (.tail .head)
   refine bh s4 bN (ax _) (bS _) .head fun h5 s5=>?_
   refine aY s5 (ax _) (.head _) ?_
   exact r.good _ _ _ hm s5.fr (s5.get (.tail _ (.head _)))
  ·have s4:=s3.call1 f4 e4 (.tail .head)
   refine bh s4 bN hc ho .head fun h5 s5=>?_
   refine aY s5 hc (.head _) ?_
   exact r.bad _ _ _ hm s5.fr (s5.get (.tail _ (.head _))) hc ho
 have s3:=s2.call1 f3 e3 (.tail .head)
 rw[show blk (blk l)=blk l from np 32 l]at hp s3
 rw[if_neg (by simp[hp])]at r
 refine af (fun h=>by cases h) (fun _=>?_)
 refine vT (m:=[46]) (s3.get (.tail _ (.head _))) (fun hp h4 f4 e4=>?_) (fun hp h4 f4 e4=>?_)
 ·have s4:=s3.call1 f4 e4 (.tail .head)
  rw[show blk (blk l)=blk l from np 32 l]at hp s4
  rw[if_pos hp]at r
  refine af (fun _=>?_) (fun h=>by cases h)
  (repeat refine aK rfl ?_)
  refine bh s4 bN rfl rfl .head fun h5 s5=>?_
  refine aY s5 rfl (.head _) ?_
  exact r.good _ _ _ rfl s5.fr (s5.get (.tail _ (.head _)))
 have s4:=s3.call1 f4 e4 (.tail .head)
 rw[show blk (blk l)=blk l from np 32 l]at hp s4
 rw[if_neg (by simp[hp])]at r
 refine af (fun h=>by cases h) (fun _=>?_)
 unfold Lr at r
 (repeat (first|refine ap ?_|refine ak ?_|refine ai ‹_› (by first|exact .head _|exact .tail _ (.head _)) rfl ?_))
 refine vO ?_
 refine af (fun hx=>?_) (fun hx=>?_)
 ·rw[if_pos hx]at r
  have hle:=(List.isPrefixOf_iff_prefix.1 hx).length_le
  have hle:2≤(blk l).length:=hle
  (repeat (first|refine ap ?_|refine ak ?_|refine ai ‹_› (by first|exact .head _|exact .tail _ (.head _)) rfl ?_))
  refine ft (by omega) (by omega) ?_
  refine HL _ fun h5 f5=>?_
  have s5:=s4.call f5
  refine sZ ?_
  refine af (fun hb=>?_) (fun hb=>?_)<;>simp only[za,zb,zc,zd,ze,zf,zg,zh,zi,u8i,zj,zk,zl]at hb
  ·rw[if_pos (by exact hb)]at r
   (repeat (first|refine ap ?_|refine ak ?_|refine ai ‹_› (by first|exact .head _|exact .tail _ (.head _)) rfl ?_))
   refine ft (by omega) (by omega) ?_
   (repeat (first|refine ap ?_|refine ak ?_))
   refine aB s5 (.tail .head) rfl rfl rfl (nle rfl) fun h6 s6=>?_
   have s6:St h [i] h6 [(q,true,.cells zE),(i,true,pO ((blk l).drop 2) D false)]:=s6
   (repeat (first|refine ap ?_|refine ak ?_|refine ai ‹_› (by first|exact .head _|exact .tail _ (.head _)) rfl ?_))
   refine HL _ fun h7 f7=>?_
   have s7:=s6.call f7
   refine yf 16 (by omega) (NO ((blk l).drop 2)) (O6 _) (Q3 _) (s7.get (.tail _ (.head _))) ⟨fun x l' h8 hm f8 e8=>?_,fun cs l' h8 hm f8 e8 hc ho=>?_⟩
   ·have s8:=s7.call1 f8 e8 (.tail .head)
    refine bh s8 bN (ax _) (bS _) .head fun h9 s9=>?_
    refine aY s9 (ax _) (.head _) ?_
    exact r.good _ _ _ hm s9.fr (s9.get (.tail _ (.head _)))
   ·have s8:=s7.call1 f8 e8 (.tail .head)
    refine bh s8 bN hc ho .head fun h9 s9=>?_
    refine aY s9 hc (.head _) ?_
    exact r.bad _ _ _ hm s9.fr (s9.get (.tail _ (.head _))) hc ho
  ·rw[if_neg (by simpa [NO] using hb)]at r
   exact Ps s5 r
 ·rw[if_neg (by rw[hx];simp)]at r
  exact Ps s4 r
theorem Jp {one:PF}(ho:uA cK [] D one) (hs:mZ one):∀ R,R≤5→uA cj [I ((5-R:Nat):Int)] D (qF one R)
 | 0,_=>fun l h Q i e r=>by
   refine nw _ _ _ _ ?_
   unfold mi
   refine bf (St.start1 e) fun q h1 s1=>?_
   refine mW ?_
   (repeat (first|refine eu ?_|refine aA ?_))
   refine af (fun _=>?_) (fun hb=>(by exfalso;first|(simp at hb;done)|(simp at hb;omega)|(revert hb;decide)|omega))
   refine ho l h1 _ i (s1.get (.tail _ (.head _))) ⟨fun x l' h2 hm f2 e2=>?_,fun cs l' h2 hm f2 e2 hc ho=>?_⟩
   ·have s2:=s1.call1 f2 e2 (.tail .head)
    refine bh s2 bN (ax _) (bS _) .head fun h3 s3=>?_
    refine aY s3 (ax _) (.head _) ?_
    exact r.good _ _ _ hm s3.fr (s3.get (.tail _ (.head _)))
   ·have s2:=s1.call1 f2 e2 (.tail .head)
    refine bh s2 bN hc ho .head fun h3 s3=>?_
    refine aY s3 hc (.head _) ?_
    exact r.bad _ _ _ hm s3.fr (s3.get (.tail _ (.head _))) hc ho
 | R+1,hR=>fun l h Q i e r=>by
   have ih:=Jp ho hs R (by omega)
   have ihs:=vB hs R (by omega)
   have hlv:5-(R+1)=4-R:=by omega
   have hnx:(((5-(R+1):Nat):Int)+1)=((5-R:Nat):Int):=by omega
   have hlv5:4-R<levelsL.length:=by show 4-R<5;omega
   have hmem:levelsL[4-R]∈levelsL:=by simp
   obtain⟨hk1,hk2,hk3⟩:=DQ _ hmem
   have hks:(levelsL[4-R]?).getD []=levelsL[4-R]:=by simp[hlv5]
   generalize hkse:levelsL[4-R]=ks at hk1 hk2 hk3 hks
   have RK:∀ h',Row (fun k:Nat=>[I (k:Nat)]) 1 h' (.full ks.length (ks.flatMap fun k=>[I (k:Nat)])) ks:=fun h'=>Row.full (enc:=fun k:Nat=>[I (k:Nat)]) (fun _=>rfl) ks
   refine nw _ _ _ _ ?_
   unfold mi
   refine bf (St.start1 e) fun q h1 s1=>?_
   refine mW ?_
   (repeat (first|refine eu ?_|refine aA ?_))
   refine af (fun hb=>absurd hb (by simp[levelsL];omega)) (fun _=>?_)
   refine aJ (by omega) ?_
   rw[hnx]
   have LV:∀ {h':ab} {K:AV→Prop},(∀ p,Pt h' p [.full ks.length (ks.flatMap fun k=>[I (k:Nat)])]→K p)→am 1 (.full levelsL.length (levelsL.flatMap Kh)) (I ((5-(R+1):Nat):Int)) K:=fun {h' K} k=>by
    rw[hlv]
    refine (Row.full (h:=h') (enc:=Kh) (fun _=>rfl) levelsL).idx (fun _=>rfl) hlv5 fun p t=>k p ?_
    rw[hkse]at t;exact t
   refine ih l h1 _ i (s1.get (.tail _ (.head _))) ⟨fun x l1 h2 hm f2 e2=>?_,fun cs l1 h2 hm f2 e2 hc ho2=>?_⟩
   ·have s2:=s1.call1 f2 e2 (.tail .head)
    have hm2:qF one (R+1) l=nT (qF one R) ks l1.length x l1:=by
     conv=>lhs;unfold qF
     rw[hm,hks]
    rw[hm2]at r
    refine bf s2 fun q2 h3 s3=>?_
    refine bh s3 bN (ax _) (bS _) .head fun h4 s4=>?_
    refine mW ?_
    refine LV (h':=h4) fun p t=>?_
    refine aD t ?_
    refine Ma ks hk2 hk3 (RK _) (s4.get (.tail _ (.tail _ (.head _)))) (gN (s4.get (i:=i) (.tail _ (.tail _ (.head _))))) (fun h' _=>RK h') fun h5 f5 e5=>?_
    have s5:=s4.call1 f5 e5 (.tail (.tail .head))
    clear s4 s3 s2 s1 f5 e5 f2 e2 t p
    refine aP (fun n vs h'=>∃ (cs:List AV) (k:Nat) (l2:Str) (b:Bool),vs=[I (k:Nat)]∧cs.length=4∧cs.all AV.one=true∧St h [i] h' [(q2,true,.cells cs),(q,true,.cells zE),(i,true,pO l2 D b)]∧
     ((b=false∧∃ y l3,cs=cU y∧l3.length≤n∧jC ks l3=(k,l2)∧nT (qF one R) ks l1.length x l1=nT (qF one R) ks n y l3)∨(b=true∧k=0∧nT (qF one R) ks l1.length x l1=none))) l1.length
     ⟨cU x,(jC ks l1).1,(jC ks l1).2,false,rfl,ax _,bS _,s5,.inl ⟨rfl,x,l1,rfl,Nat.le_refl _,rfl,rfl⟩⟩ ?_
    rintro n vs h' ⟨cs,k,l2,b,rfl,hc,ho3,s6,hcase⟩
    unfold iI
    have fin:(b=false∧∃ y,cs=cU y∧nT (qF one R) ks l1.length x l1=some (y,l2))∨(b=true∧nT (qF one R) ks l1.length x l1=none)→
      ay 4 (.ptr q2 0) h' fun t46=>au 4 (.ptr q 0) t46 h' fun h17=>ay 4 (.ptr q 0) h17 fun r18=>Q r18 h17:=by
     intro hh
     refine aY s6 hc (.head _) ?_
     refine bh s6 bN hc ho3 (.tail .head) fun h8 s8=>?_
     refine aY s8 hc (.tail _ (.head _)) ?_
     rcases hh with ⟨rfl,y,rfl,he⟩|⟨rfl,he⟩
     ·exact r.good _ _ _ he s8.fr (s8.get (.tail _ (.tail _ (.head _))))
     ·exact r.bad _ _ _ he s8.fr (s8.get (.tail _ (.tail _ (.head _)))) hc ho3
    refine cr ?_
    refine af (fun hz=>?_) (fun hz=>?_)<;>simp only[za,zb,zc,zd,ze,zf,zg,zh,zi,u8i,zj,zk,zl]at hz
    ·(repeat (first|refine ap ?_|refine ak ?_|refine dy ?_|refine ai ‹_› (by first|exact .head _|exact .tail _ (.tail _ (.head _))) rfl ?_))
     rcases hcase with ⟨rfl,y,l3,rfl,hl3,hkm,hlp⟩|⟨rfl,rfl,hno⟩
     ·refine af (fun _=>?_) (fun h=>by cases h)
      have hk0:k≠0:=by omega
      obtain⟨hl4,hl5⟩:=wX ks hk1 l3
      rw[hkm]at hl4 hl5
      have hl5:=hl5 hk0
      simp only at hl5
      obtain⟨n',rfl⟩:∃ m,n=m+1:=⟨n-1,by omega⟩
      rw[nT,hkm]at hlp
      simp only[if_neg hk0]at hlp
      refine aY s6 (ax _) (.head _) ?_
      refine aJ (by omega) ?_
      rw[hnx]
      refine ih l2 h' _ i (s6.get (.tail _ (.tail _ (.head _)))) ⟨fun z l4 h7 hm3 f7 e7=>?_,fun cs2 l4 h7 hm3 f7 e7 hc2 ho4=>?_⟩
      ·have s7:=s6.call1 f7 e7 (.tail (.tail .head))
       rw[hm3]at hlp
       refine⟨aY s7 (ax _) (.head _) rfl,?_⟩
       refine aF rfl (by simp[AV.isTup,AV.cells,ax]) ?_
       rw[show ([AV.agg (cU y),AV.agg (cU z)].flatMap fun x=>x.cells)=cU y++cU z by simp[AV.cells]]
       (repeat refine aK rfl ?_)
       refine bh s7 (ax _) rfl rfl .head fun h8 s8=>?_
       refine mW ?_
       refine LV (h':=h8) fun p t=>?_
       refine aD t ?_
       refine Ma ks hk2 hk3 (RK _) (s8.get (.tail _ (.tail _ (.head _)))) (gN (s8.get (i:=i) (.tail _ (.tail _ (.head _))))) (fun h' _=>RK h') fun h9 f9 e9=>?_
       have s9:=s8.call1 f9 e9 (.tail (.tail .head))
       have hsh:=ihs _ _ _ hm3
       exact⟨n',by omega,cU (.bin k y z),_,_,false,rfl,rfl,rfl,s9,.inl ⟨rfl,.bin k y z,l4,rfl,by omega,rfl,hlp⟩⟩
      ·have s7:=s6.call1 f7 e7 (.tail (.tail .head))
       rw[hm3]at hlp
       refine⟨aY s7 (ax _) (.head _) rfl,?_⟩
       refine aF rfl (by simp[AV.isTup,AV.cells,ax,hc2]) ?_
       (repeat refine aK rfl ?_)
       refine bh s7 (ax _) rfl rfl .head fun h8 s8=>?_
       refine mW ?_
       refine LV (h':=h8) fun p t=>?_
       refine aD t ?_
       refine Ba ks hk2 hk3 (RK _) (s8.get (.tail _ (.tail _ (.head _)))) (fun h' _=>RK h') fun l5 h9 f9 e9=>?_
       have s9:=s8.call1 f9 e9 (.tail (.tail .head))
       exact⟨n',by omega,_,0,_,true,rfl,rfl,rfl,s9,.inr ⟨rfl,rfl,hlp⟩⟩
     ·exact absurd hz (by simp)
    ·have hk0:k=0:=by omega
     subst hk0
     refine fin ?_
     rcases hcase with ⟨rfl,y,l3,rfl,hl3,hkm,hlp⟩|⟨rfl,_,hno⟩
     ·refine .inl ⟨rfl,y,rfl,?_⟩
      rw[hlp]
      cases n with
      | zero=>rw[nT,hkm];simp
      | succ n=>rw[nT,hkm];simp
     ·exact .inr ⟨rfl,hno⟩
   ·have s2:=s1.call1 f2 e2 (.tail .head)
    have hm2:qF one (R+1) l=none:=by
     conv=>lhs;unfold qF
     rw[hm]
    rw[hm2]at r
    refine bf s2 fun q2 h3 s3=>?_
    refine bh s3 bN hc ho2 .head fun h4 s4=>?_
    refine mW ?_
    refine LV (h':=h4) fun p t=>?_
    refine aD t ?_
    refine Ba ks hk2 hk3 (RK _) (s4.get (.tail _ (.tail _ (.head _)))) (fun h' _=>RK h') fun l5 h5 f5 e5=>?_
    have s5:=s4.call1 f5 e5 (.tail (.tail .head))
    refine aP (fun n vs h'=>vs=[I 0]∧h'=h5) 0 ⟨rfl,rfl⟩ ?_
    rintro n vs h' ⟨rfl,rfl⟩
    unfold iI
    refine cr ?_
    refine af (fun hb=>absurd hb (by simp)) (fun _=>?_)
    refine aY s5 hc (.head _) ?_
    refine bh s5 bN hc ho2 (.tail .head) fun h8 s8=>?_
    refine aY s8 hc (.tail _ (.head _)) ?_
    exact r.bad _ _ _ rfl s8.fr (s8.get (.tail _ (.tail _ (.head _)))) hc ho2
end
end
section
variable [Tabs]
theorem Ph:∀ (d D:Nat),D+d=12→uA cK [] D (MH d)
 | 0,D,h=>by
   have:D=12:=by omega
   subst this
   exact Lb (fun l h Q i e r=>yS _ l h Q i e r) (fun l h Q i e r=>yS _ l h Q i e r)
 | d+1,D,h=>by
   have i1:=Ph d (D+1) (by omega)
   have i2:uA cj [I 0] (D+1) (qF (MH d) 5):=Jp i1 (qG d) 5 (Nat.le_refl _)
   exact Lb (Da (Qz i2) (by omega)) (Da (PQ i1) (by omega))
theorem OY (l:Str) {h:ab}{Q:QT}(k1:∀ x,tM l=some x→∀ h',Fr [] h h'→Q (.tup [.agg (cU x),B true]) h') (k0:tM l=none→∀ h',Fr [] h h'→Q (.tup [.agg zE,B false]) h'):C oC [T l] h Q:=by
 refine Cl _ _ _ ?_
 unfold zT
 refine bf (St.start h) fun q h1 s1=>?_
 (repeat refine aK rfl ?_)
 refine dz s1 rfl fun i h2 s2=>?_
 have s2:St h [] h2 [(i,true,pO l 0 false),(q,true,.cells zE)]:=s2
 refine Jp (Ph 12 0 rfl) (qG 12) 5 (Nat.le_refl _) l h2 _ i (s2.get (.head _)) ⟨fun x l' h3 hm f3 e3=>?_,fun cs l' h3 hm f3 e3 hc ho=>?_⟩
 ·have s3:=s2.call1 f3 e3 .head
  refine bh s3 bN (ax _) (bS _) (.tail .head) fun h4 s4=>?_
  refine tR (s4.get (.head _)) fun h5 f5 e5=>?_
  have s5:=s4.call1 f5 e5 .head
  have hp:tM l=if blk l'=[] then some x else none:=by unfold tM;rw[hm]
  (repeat (first|refine ap ?_|refine ak ?_|refine sZ ?_|refine ai ‹_› (.head _) rfl ?_))
  refine af (fun hb=>?_) (fun hb=>?_)
  ·rw[if_neg (by simpa using hb)]at hp
   (repeat refine aK rfl ?_)
   refine bh s5 (ax _) rfl rfl (.tail .head) fun h6 s6=>?_
   refine aY s6 rfl (.tail _ (.head _)) ?_
   exact k0 hp _ s6.fr
  ·rw[if_pos (by simpa using hb)]at hp
   refine aY s5 (ax _) (.tail _ (.head _)) ?_
   refine bh s5 (ax _) (ax _) (bS _) (.tail .head) fun h6 s6=>?_
   refine aY s6 (ax _) (.tail _ (.head _)) ?_
   exact k1 x hp _ s6.fr
 ·have s3:=s2.call1 f3 e3 .head
  refine bh s3 bN hc ho (.tail .head) fun h4 s4=>?_
  refine tR (s4.get (.head _)) fun h5 f5 e5=>?_
  have s5:=s4.call1 f5 e5 .head
  have hp:tM l=none:=by unfold tM;rw[hm]
  (repeat (first|refine ap ?_|refine ak ?_|refine ai ‹_› (.head _) rfl ?_|refine aK rfl ?_))
  refine bh s5 hc rfl rfl (.tail .head) fun h6 s6=>?_
  refine aY s6 rfl (.tail _ (.head _)) ?_
  exact k0 hp _ s6.fr
def mostI:Int:=1099511627776
abbrev Ev:=Int×Int
def evV (e:Ev):AV:=.tup [I e.1,I e.2]
def dk (n:Int):Ev:=if n < -1099511627776∨1099511627776<n then (0,6) else (n,0)
section
variable {h:ab}{Q:QT}
theorem iR (n:Int) (k:Q (evV (dk n)) h):C cq [I n] h Q:=by
 refine Ck _ _ _ ?_
 unfold Bs
 unfold dk at k
 (repeat refine aL ?_)
 refine af (fun h1=>?_) (fun h1=>?_)<;>simp only[za,zb,zc,zd,ze,zf,zg,zh,zi,u8i,zj,zk,zl]at h1
 ·rw[if_pos (.inl h1)]at k;exact k
 (repeat refine cH ?_)
 refine af (fun h2=>?_) (fun h2=>?_)<;>simp only[za,zb,zc,zd,ze,zf,zg,zh,zi,u8i,zj,zk,zl]at h2
 ·rw[if_pos (.inr h2)]at k;exact k
 ·rw[if_neg (by omega)]at k;exact k
def vr (a b:Int):Ev:=if a=0∨b=0 then (0,0) else if (mostI.tdiv (max b (-b)))<max a (-a) then (0,6) else dk (a*b)
theorem Hk (a b:Int) (ha:-1099511627776≤a∧a≤1099511627776) (hb:-1099511627776≤b∧b≤1099511627776) (k:Q (evV (vr a b)) h):C ll [I a,I b] h Q:=by
 refine Co _ _ _ _ ?_
 unfold AF
 unfold vr mostI at k
 (repeat refine aA ?_)
 refine af (fun h1=>?_) (fun h1=>?_)<;>simp only[za,zb,zc,zd,ze,zf,zg,zh,zi,u8i,zj,zk,zl]at h1
 ·rw[if_pos (.inl h1)]at k;exact k
 (repeat refine aA ?_)
 refine af (fun h2=>?_) (fun h2=>?_)<;>simp only[za,zb,zc,zd,ze,zf,zg,zh,zi,u8i,zj,zk,zl]at h2
 ·rw[if_pos (.inr h2)]at k;exact k
 rw[if_neg (by omega)]at k
 refine RQ ?_
 refine Jx (by omega) ?_
 (repeat refine Aa ?_)
 refine Jx (by omega) ?_
 (repeat refine Aa ?_)
 have hm:1≤max b (-b):=by omega
 have hq0:0≤Int.tdiv 1099511627776 (max b (-b)):=Int.tdiv_nonneg (by omega) (by omega)
 have hq1:Int.tdiv 1099511627776 (max b (-b))≤1099511627776:=by
  rw[Int.tdiv_eq_ediv_of_nonneg (by omega)];exact Int.ediv_le_self _ (by omega)
 refine mc (by omega) (by omega) ?_
 refine cH ?_
 refine af (fun h3=>?_) (fun h3=>?_)<;>simp only[za,zb,zc,zd,ze,zf,zg,zh,zi,u8i,zj,zk,zl]at h3
 ·rw[if_pos h3]at k;exact k
 ·rw[if_neg (by omega)]at k
  have hmul:max a (-a)*max b (-b)≤1099511627776:=by
   have h4:max a (-a)≤Int.tdiv 1099511627776 (max b (-b)):=by omega
   have h5:max a (-a)*max b (-b)≤Int.tdiv 1099511627776 (max b (-b))*max b (-b):=Int.mul_le_mul_of_nonneg_right h4 (by omega)
   rw[Int.tdiv_eq_ediv_of_nonneg (by omega)]at h5
   have h6:=Int.ediv_mul_le 1099511627776 (show max b (-b)≠0 by omega)
   omega
  have hab:-1099511627776≤a*b∧a*b≤1099511627776:=by
   have e1:(a*b).natAbs=(max a (-a)*max b (-b)).natAbs:=by
    rw[Int.natAbs_mul,Int.natAbs_mul]
    congr 1<;>omega
   have h7:0≤max a (-a)*max b (-b):=Int.mul_nonneg (by omega) (by omega)
   omega
  rw[rP (by omega)]
  refine iR _ ?_
  (repeat refine aw rfl ?_)
  exact k
def yn (kd:Nat) (a b:Int):Ev:=
 if kd=5 then dk (a+b) else if kd=6 then dk (a-b) else if kd=7 then vr a b else if kd=8 then dk (zo .i64 a b) else if kd=9 then dk (orI .i64 a b)
 else if b<0∨40<b then (0,6) else if kd=11 then dk (Gg .i64 a b.toNat) else vr a (2^b.toNat)
theorem SO (kd:Nat) (a b:Int) (ha:-1099511627776≤a∧a≤1099511627776) (hb:-1099511627776≤b∧b≤1099511627776) (k:Q (evV (yn kd a b)) h):C qq [I (kd:Nat),I a,I b] h Q:=by
 refine FV _ _ _ _ _ ?_
 unfold C6
 unfold yn at k
 (repeat refine aA ?_)
 refine af (fun h5=>?_) (fun h5=>?_)<;>simp only[za,zb,zc,zd,ze,zf,zg,zh,zi,u8i,zj,zk,zl]at h5
 ·rw[if_pos (by omega)]at k
  (repeat refine aJ (by omega) ?_)
  refine iR _ ?_
  (repeat refine aw rfl ?_);exact k
 rw[if_neg (by omega)]at k
 (repeat refine aA ?_)
 refine af (fun h6=>?_) (fun h6=>?_)<;>simp only[za,zb,zc,zd,ze,zf,zg,zh,zi,u8i,zj,zk,zl]at h6
 ·rw[if_pos (by omega)]at k
  (repeat refine dh (by omega) ?_)
  refine iR _ ?_
  (repeat refine aw rfl ?_);exact k
 rw[if_neg (by omega)]at k
 (repeat refine aA ?_)
 refine af (fun h7=>?_) (fun h7=>?_)<;>simp only[za,zb,zc,zd,ze,zf,zg,zh,zi,u8i,zj,zk,zl]at h7
 ·rw[if_pos (by omega)]at k
  refine Hk a b ha hb ?_
  (repeat refine aw rfl ?_);exact k
 rw[if_neg (by omega)]at k
 (repeat refine aA ?_)
 refine af (fun h8=>?_) (fun h8=>?_)<;>simp only[za,zb,zc,zd,ze,zf,zg,zh,zi,u8i,zj,zk,zl]at h8
 ·rw[if_pos (by omega)]at k
  refine mK ?_
  refine iR _ ?_
  (repeat refine aw rfl ?_);exact k
 rw[if_neg (by omega)]at k
 (repeat refine aA ?_)
 refine af (fun h9=>?_) (fun h9=>?_)<;>simp only[za,zb,zc,zd,ze,zf,zg,zh,zi,u8i,zj,zk,zl]at h9
 ·rw[if_pos (by omega)]at k
  refine qc ?_
  refine iR _ ?_
  (repeat refine aw rfl ?_);exact k
 rw[if_neg (by omega)]at k
 (repeat refine aL ?_)
 refine af (fun hn=>?_) (fun hn=>?_)<;>simp only[za,zb,zc,zd,ze,zf,zg,zh,zi,u8i,zj,zk,zl]at hn
 ·rw[if_pos (.inl hn)]at k;exact k
 (repeat refine cH ?_)
 refine af (fun hg=>?_) (fun hg=>?_)<;>simp only[za,zb,zc,zd,ze,zf,zg,zh,zi,u8i,zj,zk,zl]at hg
 ·rw[if_pos (.inr hg)]at k;exact k
 rw[if_neg (by omega)]at k
 (repeat refine aA ?_)
 refine af (fun h11=>?_) (fun h11=>?_)<;>simp only[za,zb,zc,zd,ze,zf,zg,zh,zi,u8i,zj,zk,zl]at h11
 ·rw[if_pos (by omega)]at k
  refine tz (by omega) ?_
  refine iR _ ?_
  (repeat refine aw rfl ?_);exact k
 ·rw[if_neg (by omega)]at k
  refine iB (by omega) ?_
  obtain⟨n,rfl⟩:∃ n:Nat,b=n:=⟨b.toNat,by omega⟩
  have hn40:n≤40:=by omega
  have hp:2^n≤2^40:=Nat.pow_le_pow_right (by omega) hn40
  have hpi:((2:Int)^n)=((2^n:Nat):Int):=by simp
  have hp0:0<2^n:=Nat.two_pow_pos n
  have e1:min (n:Int).toNat IntKind.i64.bits=n:=by
   show min (n:Int).toNat 64=n
   omega
  rw[e1,Int.one_mul,rP (by rw[hpi];omega)]
  rw[Int.toNat_natCast]at k
  refine Hk a _ ha (by rw[hpi];omega) ?_
  (repeat refine aw rfl ?_);exact k
abbrev Sy:=Str×Int
def syE (y:Sy):List AV:=[T y.1,I y.2]
def gI (here:Int) (syms:List Sy):Ex→Ev
 | .none=>(0,6)
 | .num n=>dk n
 | .name s=>match syms.find? fun y=>decide (y.1=s) with
   | some y=>dk y.2
   | none=>(0,4)
 | .here=>dk here
 | .neg e=>if (gI here syms e).2≠0 then (0,(gI here syms e).2) else dk (-(gI here syms e).1)
 | .bin k a b=>if (gI here syms a).2≠0 then (0,(gI here syms a).2) else if (gI here syms b).2≠0 then (0,(gI here syms b).2) else yn k (gI here syms a).1 (gI here syms b).1
theorem gm (n:Int):-1099511627776≤(dk n).1∧(dk n).1≤1099511627776:=by unfold dk;split<;>simp<;>omega
theorem N6 (a b:Int):-1099511627776≤(vr a b).1∧(vr a b).1≤1099511627776:=by
 unfold vr;split
 ·simp
 ·split
  ·simp
  ·exact gm _
theorem Hs (k:Nat) (a b:Int):-1099511627776≤(yn k a b).1∧(yn k a b).1≤1099511627776:=by
 unfold yn
 repeat' split
 all_goals first|exact gm _|exact N6 _ _|simp
theorem A3 (here:Int) (syms:List Sy):∀ e:Ex,-1099511627776≤(gI here syms e).1∧(gI here syms e).1≤1099511627776
 | .none=>by simp[gI]
 | .num n=>gm _
 | .name s=>by
   unfold gI;split
   ·exact gm _
   ·simp
 | .here=>gm _
 | .neg e=>by
   unfold gI;split
   ·simp
   ·exact gm _
 | .bin k a b=>by
   unfold gI;split
   ·simp
   ·split
    ·simp
    ·exact Hs _ _ _
def okE:Ex→Prop
 | .neg e=>okE e
 | .bin k a b=>(5≤k∧k≤11)∧okE a∧okE b
 | _=>True
theorem Ji {α:Type}(p:α→Bool):∀ l:List α,(eN p l=-1∧l.find? p=none)∨∃ (i:Nat) (hi:i<l.length),eN p l=(i:Nat)∧l.find? p=some l[i]:=fun l=>by
 unfold eN
 cases h:l.findIdx? p with
 | none=>
   rw[List.findIdx?_eq_none_iff]at h
   exact .inl ⟨rfl,by rw[List.find?_eq_none];intro x hx;simp[h x hx]⟩
 | some i=>
   rw[List.findIdx?_eq_some_iff_getElem]at h
   obtain⟨hi,hp,hn⟩:=h
   refine .inr ⟨i,hi,rfl,?_⟩
   rw[List.find?_eq_some_iff_getElem]
   exact⟨hp,i,hi,rfl,fun j hj=>by simpa using hn j hj⟩
theorem zx (here:Int) (syms:List Sy) (hl:syms.length<1000000):∀ (e:Ex),okE e→∀ (h:ab) (Q:QT) {v:AV},Row syE 2 h v syms→(∀ h',Fr [] h h'→Q (evV (gI here syms e)) h')→C j7 [.agg (cU e),I here,v] h Q
 | .none,hk,h,Q,v,r,k=>by
   refine hQ _ _ _ _ _ ?_
   unfold k5
   refine dz (St.start h) rfl fun i h1 s1=>?_
   have s1:St h [] h1 [(i,true,.cells (cU .none))]:=s1
   (repeat (first|refine ak ?_|refine eu ?_|refine aA ?_|refine ai ‹_› (.head _) rfl ?_))
   exact k _ s1.fr
 | .num n,hk,h,Q,v,r,k=>by
   refine hQ _ _ _ _ _ ?_
   unfold k5
   refine dz (St.start h) rfl fun i h1 s1=>?_
   have s1:St h [] h1 [(i,true,.cells (cU (.num n)))]:=s1
   (repeat (first|refine ak ?_|refine aA ?_|refine ai ‹_› (.head _) rfl ?_))
   refine iR _ ?_
   (repeat refine aw rfl ?_)
   exact k _ s1.fr
 | .here,hk,h,Q,v,r,k=>by
   refine hQ _ _ _ _ _ ?_
   unfold k5
   refine dz (St.start h) rfl fun i h1 s1=>?_
   have s1:St h [] h1 [(i,true,.cells (cU .here))]:=s1
   (repeat (first|refine ak ?_|refine aA ?_|refine ai ‹_› (.head _) rfl ?_))
   refine iR _ ?_
   (repeat refine aw rfl ?_)
   exact k _ s1.fr
 | .name s,hk,h,Q,v,r,k=>by
   refine hQ _ _ _ _ _ ?_
   unfold k5
   refine dz (St.start h) rfl fun i h1 s1=>?_
   have s1:St h [] h1 [(i,true,.cells (cU (.name s)))]:=s1
   (repeat (first|refine ak ?_|refine aA ?_|refine ai ‹_› (.head _) rfl ?_))
   refine sY (enc:=syE) (fun _=>rfl) _ (fun y=>decide (y.1=s)) syms (by omega) (r.fr s1.fr) (fun x hx h2 Q f2 kq=>?_) fun h2 f2=>?_
   ·show ACall Pg m1 _ _ _
    refine zZ _ _ _ _ ?_
    unfold yk
    have s2:=St.startr (f2.get (s1.get (.head _)) (by simp))
    refine dz s2 rfl fun j h3 s3=>?_
    (repeat (first|refine ak ?_|refine be ?_|refine ai ‹_› (by first|exact .head _|exact .tail _ (.head _)) rfl ?_))
    exact kq _ s3.fr
   ·have s2:=s1.call f2
    unfold gI at k
    rcases Ji (fun y:Sy=>decide (y.1=s)) syms with ⟨e1,e2⟩|⟨j,hj,e1,e2⟩
    ·rw[e1]
     rw[e2]at k
     (repeat refine aL ?_)
     exact k _ s2.fr
    ·rw[e1]
     rw[e2]at k
     (repeat refine aL ?_)
     refine (r.fr s2.fr).idx (fun _=>rfl) hj fun p t=>?_
     refine F4 t (nle rfl) fun q t2=>?_
     refine aD t2 ?_
     refine iR _ ?_
     (repeat refine aw rfl ?_)
     exact k _ s2.fr
 | .neg e,hk,h,Q,v,r,k=>by
   refine hQ _ _ _ _ _ ?_
   unfold k5
   refine dz (St.start h) rfl fun i h1 s1=>?_
   have s1:St h [] h1 [(i,true,.cells (cU (.neg e)))]:=s1
   (repeat (first|refine ak ?_|refine eu ?_|refine aA ?_|refine ai ‹_› (.head _) rfl ?_))
   have R1:∀ h,Row cU 4 h (.full 1 (cU e)) [e]:=fun h=>by
    have:=Row.full (h:=h) (enc:=cU) ax [e]
    simpa using this
   refine (R1 h1).idx ax (j:=0) (by simp) fun p t=>?_
   refine bX t (ax e).symm ?_
   refine zx here syms hl e hk h1 _ (r.fr s1.fr) fun h2 f2=>?_
   have s2:=s1.call f2
   have hin:=A3 here syms e
   unfold gI at k
   (repeat (first|refine aw rfl ?_|refine cr ?_))
   refine af (fun h1=>?_) (fun h1=>?_)<;>simp only[za,zb,zc,zd,ze,zf,zg,zh,zi,u8i,zj,zk,zl]at h1
   ·rw[if_pos h1]at k
    exact k _ s2.fr
   ·rw[if_neg (by omega)]at k
    (repeat (first|refine ak ?_|refine eu ?_|refine aA ?_|refine ai ‹_› (.head _) rfl ?_))
    refine Jx (by simp[evV];omega) ?_
    refine iR _ ?_
    (repeat refine aw rfl ?_)
    exact k _ s2.fr
 | .bin kd a b,hk,h,Q,v,r,k=>by
   obtain⟨hkd,hka,hkb⟩:=hk
   refine hQ _ _ _ _ _ ?_
   unfold k5
   refine dz (St.start h) rfl fun i h1 s1=>?_
   have s1:St h [] h1 [(i,true,.cells (cU (.bin kd a b)))]:=s1
   have R2:∀ h,Row cU 4 h (.full 2 (cU a++cU b)) [a,b]:=fun h=>by
    have:=Row.full (h:=h) (enc:=cU) ax [a,b]
    simpa using this
   (repeat (first|refine ak ?_|refine aA ?_|refine ai ‹_› (.head _) rfl ?_))
   refine af (fun hb=>absurd hb (by simp;omega)) (fun _=>?_)
   (repeat (first|refine ak ?_|refine aA ?_|refine ai ‹_› (.head _) rfl ?_))
   refine af (fun hb=>absurd hb (by simp;omega)) (fun _=>?_)
   (repeat (first|refine ak ?_|refine aA ?_|refine ai ‹_› (.head _) rfl ?_))
   refine af (fun hb=>absurd hb (by simp;omega)) (fun _=>?_)
   (repeat (first|refine ak ?_|refine eu ?_|refine aA ?_|refine ai ‹_› (.head _) rfl ?_))
   refine (R2 h1).idx ax (j:=0) (by simp) fun p t=>?_
   refine bX t (ax a).symm ?_
   refine zx here syms hl a hka h1 _ (r.fr s1.fr) fun h2 f2=>?_
   have s2:=s1.call f2
   have hin:=A3 here syms a
   have hin2:=A3 here syms b
   unfold gI at k
   (repeat (first|refine aw rfl ?_|refine cr ?_))
   refine af (fun ha=>?_) (fun ha=>?_)<;>simp only[za,zb,zc,zd,ze,zf,zg,zh,zi,u8i,zj,zk,zl]at ha
   ·rw[if_pos ha]at k
    exact k _ s2.fr
   rw[if_neg (by omega)]at k
   (repeat (first|refine ak ?_|refine eu ?_|refine aA ?_|refine ai ‹_› (.head _) rfl ?_))
   refine (R2 h2).idx ax (j:=1) (by simp) fun p t=>?_
   refine bX t (ax b).symm ?_
   refine zx here syms hl b hkb h2 _ (r.fr s2.fr) fun h3 f3=>?_
   have s3:=s2.call f3
   (repeat (first|refine aw rfl ?_|refine cr ?_))
   refine af (fun hb=>?_) (fun hb=>?_)<;>simp only[za,zb,zc,zd,ze,zf,zg,zh,zi,u8i,zj,zk,zl]at hb
   ·rw[if_pos hb]at k
    exact k _ s3.fr
   rw[if_neg (by omega)]at k
   (repeat (first|refine ak ?_|refine ai ‹_› (.head _) rfl ?_))
   refine SO kd _ _ hin hin2 ?_
   (repeat refine aw rfl ?_)
   exact k _ s3.fr
end
end
section
variable [Tabs]
def rx (out:List Str) (n:Str):List Str:=if out.any (fun y=>decide (n=y))=true then out else out++[n]
def bL:Ex→List Str
 | .name s=>[s]
 | .neg e=>(bL e).foldl rx []
 | .bin _ a b=>(bL b).foldl rx ((bL a).foldl rx [])
 | _=>[]
def io:Ex→Nat
 | .neg e=>1+io e
 | .bin _ a b=>1+io a+io b
 | _=>1
theorem PZ (out:List Str) (n:Str):(rx out n).length≤out.length+1:=by unfold rx;split<;>simp
theorem ue:∀ (l out:List Str),(l.foldl rx out).length≤out.length+l.length
 | [],out=>by simp
 | n::l,out=>by
   have h1:=ue l (rx out n)
   have h2:=PZ out n
   simp only[List.foldl_cons,List.length_cons];omega
theorem jt:∀ e:Ex,(bL e).length≤io e
 | .none=>by simp[bL]
 | .num _=>by simp[bL]
 | .here=>by simp[bL]
 | .name _=>by simp[bL,io]
 | .neg e=>by
   have h1:=ue (bL e) []
   have h2:=jt e
   simp only[bL,io,List.length_nil]at *;omega
 | .bin k a b=>by
   have h1:=ue (bL a) []
   have h2:=ue (bL b) ((bL a).foldl rx [])
   have h3:=jt a
   have h4:=jt b
   simp only[bL,io,List.length_nil]at *;omega
def dw:Ex→List Ex
 | .neg e=>[e]
 | .bin _ a b=>[a,b]
 | _=>[]
def Nh:Ex→List Str
 | .name s=>[s]
 | _=>[]
theorem MO (e:Ex):bL e=(dw e).foldl (fun out c=>(bL c).foldl rx out) (Nh e):=by cases e<;>rfl
theorem vU {e c:Ex}(h:c∈dw e):io c<io e:=by
 cases e<;>simp[dw]at h
 ·subst h;simp[io]
 ·rcases h with rfl|rfl<;>simp[io]<;>omega
theorem B0 {e c:Ex}(hk:okE e) (h:c∈dw e):okE c:=by
 cases e<;>simp[dw]at h
 ·subst h;exact hk
 ·rcases h with rfl|rfl
  ·exact hk.2.1
  ·exact hk.2.2
abbrev sE:Str→List AV:=fun x=>[T x]
theorem BD (e:Ex) (h:ab):Row cU 4 h ((cU e)[3]'(by rw[ax];omega)) (dw e):=by
 cases e with
 | none=>exact .nil
 | num n=>exact .nil
 | name s=>exact .nil
 | here=>exact .nil
 | neg e=>simpa [cU,dw] using Row.full (h:=h) (enc:=cU) ax [e]
 | bin k a b=>simpa [cU,dw] using Row.full (h:=h) (enc:=cU) ax [a,b]
theorem A1:∀ (n:Nat) (e:Ex),okE e→io e≤n→n<100000000→∀ (h:ab) (Q:QT),(∀ h',Fr [] h h'→Q (.snap (bL e).length ((bL e).flatMap sE)) h')→C iZ [.agg (cU e)] h Q
 | 0,e,_,hn,_,h,Q,k=>by cases e<;>simp[io]at hn
 | n+1,e,hok,hn,hn2,h,Q,k=>by
   refine Cz _ _ _ ?_
   unfold z6
   refine dz (St.start h) rfl fun i h1 s1=>?_
   have s1:St h [] h1 [(i,true,.cells (cU e))]:=s1
   have RC:=BD e
   have rest:∀ (v:AV) (E:Own) (h2:ab),AccE 1 v (Nh e).length ((Nh e).flatMap sE) E→St h [] h2 (E++[(i,true,.cells (cU e))])→kw v (.ptr i 0) h2 Q:=by
    intro v E h2 a s2
    unfold kw
    (repeat refine ak ?_)
    refine ai (a.rest s2) (.head _) (List.getElem?_eq_getElem (by rw[ax];decide)) ?_
    refine (RC h2).len ?_
    refine aP (fun m vs h'=>∃ (j:Nat) (v:AV) (out:List Str) (E:Own),vs=[v,I (j:Nat)]∧m+j=(dw e).length∧AccE 1 v out.length (out.flatMap sE) E∧St h [] h' (E++[(i,true,.cells (cU e))])∧
     out=((dw e).take j).foldl (fun out c=>(bL c).foldl rx out) (Nh e)∧out.length≤1+j*n) (dw e).length ⟨0,v,Nh e,E,rfl,by omega,a,s2,rfl,by cases e<;>simp[Nh]⟩ ?_
    rintro m vs h3 ⟨j,v,out,E,rfl,hm,a,s3,hout,hol⟩
    unfold tK
    (repeat refine aL ?_)
    have hcl:(dw e).length≤2:=by cases e<;>simp[dw]
    refine af (fun hb=>?_) (fun hb=>?_)<;>simp only[za,zb,zc,zd,ze,zf,zg,zh,zi,u8i,zj,zk,zl]at hb
    ·have hj:j<(dw e).length:=hb
     have hc:=vU (List.getElem_mem hj)
     refine (RC h3).idx ax hj fun p t=>?_
     refine bX t (ax _).symm ?_
     refine bf s3 fun q h4 s4=>?_
     refine bh s4 rfl (ax _) (bS _) .head fun h5 s5=>?_
     refine aY s5 (ax _) (.head _) ?_
     refine A1 n (dw e)[j] (B0 hok (List.getElem_mem hj)) (by omega) (by omega) h5 _ fun h6 f6=>?_
     have s6:=(s5.call f6).drop1
     have hnl:=jt (dw e)[j]
     (repeat refine dr ?_)
     have RN6:∀ h,Row sE 1 h (.snap (bL (dw e)[j]).length ((bL (dw e)[j]).flatMap sE)) (bL (dw e)[j]):=fun h=>Row.snap (enc:=sE) (fun _=>rfl) _
     generalize hns:bL (dw e)[j]=ns at RN6 hnl ⊢
     have hb2:j*n≤2*n:=Nat.mul_le_mul_right _ (by omega)
     refine aP (fun m2 vs h'=>∃ (q:Nat) (v:AV) (o:List Str) (E:Own),vs=[v,I (q:Nat)]∧m2+q=ns.length∧AccE 1 v o.length (o.flatMap sE) E∧St h [] h' (E++[(i,true,.cells (cU e))])∧
      o=(ns.take q).foldl rx out∧o.length≤out.length+q) ns.length ⟨0,v,out,E,rfl,by omega,a,s6,rfl,by omega⟩ ?_
     rintro m2 vs h7 ⟨q2,v2,o,E2,rfl,hm2,a2,s7,ho,hoo⟩
     unfold rG
     (repeat refine aL ?_)
     refine af (fun hb3=>?_) (fun hb3=>?_)<;>simp only[za,zb,zc,zd,ze,zf,zg,zh,zi,u8i,zj,zk,zl]at hb3
     ·have hq:q2<ns.length:=hb3
      refine (RN6 h7).idx (fun _=>rfl) hq fun p t=>?_
      refine aD t ?_
      have RO:Row sE 1 h7 v2 o:=a2.rd s7
      refine vb ns[q2] o (by omega) RO ?_
      have hnext:(ns.take (q2+1)).foldl rx out=rx o ns[q2]:=by
       rw[List.take_succ_eq_append_getElem hq,List.foldl_append,← ho];rfl
      refine dy ?_
      cases hc2:o.any fun y=>decide (ns[q2]=y) with
      | true=>
        refine af (fun h=>by cases h) (fun _=>?_)
        unfold jZ oG
        refine aJ (by omega) ?_
        refine⟨m2-1,by omega,q2+1,v2,o,E2,rfl,by omega,a2,s7,?_,by omega⟩
        rw[hnext,rx,if_pos hc2]
      | false=>
        refine af (fun _=>?_) (fun h=>by cases h)
        refine aF rfl rfl ?_
        refine a2.app s7 (xs:=[T ns[q2]]) (m:=1) (Rd.full rfl) rfl (by omega) fun v3 E3 h8 a3 s8=>?_
        unfold jZ oG
        refine aJ (by omega) ?_
        refine⟨m2-1,by omega,q2+1,v3,o++[ns[q2]],E3,rfl,by omega,by simpa using a3,s8,?_,by simp;omega⟩
        rw[hnext,rx,if_neg (by simp[hc2])]
     ·have hq:ns.length≤q2:=by omega
      rw[List.take_of_length_le hq]at ho
      refine aJ (by omega) ?_
      have hj1:(j+1)*n=j*n+n:=by rw[Nat.add_mul];omega
      refine⟨m-1,by omega,j+1,v2,o,E2,rfl,by omega,a2,s7,?_,by omega⟩
      rw[List.take_succ_eq_append_getElem hj,List.foldl_append,← hout,ho,← hns];rfl
    ·have hj:(dw e).length≤j:=by omega
     rw[List.take_of_length_le hj,← MO]at hout
     have hnl:=jt e
     have hol2:out.length=(bL e).length:=by rw[hout]
     refine y5 (by omega) (a.rd s3) fun h4 f4=>?_
     rw[hout]
     exact k h4 (s3.call f4).fr
   cases e with
   | name s=>
     (repeat (first|refine ak ?_|refine aA ?_|refine ai ‹_› (.head _) rfl ?_|refine aF rfl rfl ?_))
     refine oo s1 (Rd.full (n:=1) (cs:=[T s]) rfl) (by decide) (fun h=>by omega) fun j h2 _ s2=>?_
     exact rest _ [(j,true,.cells [T s])] h2 (.inr ⟨rfl,j,rfl,rfl⟩) s2
   | none=>
     refine ak (ai s1 (.head _) rfl (aA (af (fun h=>absurd h (by decide)) (fun _=>?_))))
     exact rest _ [] _ (.none _) s1
   | num n=>
     refine ak (ai s1 (.head _) rfl (aA (af (fun h=>absurd h (by decide)) (fun _=>?_))))
     exact rest _ [] _ (.none _) s1
   | here=>
     refine ak (ai s1 (.head _) rfl (aA (af (fun h=>absurd h (by decide)) (fun _=>?_))))
     exact rest _ [] _ (.none _) s1
   | neg e=>
     refine ak (ai s1 (.head _) rfl (aA (af (fun h=>absurd h (by decide)) (fun _=>?_))))
     exact rest _ [] _ (.none _) s1
   | bin k a b=>
     have hk2:=hok.1
     refine ak (ai s1 (.head _) rfl (aA (af (fun h=>absurd h (by simp;omega)) (fun _=>?_))))
     exact rest _ [] _ (.none _) s1
end
section
variable [Tabs]
def Ca (fv:AV) (p:UInt8→Bool):Prop:=∀ (c:UInt8) (h:ab) (Q:QT),Q (B (p c)) h→CV fv [U8 c] h Q
section
variable {h:ab}{Q:QT}
def c7 (p:UInt8→Bool) (l:Str):Nat:=(l.takeWhile p).length
theorem Dd (p:UInt8→Bool) (l:Str):c7 p l≤l.length:=(List.takeWhile_sublist _).length_le
theorem Ee {p:UInt8→Bool}{l:Str}:c7 p l=l.length↔l.all p=true:=by
 unfold c7
 constructor
 ·intro h
  have:l.takeWhile p=l:=(List.takeWhile_sublist p).eq_of_length h
  rw[List.all_eq_true]
  exact takeWhile_self.1 this
 ·intro h
  rw[List.all_eq_true]at h
  rw[takeWhile_self.2 h]
theorem pG {fv:AV}{p:UInt8→Bool}(ht:Ca fv p) (l:Str) (hl:l.length<4611686018427387904) (k:Q (I (c7 p l:Nat)) h):C d8 [T l,fv] h Q:=by
 refine CT _ _ _ _ ?_
 unfold AY
 refine aP (fun n vs h'=>h'=h∧∃ i:Nat,vs=[I (i:Nat)]∧n+i=l.length∧∀ j (hj:j<l.length),j<i→p l[j]=true) l.length ⟨rfl,0,rfl,by omega,fun j _ hj=>by omega⟩ ?_
 rintro n vs h' ⟨rfl,i,rfl,hn,ha⟩
 unfold uS
 (repeat (first|refine bz ?_|refine aL ?_))
 refine af (fun hb=>?_) (fun hb=>?_)<;>simp only[za,zb,zc,zd,ze,zf,zg,zh,zi,u8i,zj,zk,zl]at hb
 ·have hi:i<l.length:=hb
  refine ig hi ?_
  refine ht l[i] _ _ ?_
  cases hp:p l[i] with
  | true=>
    refine af (fun _=>?_) (fun h=>by cases h)
    (repeat refine aJ (by omega) ?_)
    refine⟨n-1,by omega,rfl,i+1,rfl,by omega,fun j hj hj2=>?_⟩
    rcases Nat.lt_or_eq_of_le (Nat.le_of_lt_succ hj2) with h1|h1
    ·exact ha j hj h1
    ·subst h1;exact hp
  | false=>
    refine af (fun h=>by cases h) (fun _=>?_)
    have:c7 p l=i:=by
     unfold c7
     rw[pg hi (fun j hj=>ha j (by omega) hj) hp];simp;omega
    rw[this]at k;exact k
 ·have:c7 p l=i:=by
   unfold c7
   rw[uQ fun j hj=>ha j hj (by omega)];omega
  rw[this]at k;exact k
abbrev oP (c:UInt8):Bool:=dV c.toNat
abbrev fc (c:UInt8):Bool:=jX c.toNat
theorem w9 (c:UInt8) (k:Q (B (oP c)) h):C dG [U8 c] h Q:=by
 refine CG _ _ _ ?_
 unfold zY
 have e1:decide ((48:Int)≤c.toNat)=decide (48≤c.toNat):=rc (a:=48)
 have e2:decide ((c.toNat:Int)≤57)=decide (c.toNat≤57):=rc (b:=57)
 unfold oP dV at k
 refine cO ?_
 rw[e1]
 cases h1:decide (48≤c.toNat) with
 | true=>
   refine af (fun _=>?_) (fun h=>by cases h)
   refine tC ?_
   rw[h1,Bool.true_and]at k
   rw[e2];exact k
 | false=>
   refine af (fun h=>by cases h) (fun _=>?_)
   rw[h1,Bool.false_and]at k;exact k
theorem Ol (c:UInt8) (k:Q (B (fc c)) h):C iQ [U8 c] h Q:=by
 refine Cp _ _ _ ?_
 unfold BS
 have e1:decide ((97:Int)≤c.toNat)=decide (97≤c.toNat):=rc (a:=97)
 have e2:decide ((c.toNat:Int)≤122)=decide (c.toNat≤122):=rc (b:=122)
 have e3:decide ((c.toNat:Int)=95)=decide (c.toNat=95):=Tw (b:=95)
 unfold fc jX xq at k
 have tail:∀ (h':h=h),(Q (B (decide (c.toNat=95)||dV c.toNat)) h)→ag .eql (U8 c) (.lit (.int .u8 95)) fun t11=>ifB t11 (Q (B true) h) (C dG [U8 c] h fun t15 h0=>Q t15 h0):=by
  intro _ k
  refine aA ?_
  rw[e3]
  cases h3:decide (c.toNat=95) with
  | true=>
    refine af (fun _=>?_) (fun h=>by cases h)
    rw[h3,Bool.true_or]at k;exact k
  | false=>
    refine af (fun h=>by cases h) (fun _=>?_)
    rw[h3,Bool.false_or]at k
    exact w9 c k
 refine cO ?_
 rw[e1]
 cases h1:decide (97≤c.toNat) with
 | true=>
   refine af (fun _=>?_) (fun h=>by cases h)
   rw[h1,Bool.true_and]at k
   refine tC ?_
   rw[e2]
   cases h2:decide (c.toNat≤122) with
   | true=>
     refine af (fun _=>?_) (fun h=>by cases h)
     rw[h2,Bool.true_or,Bool.true_or]at k;exact k
   | false=>
     refine af (fun h=>by cases h) (fun _=>?_)
     rw[h2,Bool.false_or]at k
     exact tail rfl k
 | false=>
   refine af (fun h=>by cases h) (fun _=>?_)
   rw[h1,Bool.false_and,Bool.false_or]at k
   exact tail rfl k
theorem P5:Ca (.fn (.func iQ) [] []) fc:=fun c h Q k=>Ol c k
theorem OI:Ca (.fn (.func dG) [] []) oP:=fun c h Q k=>w9 c k
theorem u6 {p:UInt8→Bool}{l:Str}:decide (((c7 p l:Nat):Int)≠((l.length:Nat):Int))=!(l.all p):=by
 rw[Bool.eq_iff_iff,decide_eq_true_eq,Bool.not_eq_true',← Bool.not_eq_true,← Ee];omega
theorem Ly (s:Str) (hs:s.length<4611686018427387904) (k:Q (B (sF s)) h):C mI [T s] h Q:=by
 refine EO _ _ _ ?_
 unfold DB
 cases s with
 | nil=>(repeat refine be ?_);exact k
 | cons c t=>
 dsimp only[sF]at k
 (repeat (first|refine bz ?_|refine cH ?_|refine be ?_))
 refine af (fun hl=>?_) (fun hl=>?_)<;>simp only[za,zb,zc,zd,ze,zf,zg,zh,zi,u8i,zj,zk,zl]at hl
 ·have e:decide ((c::t).length≤12)=false:=by simp at hl ⊢;omega
  rw[e,Bool.false_and]at k
  exact k
 have e:decide ((c::t).length≤12)=true:=by simp at hl ⊢;omega
 rw[e,Bool.true_and]at k
 refine fA (by omega) (by simp) ?_
 refine w9 c ?_
 cases h2:oP c with
 | true=>
   refine af (fun _=>?_) (fun h=>by cases h)
   rw[show dV c.toNat=true from h2]at k
   exact k
 | false=>
 refine af (fun h=>by cases h) (fun _=>?_)
 rw[show dV c.toNat=false from h2]at k
 simp only[Bool.not_false,Bool.true_and]at k
 refine pG P5 _ hs ?_
 refine bz ?_
 refine cr ?_
 rw[u6]
 cases h3:(c::t).all fc with
 | false=>
   refine af (fun _=>?_) (fun h=>by cases h)
   rw[show ((c::t).all fun c=>jX c.toNat)=false from h3,Bool.false_and]at k
   exact k
 | true=>
 refine af (fun h=>by cases h) (fun _=>?_)
 rw[show ((c::t).all fun c=>jX c.toNat)=true from h3,Bool.true_and]at k
 refine fA (by omega) (by simp) ?_
 refine cr ?_
 have e4:decide ((((c::t)[Int.toNat 0].toNat:Nat):Int)≠114)=decide (c≠114):=by
  rw[Bool.eq_iff_iff];simp[← UInt8.toNat_inj];omega
 rw[e4]
 cases h4:decide (c≠114) with
 | true=>
   refine af (fun _=>?_) (fun h=>by cases h)
   rw[h4,Bool.true_or]at k
   exact k
 | false=>
 refine af (fun h=>by cases h) (fun _=>?_)
 rw[h4,Bool.false_or]at k
 (repeat (first|refine bz ?_|refine aA ?_))
 cases t with
 | nil=>refine af (fun _=>?_) (fun hb=>(by exfalso;first|(simp at hb;done)|(simp at hb;omega)|(revert hb;decide)|omega));exact k
 | cons d t=>
 refine af (fun h=>by simp at h;omega) (fun _=>?_)
 refine ft (by omega) (by simp;omega) ?_
 rw[show ((c::d::t).drop (Int.toNat 1))=d::t from rfl]
 refine pG OI (d::t) (by simp at hs ⊢;omega) ?_
 refine bz ?_
 refine dh (by simp at hs ⊢;omega) ?_
 refine cr ?_
 rw[show (((c::d::t).length:Nat):Int)-1=(((d::t).length:Nat):Int) by simp,u6]
 exact k
def gS:Prop:=∀ (s:Str),1≤s.length→s.length≤2→s.all oP=true→∀ (h:ab) (Q:QT),Q (.tup [I (s.foldl (fun n c=>n*10+(c.toNat-48)) 0:Nat),.lit .nilIface]) h→C dT [T s] h Q
def Se (s:Str):Nat:=s.foldl (fun n c=>n*10+(c.toNat-48)) 0
def zu (s:Str):Nat×Bool:=match s with
 | c::t=>if decide (c=114)&&(decide (t.length=1∨t.length=2)&&(t.all oP&&!(decide (t.length=2)&&decide (t.head?=some 48)))) then (Se t,decide (Se t<32)) else (0,false)
 | []=>(0,false)
theorem Hp (hA:gS) (s:Str) (hs:s.length<4611686018427387904) (k:Q (.tup [I ((zu s).1:Nat),B (zu s).2]) h):C k9 [T s] h Q:=by
 refine ya _ _ _ ?_
 unfold uP
 (repeat (first|refine bz ?_|refine aL ?_))
 cases s with
 | nil=>refine af (fun _=>?_) (fun hb=>(by exfalso;first|(simp at hb;done)|(simp at hb;omega)|(revert hb;decide)|omega));exact k
 | cons c t=>
 dsimp only[zu]at k
 refine af (fun h1=>?_) (fun h1=>?_)<;>simp only[za,zb,zc,zd,ze,zf,zg,zh,zi,u8i,zj,zk,zl]at h1
 ·have:t.length=0:=by simp at h1;omega
  rw[if_neg (by simp;omega)]at k
  exact k
 (repeat (first|refine bz ?_|refine cH ?_))
 refine af (fun h2=>?_) (fun h2=>?_)<;>simp only[za,zb,zc,zd,ze,zf,zg,zh,zi,u8i,zj,zk,zl]at h2
 ·rw[if_neg (by simp at h2 ⊢;omega)]at k
  exact k
 have ht:t.length=1∨t.length=2:=by simp at h1 h2;omega
 refine fA (by omega) (by simp) ?_
 (repeat refine cr ?_)
 have e4:decide ((((c::t)[Int.toNat 0].toNat:Nat):Int)≠114)=decide (c≠114):=by
  rw[Bool.eq_iff_iff];simp[← UInt8.toNat_inj];omega
 rw[e4]
 refine af (fun h3=>?_) (fun h3=>?_)<;>simp only[za,zb,zc,zd,ze,zf,zg,zh,zi,u8i,zj,zk,zl]at h3
 ·rw[if_neg (by simp[h3])]at k
  exact k
 have h3:c=114:=by simpa using h3
 refine ft (by omega) (by simp;omega) ?_
 rw[show ((c::t).drop (Int.toNat 1))=t from rfl]
 refine pG OI t (by omega) ?_
 (repeat (first|refine bz ?_|refine cr ?_|refine dh (by omega) ?_))
 rw[show (((c::t).length:Nat):Int)-1=((t.length:Nat):Int) by simp,u6]
 cases h5:t.all oP with
 | false=>
   refine af (fun _=>?_) (fun h=>by cases h)
   rw[if_neg (by simp[h5])]at k
   exact k
 | true=>
 refine af (fun h=>by cases h) (fun _=>?_)
 (repeat (first|refine bz ?_|refine aA ?_))
 have fin:(!(decide (t.length=2)&&decide (t.head?=some 48)))=true→bk (T (c::t)) (some (I 1)) none fun t40=>C dT [t40] h fun t41 h1=>aj 0 t41 fun t42=>aj 1 t41 fun t43=>ag .lss t42 (I 32) fun t46=>Q (.tup [t42,t46]) h1:=by
  intro hz
  refine ft (by omega) (by simp;omega) ?_
  rw[show ((c::t).drop (Int.toNat 1))=t from rfl]
  refine hA t (by omega) (by omega) h5 _ _ ?_
  (repeat (first|refine aw rfl ?_|refine aL ?_))
  rw[if_pos (by simp only[h3,h5,hz,decide_true,Bool.true_and,Bool.and_true,decide_eq_true_eq];exact ht)]at k
  have e5:decide (((t.foldl (fun n c=>n*10+(c.toNat-48)) 0:Nat):Int)<32)=decide (Se t<32):=by
   unfold Se;rw[Bool.eq_iff_iff,decide_eq_true_eq,decide_eq_true_eq];omega
  rw[e5]
  exact k
 cases h6:decide (t.length=2) with
 | true=>
   simp only[decide_eq_true_eq]at h6
   obtain⟨a,b,rfl⟩:∃ a b,t=[a,b]:=by
    match t,h6 with
    | [a,b],_=>exact⟨a,b,rfl⟩
   have e6:decide ((([c,a,b].length:Nat):Int)=3)=true:=by simp
   rw[e6]
   refine oI (af (fun _=>?_) (fun h=>by cases h)) ⟨_,rfl⟩
   refine fA (by omega) (by simp) ?_
   refine aA ?_
   have e7:decide ((([c,a,b][Int.toNat 1].toNat:Nat):Int)=48)=decide (a=48):=by
    rw[Bool.eq_iff_iff];simp[← UInt8.toNat_inj];omega
   rw[e7]
   refine af (fun h8=>?_) (fun h8=>?_)<;>simp only[za,zb,zc,zd,ze,zf,zg,zh,zi,u8i,zj,zk,zl]at h8
   ·rw[if_neg (by simp[h8])]at k;exact k
   ·exact fin (by simp[h8])
 | false=>
   simp only[decide_eq_false_iff_not]at h6
   have e6:decide ((((c::t).length:Nat):Int)=3)=false:=by simp;omega
   rw[e6]
   refine oI (af (fun h=>by cases h) (fun _=>?_)) ⟨_,rfl⟩
   exact fin (by simp[h6])
def cE (s:Str):List Str:=if s=[] then [] else (bD 44 s).map pz
theorem kM (c:UInt8):∀ (l x:Str),x∈bD c l→x.length≤l.length
 | [],x,h=>by simp[bD]at h;subst h;simp
 | a::l,x,h=>by
   unfold bD at h
   split at h
   ·rcases List.mem_cons.1 h with rfl|h
    ·simp
    ·have:=kM c l x h;simp;omega
   ·cases hs:bD c l with
    | nil=>rw[hs]at h;simp at h;subst h;simp
    | cons p ps=>
      rw[hs]at h
      rcases List.mem_cons.1 h with rfl|h
      ·have:=kM c l p (by rw[hs];simp);simp;omega
      ·have:=kM c l x (by rw[hs];simp[h]);simp;omega
theorem FZ (hI:fl) (s:Str) (hs:s.length<4000000000) (k:∀ h',Fr [] h h'→Q (.snap (cE s).length ((cE s).flatMap sE)) h'):C kP [T s] h Q:=by
 refine ACall.conv ?_
 refine yc _ _ _ ?_
 unfold uT
 unfold cE at k
 (repeat refine be ?_)
 refine af (fun hb=>?_) (fun hb=>?_)<;>simp only[za,zb,zc,zd,ze,zf,zg,zh,zi,u8i,zj,zk,zl]at hb
 ·rw[if_pos hb]at k
  exact dQ (k _ (Fr.refl _ _))
 rw[if_neg hb]at k
 refine Di hI 44 s hs fun i h1 s1=>?_
 have hsum:=kM 44 s
 have hlen:=ji 44 s
 have hcnt:=List.count_le_length (a:=44) (l:=s)
 generalize bD 44 s=ps at s1 k hsum hlen ⊢
 (repeat refine OZ ?_)
 refine aP (fun n vs h'=>∃ j:Nat,vs=[I (j:Nat)]∧n+j=ps.length∧St h [] h' [(i,true,.cells (((ps.take j).map pz++ps.drop j).flatMap fun x=>[T x]))]) ps.length ⟨0,rfl,by omega,by simpa using s1⟩ ?_
 rintro n vs h2 ⟨j,rfl,hn,s2⟩
 unfold pX
 (repeat refine aL ?_)
 have hll:((ps.take j).map pz++ps.drop j).length=ps.length:=by simp;omega
 refine af (fun hb2=>?_) (fun hb2=>?_)<;>simp only[za,zb,zc,zd,ze,zf,zg,zh,zi,u8i,zj,zk,zl]at hb2
 ·have hj:j<ps.length:=hb2
  refine zQ hj ?_
  rw[Nat.mul_one]
  have hx:((ps.take j).map pz++ps.drop j)[j]?=some ps[j]:=by
   rw[List.getElem?_append_right (by simp;omega),List.getElem?_drop]
   have:j+(j-((ps.take j).map pz).length)=j:=by simp;omega
   rw[this];simp[hj]
  refine ai (a:=T ps[j]) s2 (.head _) (by rw[QV,List.getElem?_map,hx];rfl) ?_
  refine zN _ (by have:=hsum _ (List.getElem_mem hj);omega) fun h3 f3=>?_
  have s3:=s2.call f3
  refine zQ hj ?_
  rw[Nat.mul_one]
  refine aB s3 .head rfl rfl rfl (by rw[gf _ 1 (fun _=>rfl),hll];omega) fun h4 s4=>?_
  rw[show (T (pz ps[j])).cells=[T (pz ps[j])] from rfl,vo (by omega)]at s4
  (repeat refine aJ (by omega) ?_)
  refine⟨n-1,by omega,j+1,rfl,by omega,?_⟩
  have e:((ps.take j).map pz++ps.drop j).set j (pz ps[j])=(ps.take (j+1)).map pz++ps.drop (j+1):=by
   rw[List.set_append_right _ _ (by simp;omega),show j-((ps.take j).map pz).length=0 by simp;omega,List.drop_eq_getElem_cons hj,List.set_cons_zero,List.take_succ_eq_append_getElem hj,List.map_append,List.append_assoc];rfl
  rw[e]at s4;exact s4
 ·rw[List.take_of_length_le (by omega),List.drop_of_length_le (by omega),List.append_nil]at s2
  have:=mQ (n:=ps.length) (sz:=1) (Q:=Q) (s2.get (i:=i) (.head _)) (by rw[gf _ 1 (fun _=>rfl)];simp) (by
   have:=k _ (s2.kill .head).fr
   simpa using this)
  exact this
