import Derived.Test.YtbhphjpgjgigpaaGreatDoorAI4toAN1
import Derived.MapKept
set_option linter.all false
set_option autoImplicit true
set_option relaxedAutoImplicit true
set_option maxRecDepth 100000
namespace Go.Proofs.YtbhphjpgjgigpaaGreatDoor.AL
noncomputable section
section
variable [Tabs]
structure Ar where
 reg:Int
 e:Ex
 deriving DecidableEq
def arE (a:Ar):List AV:=I a.reg::cY a.e
theorem lB (a:Ar):(arE a).length=5:=by simp[arE,ay]
theorem E6 (a:Ar):(arE a).all AV.one=true:=by simp only[arE,List.all_cons,bW];rfl
structure RS where
 lab:Str
 kind:Nat
 op:Nat
 text:Str
 args:List Ar
abbrev rdO (rs:RS) (v:AV):AObj:=.cells [I 1,T rs.lab,I (rs.kind:Nat),I (rs.op:Nat),T rs.text,v]
def RSt (h0 h:ab) (i:Nat) (rs:RS):Prop:=∃ v E,AccE 5 v rs.args.length (rs.args.flatMap arE) E∧St h0 [] h (E++[(i,true,rdO rs v)])
theorem RSt.call {h0 h h':ab}{i:Nat}{rs:RS}(r:RSt h0 h i rs) (f:Fr [] h h'):RSt h0 h' i rs:=by
 obtain⟨v,E,a,s⟩:=r
 exact⟨v,E,a,s.call f⟩
theorem AccE.mem {sz n i:Nat}{v:AV}{cs:List AV}{E:Own}{x:Nat×Bool×AObj}:x∈E++[x]:=by simp
section
variable {h0 h:ab}{Q:QT}{i:Nat}
theorem RSt.put {rs rs':RS}(r:RSt h0 h i rs) {o:Nat}{u:AV}{K:ab→Prop}(hu:u.isTup=false) (hc:u.cells.length=1) (h1:u.cells.all AV.one=true) (ho:o+1≤6) (ha:rs'.args=rs.args)
  (he:∀ v,splice [I 1,T rs.lab,I (rs.kind:Nat),I (rs.op:Nat),T rs.text,v] o u.cells=[I 1,T rs'.lab,I (rs'.kind:Nat),I (rs'.op:Nat),T rs'.text,v]) (k:∀ h',RSt h0 h' i rs'→K h'):aw 1 (.ptr i o) u h K:=by
 obtain⟨v,E,a,s⟩:=r
 rcases a with ⟨a1,a2,rfl,rfl⟩|⟨a1,j,rfl,rfl⟩
 ·refine aF s (L':=[(i,true,rdO rs' (.full 0 []))]) (cs:=[I 1,T rs.lab,I (rs.kind:Nat),I (rs.op:Nat),T rs.text,.full 0 []]) (by rw[he];exact .head) hu hc h1 ho fun h' s'=>?_
  exact k h' ⟨_,[],.inl ⟨by rw[ha];exact a1,by rw[ha];exact a2,rfl,rfl⟩,s'⟩
 ·refine aF s (L':=[(j,true,.cells (rs.args.flatMap arE)),(i,true,rdO rs' (.sl j 0 rs.args.length 5))]) (cs:=[I 1,T rs.lab,I (rs.kind:Nat),I (rs.op:Nat),T rs.text,.sl j 0 rs.args.length 5]) (by rw[he];exact .tail .head) hu hc h1 ho fun h' s'=>?_
  exact k h' ⟨_,_,.inr ⟨by rw[ha];exact a1,j,by rw[ha],rfl⟩,by rw[ha];exact s'⟩
theorem RSt.load {rs:RS}(r:RSt h0 h i rs) {o:Nat}{a:AV}{K:AV→Prop}(ho:∀ v,[I 1,T rs.lab,I (rs.kind:Nat),I (rs.op:Nat),T rs.text,v][o]?=some a) (k:K a):ai (.ptr i o) h K:=by
 obtain⟨v,E,a,s⟩:=r
 exact aj s (List.mem_append_right _ (.head _)) (ho v) k
inductive Way where
 | value
 | reg
 | word
abbrev Uv:Way→FuncId
 | .value=>bB
 | .reg=>dY
 | .word=>fx
def AA (i:Nat) (w:Way):List AV:=[.fn (.func (Uv w)) [.ptr i 0] []]
def om:Way→Str→RS→RS×Bool
 | .value,s,rs=>match sK s with
   | some x=>({ rs with args:=rs.args++[⟨-1,x⟩] },true)
   | none=>({ rs with args:=rs.args++[⟨-1,.none⟩] },false)
 | .reg,s,rs=>({ rs with args:=rs.args++[⟨(zx s).1,.none⟩] },(zx s).2)
 | .word,s,rs=>({ rs with text:=s },sJ s)
theorem DI (w:Way) (s:Str) (rs:RS):(om w s rs).1.args.length≤rs.args.length+1:=by
 cases w<;>simp only[om]
 ·cases sK s<;>simp
 ·simp
 ·simp
theorem Us (hA:iG) (w:Way) (s:Str) (hs:s.length<4000000000) {rs:RS}(hn:rs.args.length<1000) (r:RSt h0 h i rs) (k:∀ h',RSt h0 h' i (om w s rs).1→Q (B (om w s rs).2) h'):C (Uv w) [.ptr i 0,T s] h Q:=by
 cases w with
 | value=>
   show C bB _ _ _
   refine tm _ _ _ _ ?_
   unfold od
   have fin:∀ (x:Ex) (b:Bool) (h1:ab),Fr [] h h1→om .value s rs=({ rs with args:=rs.args++[⟨-1,x⟩] },b)→gR [(I 0),(I 0),(S ⟨#[]⟩),(.full 0 [])] h1 fun t5 h1=>aw 4 t5 (.agg (cY x)) h1 fun h2=>aJ (.ptr i 0) fun t14=>ae 0 t14 fun t15=>ae 5 t15 fun t16=>ai t16 h2 fun t17=>aD 4 t5 h2 fun t18=>au [(I 0),(I 0),(I 0),(S ⟨#[]⟩),(.full 0 [])] [(0,1,(I (-1))),(1,4,t18)] fun t19=>ap 1 5 [t19] fun t20=>bL 5 64 t17 t20 h2 fun t21 h3=>aJ (.ptr i 0) fun t22=>ae 0 t22 fun t23=>ae 5 t23 fun t24=>aw 1 t24 t21 h3 fun h4=>Q (B b) h4:=by
    intro x b h1 f1 hst
    obtain⟨v,E,a,s1⟩:=r.call f1
    refine bk s1 fun q h2 s2=>?_
    refine bl s2 rfl (ay _) (bW _) .head fun h3 s3=>?_
    have s4:=s3.drop1
    refine aq (an (an (aj s4 (cs:=[I 1,T rs.lab,I (rs.kind:Nat),I (rs.op:Nat),T rs.text,v]) (b:=true) (List.mem_append_right _ (.head _)) rfl ?_)))
    refine bd s3 (ay _) (.head _) ?_
    refine aO (cs:=arE ⟨-1,x⟩) ?_ ?_
    ·obtain⟨c1,c2,c3,c4,e4⟩:=U5 (ay x)
     simp only[arE,e4]
     rfl
    refine aG rfl (by simp[AV.isTup,AV.cells,lB]) ?_
    rw[show ([AV.agg (arE ⟨-1,x⟩)].flatMap fun x=>x.cells)=arE ⟨-1,x⟩ by simp[AV.cells]]
    refine a.app s4 (xs:=arE ⟨-1,x⟩) (m:=1) (Rd.full (by rw[lB])) (E6 _) (by omega) fun v' E' h5 a5 s5=>?_
    refine aq (an (an ?_))
    rw[hst]at k
    rcases a5 with ⟨a1,a2,rfl,rfl⟩|⟨a1,j,rfl,rfl⟩
    ·simp at a1
    ·refine aF s5 (L':=[(j,true,.cells (rs.args.flatMap arE++arE ⟨-1,x⟩)),(i,true,rdO { rs with args:=rs.args++[⟨-1,x⟩] } (.sl j 0 (rs.args.length+1) 5))]) (cs:=[I 1,T rs.lab,I (rs.kind:Nat),I (rs.op:Nat),T rs.text,v]) (.tail .head) rfl rfl rfl (nle rfl) fun h6 s6=>?_
     exact k h6 ⟨.sl j 0 (rs.args.length+1) 5,[(j,true,.cells (rs.args.flatMap arE++arE ⟨-1,x⟩))],.inr ⟨by simpa using a1,j,by simp,by simp⟩,s6⟩
   refine Qw s (fun x hx h1 f1=>?_) (fun hx h1 f1=>?_)
   ·(repeat refine ax rfl ?_)
    exact fin x true h1 f1 (by simp[om,hx])
   ·(repeat refine ax rfl ?_)
    exact fin .none false h1 f1 (by simp[om,hx])
 | reg=>
   show C dY _ _ _
   refine qg _ _ _ _ ?_
   unfold md
   refine IQ hA s (by omega) ?_
   (repeat (first|refine aq ?_|refine an ?_|refine ax rfl ?_))
   obtain⟨v,E,a,s1⟩:=r
   refine aj s1 (cs:=[I 1,T rs.lab,I (rs.kind:Nat),I (rs.op:Nat),T rs.text,v]) (b:=true) (List.mem_append_right _ (.head _)) rfl ?_
   refine aO (cs:=arE ⟨(zx s).1,.none⟩) rfl ?_
   refine aG rfl (by simp[AV.isTup,AV.cells,lB]) ?_
   rw[show ([AV.agg (arE ⟨(zx s).1,.none⟩)].flatMap fun x=>x.cells)=arE ⟨(zx s).1,.none⟩ by simp[AV.cells]]
   refine a.app s1 (xs:=arE ⟨(zx s).1,.none⟩) (m:=1) (Rd.full (by rw[lB])) (E6 _) (by omega) fun v' E' h5 a5 s5=>?_
   refine aq (an (an ?_))
   rcases a5 with ⟨a1,a2,rfl,rfl⟩|⟨a1,j,rfl,rfl⟩
   ·simp at a1
   ·refine aF s5 (L':=[(j,true,.cells (rs.args.flatMap arE++arE ⟨(zx s).1,.none⟩)),(i,true,rdO { rs with args:=rs.args++[⟨(zx s).1,.none⟩] } (.sl j 0 (rs.args.length+1) 5))]) (cs:=[I 1,T rs.lab,I (rs.kind:Nat),I (rs.op:Nat),T rs.text,v]) (.tail .head) rfl rfl rfl (nle rfl) fun h6 s6=>?_
    exact k h6 ⟨.sl j 0 (rs.args.length+1) 5,[(j,true,.cells (rs.args.flatMap arE++arE ⟨(zx s).1,.none⟩))],.inr ⟨by simpa [om] using a1,j,by simp[om],by simp[om]⟩,s6⟩
 | word=>
   show C fx _ _ _
   refine uv _ _ _ _ ?_
   unfold qa
   (repeat (first|refine aq ?_|refine an ?_))
   refine r.put (rs':={ rs with text:=s }) rfl rfl rfl (by omega) rfl (fun v=>rfl) fun h1 r1=>?_
   refine Mw s (by omega) ?_
   exact k h1 r1
def goW:List Way→List Str→RS→RS×Bool
 | w::ws,s::ss,rs=>if (om w s rs).2=true then goW ws ss (om w s rs).1 else ((om w s rs).1,false)
 | _,_,rs=>(rs,true)
def sS (l:List Str) (ws:List Way) (rs:RS):RS×Bool:=if l.length=ws.length then goW ws l rs else (rs,false)
theorem Ka (hA:iG) (l:List Str) (hl:l.length<4000000000) (hs:∀ s∈l,s.length<4000000000) (ws:List Way) (hw:ws.length<900) {rs:RS}(hn:rs.args.length=0) (r:RSt h0 h i rs) {v1 v2:AV}
  (R1:∀ h',Row sE 1 h' v1 l) (R2:∀ h',Row (AA i) 1 h' v2 ws) (k:∀ h',RSt h0 h' i (sS l ws rs).1→Q (B (sS l ws rs).2) h'):C eU [v1,v2] h Q:=by
 refine Hz _ _ _ _ ?_
 unfold Ir
 refine (R1 h).len ?_
 refine (R2 h).len ?_
 refine aB ?_
 have e1:decide (((l.length:Nat):Int)=((ws.length:Nat):Int))=decide (l.length=ws.length):=TM
 rw[e1]
 unfold sS at k
 by_cases hlen:l.length=ws.length
 ·rw[if_pos hlen]at k
  rw[decide_eq_true hlen]
  refine aR (fun n vs h'=>∃ (j:Nat) (b:Bool) (rs':RS),vs=[B b,I (j:Nat)]∧n+j=ws.length∧RSt h0 h' i rs'∧rs'.args.length≤j∧
   goW ws l rs=(if b=true then goW (ws.drop j) (l.drop j) rs' else (rs',false))) ws.length ⟨0,true,rs,rfl,by omega,r,by omega,rfl⟩ ?_
  rintro n vs h' ⟨j,b,rs',rfl,hn2,r2,ha,hg⟩
  unfold su
  refine (R2 h').len ?_
  (repeat refine aP ?_)
  refine ag (fun hb=>?_) (fun hb=>?_)<;>simp only[za,zb,zc,zd,ze,zf,zg,zh,zi,u8i,zj,zk,zl]at hb
  ·have hj:j<ws.length:=hb
   cases b with
   | true=>
     refine ag (fun _=>?_) (fun h=>by cases h)
     refine (R2 h').idx (fun _=>rfl) hj fun p t=>?_
     refine aE t ?_
     refine (R1 h').idx (fun _=>rfl) (show j<l.length by omega) fun p t=>?_
     refine aE t ?_
     show ACall Pg (Uv ws[j]) [.ptr i 0,T l[j]] h' _
     rw[if_pos rfl,List.drop_eq_getElem_cons hj,List.drop_eq_getElem_cons (show j<l.length by omega),goW]at hg
     have hsl:=DI ws[j] l[j] rs'
     refine Us hA ws[j] l[j] (hs _ (by simp)) (by omega) r2 fun h3 r3=>?_
     (repeat refine aH (by omega) ?_)
     refine⟨n-1,by omega,j+1,_,_,rfl,by omega,r3,by omega,hg⟩
   | false=>
     refine ag (fun h=>by cases h) (fun _=>?_)
     rw[if_neg (by simp)]at hg
     rw[hg]at k
     exact k h' r2
  ·have hj:ws.length≤j:=by omega
   cases b with
   | true=>
     rw[if_pos rfl,List.drop_of_length_le hj,List.drop_of_length_le (by omega)]at hg
     rw[hg]at k
     exact k h' r2
   | false=>
     rw[if_neg (by simp)]at hg
     rw[hg]at k
     exact k h' r2
 ·rw[if_neg hlen]at k
  rw[decide_eq_false hlen]
  refine aR (fun n vs h'=>vs=[B false,I 0]∧h'=h) 0 ⟨rfl,rfl⟩ ?_
  rintro n vs h' ⟨rfl,rfl⟩
  unfold su
  refine (R2 h').len ?_
  (repeat refine aP ?_)
  refine ag (fun hb=>?_) (fun hb=>?_)<;>simp only[za,zb,zc,zd,ze,zf,zg,zh,zi,u8i,zj,zk,zl]at hb
  ·refine ag (fun h=>by cases h) (fun _=>?_)
   exact k h' r
  ·exact k h' r
end
end
section
variable [Tabs]
section
variable {h0 h:ab}{M:List Nat}{L L':Own}{Q:QT}{i:Nat}
theorem St.join {h':ab}(s:St h0 M h L) (s':St h [] h' L') (ht:∀ e∈L',e.2.1=true):St h0 M h' (L'++L) where
 fr:=s.fr.trans s'.fr (by simp)
 at_ e he:=by
  rcases List.mem_append.1 he with he|he
  ·exact s'.at_ e he
  ·exact s'.fr.get (s.at_ e he) (by simp)
 own e he hb hl:=by
  rcases List.mem_append.1 he with he|he
  ·have:=s'.own e he hb (Nat.lt_of_lt_of_le hl s.fr.len);simp at this
  ·exact s.own e he hb hl
 nd:=by
  rw[List.map_append,List.nodup_append]
  refine⟨s'.nd,s.nd,fun a ha b hb hab=>?_⟩
  subst hab
  rw[List.mem_map]at ha hb
  obtain⟨x,hx,rfl⟩:=ha
  obtain⟨y,hy,hxy⟩:=hb
  have h1:=hQ (s.at_ y hy)
  have h2:=s'.own x hx (ht x hx) (by omega)
  simp at h2
theorem AccE.own {sz n:Nat}{v:AV}{cs:List AV}{E:Own}(a:AccE sz v n cs E):∀ e∈E,e.2.1=true:=by
 rcases a with ⟨_,_,_,rfl⟩|⟨_,j,_,rfl⟩<;>simp
theorem Th (fv:AV) (h1:fv.one=true) (hc:fv.cells=[fv]) (ht:fv.isTup=false) (n:Nat) (hn:n<1000) (k:∀ v E h',AccE 1 v n (List.replicate n fv) E→St h [] h' E→Q v h'):C ia [fv,I (n:Nat)] h Q:=by
 refine FH _ _ _ _ ?_
 unfold Er
 refine aR (fun m vs h'=>∃ (j:Nat) (v:AV) (E:Own),vs=[v,I (j:Nat)]∧m+j=n∧AccE 1 v j (List.replicate j fv) E∧St h [] h' (E++[])) n ⟨0,.full 0 [],[],rfl,by omega,.none 1,St.start h⟩ ?_
 rintro m vs h' ⟨j,v,E,rfl,hm,a,s⟩
 unfold vZ
 (repeat refine aP ?_)
 refine ag (fun hb=>?_) (fun hb=>?_)<;>simp only[za,zb,zc,zd,ze,zf,zg,zh,zi,u8i,zj,zk,zl]at hb
 ·have hj:j<n:=hb
  refine aG rfl (by simp[ht,hc]) ?_
  rw[show ([fv].flatMap fun x=>x.cells)=[fv] by simp[hc]]
  refine a.app s (xs:=[fv]) (m:=1) (Rd.full rfl) (by simp[h1]) (by omega) fun v' E' h3 a3 s3=>?_
  (repeat refine aH (by omega) ?_)
  refine⟨m-1,by omega,j+1,v',E',rfl,by omega,?_,s3⟩
  rw[List.replicate_succ'];exact a3
 ·have hj:j=n:=by omega
  subst hj
  exact k v E h' a (by simpa using s)
theorem Iz (k:Nat) (cs:List AV):∀ l:List Str,fzL k cs (l.flatMap sE)=l.flatMap sE
 | []=>rfl
 | x::l=>by
   rw[List.flatMap_cons]
   show fz k cs (T x)::fzL k cs (l.flatMap sE)=_
   rw[Iz k cs l];rfl
theorem DJ (hA:iG) (l:List Str) (hl:l.length<4000000000) (hs:∀ s∈l,s.length<4000000000) (ws:List Way) (hw:ws.length<900) {rs:RS}(hn:rs.args.length=0) {v:AV}{E:Own}(a:AccE 1 v ws.length (ws.flatMap (AA i)) E)
  {v0:AV} {E0:Own} (a0:AccE 5 v0 rs.args.length (rs.args.flatMap arE) E0) (s:St h0 [] h (E++(E0++[(i,true,rdO rs v0)]))) (k:∀ h',RSt h0 h' i (sS l ws rs).1→Q (B (sS l ws rs).2) h'):C eU [.snap l.length (l.flatMap sE),v] h Q:=by
 rcases a with ⟨a1,a2,rfl,rfl⟩|⟨a1,j,rfl,rfl⟩
 ·have:ws=[]:=List.length_eq_zero_iff.1 a1
  subst this
  exact Ka hA l hl hs [] hw hn ⟨v0,E0,a0,s⟩ (fun h'=>Row.snap (enc:=sE) (fun _=>rfl) l) (fun h'=>.nil) k
 ·refine ACall.frzArg (s.get (.head _)) ?_
  simp only[fzL,fz]
  rw[if_pos ⟨trivial,by omega⟩,Iz,List.drop_zero,List.take_of_length_le (by omega)]
  exact Ka hA l hl hs ws hw hn ⟨v0,E0,a0,s.kill .head⟩ (fun h'=>Row.snap (enc:=sE) (fun _=>rfl) l) (fun h'=>Row.snap (enc:=AA i) (fun _=>rfl) ws) k
theorem zF (hI:gf) (s sub:Str) (hs:s.length<4294967281) (k:Q (B (decide (0≤Lib.index s sub))) h):C iz [T s,T sub] h Q:=by
 refine ux _ _ _ _ ?_
 unfold pM
 refine hI s sub _ _ hs ?_
 (repeat refine cy ?_)
 exact k
def ry (k:Str):Way:=if decide (0≤Lib.index [32,88,32,89,32,68,32,65,32,66,32] ([32]++k++[32]))=true then .reg else .value
theorem NA:∀ r∈tbl,∀ k∈cS r.kinds,k.length<10:=by decide
theorem Bb (hF:ct) (hI:gf) (hA:iG) {rs:RS}(ho:rs.op<tbl.length) (hn:rs.args.length=0) (r:RSt h0 h i rs) (l:List Str) (hl:l.length<4000000000) (hs:∀ s∈l,s.length<4000000000)
  (k:∀ h',RSt h0 h' i (sS l ((cS (aZ rs.op)).map ry) rs).1→Q (B (sS l ((cS (aZ rs.op)).map ry) rs).2) h'):C ez [.ptr i 0,.snap l.length (l.flatMap sE)] h Q:=by
 refine nF _ _ _ _ ?_
 unfold jF
 (repeat (first|refine aq ?_|refine an ?_))
 refine r.load (a:=I (rs.op:Nat)) (fun v=>rfl) ?_
 refine II ho fun h1 f1=>?_
 rw[g9 ho]
 have hmem:tbl[rs.op]∈tbl:=by simp
 refine yj hF hmem ?_
 have hk1:=xi _ hmem
 have hk2:=NA _ hmem
 rw[← g9 ho]at hk1 hk2 ⊢
 have r1:=r.call f1
 generalize cS (aZ rs.op)=ks at k hk1 hk2 ⊢
 have RK:∀ h,Row sE 1 h (.snap ks.length (ks.flatMap fun x=>[T x])) ks:=fun h=>Row.snap (enc:=sE) (fun _=>rfl) ks
 obtain⟨v0,E0,a0,s0⟩:=r1
 (repeat refine dy ?_)
 refine aR (fun m vs h'=>∃ (j:Nat) (v:AV) (E:Own),vs=[v,I (j:Nat)]∧m+j=ks.length∧AccE 1 v j (((ks.take j).map ry).flatMap (AA i)) E∧St h0 [] h' (E++(E0++[(i,true,rdO rs v0)]))) ks.length ⟨0,.full 0 [],[],rfl,by omega,.none 1,s0⟩ ?_
 rintro m vs h' ⟨j,v,E,rfl,hm,a,s⟩
 unfold gS
 (repeat refine aP ?_)
 refine ag (fun hb=>?_) (fun hb=>?_)<;>simp only[za,zb,zc,zd,ze,zf,zg,zh,zi,u8i,zj,zk,zl]at hb
 ·have hj:j<ks.length:=hb
  refine (RK h').idx (fun _=>rfl) hj fun p t=>?_
  refine aE t ?_
  have hkl:=hk2 ks[j] (by simp)
  refine dS (by simp;omega) ?_
  refine dS (by simp;omega) ?_
  refine zF hI _ _ (by decide) ?_
  have hnext:((ks.take (j+1)).map ry).flatMap (AA i)=((ks.take j).map ry).flatMap (AA i)++AA i (ry ks[j]):=by
   rw[List.take_succ_eq_append_getElem hj,List.map_append,List.flatMap_append];simp[List.flatMap_cons]
  refine ag (fun hc=>?_) (fun hc=>?_)
  ·refine aG rfl rfl ?_
   refine a.app s (xs:=AA i .reg) (m:=1) (Rd.full rfl) rfl (by omega) fun v' E' h3 a3 s3=>?_
   unfold cZ eE
   refine aH (by omega) ?_
   refine⟨m-1,by omega,j+1,v',E',rfl,by omega,?_,s3⟩
   rw[hnext,show ry ks[j]=.reg by unfold ry;rw[if_pos hc]];exact a3
  ·refine aG rfl rfl ?_
   refine a.app s (xs:=AA i .value) (m:=1) (Rd.full rfl) rfl (by omega) fun v' E' h3 a3 s3=>?_
   unfold cZ eE
   refine aH (by omega) ?_
   refine⟨m-1,by omega,j+1,v',E',rfl,by omega,?_,s3⟩
   rw[hnext,show ry ks[j]=.value by unfold ry;rw[if_neg (by rw[hc];simp)]];exact a3
 ·have hj:j=ks.length:=by omega
  subst hj
  rw[List.take_length]at a
  refine DJ hA l hl hs (ks.map ry) (by simp;omega) hn (v:=v) (E:=E) (by simpa using a) a0 s k
def okC (c:UInt8):Bool:=decide (32≤c.toNat)&&(decide (c.toNat≤126)&&decide (c≠34))
theorem T5:Bx (.fn (.func ed) [] []) okC:=fun c h Q k=>by
 show ACall Pg ed [U8 c] h Q
 refine qJ _ _ _ ?_
 unfold mD
 have e1:decide ((32:Int)≤c.toNat)=decide (32≤c.toNat):=rz (a:=32)
 have e2:decide ((c.toNat:Int)≤126)=decide (c.toNat≤126):=rz (b:=126)
 have e3:decide ((c.toNat:Int)≠34)=decide (c≠34):=by rw[Bool.eq_iff_iff];simp[← UInt8.toNat_inj];omega
 unfold okC at k
 refine cy ?_
 rw[e1]
 cases h1:decide (32≤c.toNat) with
 | true=>
   refine ag (fun _=>?_) (fun h=>by cases h)
   rw[h1,Bool.true_and]at k
   refine mf ?_
   rw[e2]
   cases h2:decide (c.toNat≤126) with
   | true=>
     refine ag (fun _=>?_) (fun h=>by cases h)
     rw[h2,Bool.true_and]at k
     refine cE ?_
     rw[e3];exact k
   | false=>
     refine ag (fun h=>by cases h) (fun _=>?_)
     rw[h2,Bool.false_and]at k;exact k
 | false=>
   refine ag (fun h=>by cases h) (fun _=>?_)
   rw[h1,Bool.false_and]at k;exact k
def xR (s:Str) (rs:RS):RS×Bool:=
 if s.length<2∨62<s.length∨s[0]?≠some 34∨s[s.length-1]?≠some 34 then (rs,false)
 else ({ rs with text:=(s.drop 1).take (s.length-2) },((s.drop 1).take (s.length-2)).all okC)
theorem QF (s:Str) {rs:RS}(r:RSt h0 h i rs) (k:∀ h',RSt h0 h' i (xR s rs).1→Q (B (xR s rs).2) h'):C gZ [.ptr i 0,T s] h Q:=by
 refine th _ _ _ _ ?_
 unfold oE
 unfold xR at k
 (repeat (first|refine bD ?_|refine aP ?_))
 refine ag (fun h1=>?_) (fun h1=>?_)<;>simp only[za,zb,zc,zd,ze,zf,zg,zh,zi,u8i,zj,zk,zl]at h1
 ·rw[if_pos (.inl (by omega))]at k;exact k h r
 (repeat (first|refine bD ?_|refine cO ?_))
 refine ag (fun h2=>?_) (fun h2=>?_)<;>simp only[za,zb,zc,zd,ze,zf,zg,zh,zi,u8i,zj,zk,zl]at h2
 ·rw[if_pos (.inr (.inl (by omega)))]at k;exact k h r
 have hl1:2≤s.length:=by omega
 have hl2:s.length≤62:=by omega
 refine fK (by omega) (by simp;omega) ?_
 refine cE ?_
 have c34:∀ c:UInt8,decide ((c.toNat:Int)≠34)=decide (c≠34):=fun c=>by rw[Bool.eq_iff_iff];simp[← UInt8.toNat_inj];omega
 rw[c34]
 refine ag (fun h3=>?_) (fun h3=>?_)<;>simp only[za,zb,zc,zd,ze,zf,zg,zh,zi,u8i,zj,zk,zl]at h3
 ·rw[if_pos (.inr (.inr (.inl (by rw[List.getElem?_eq_getElem (by omega)];simpa using h3))))]at k;exact k h r
 have h3:s[0]?=some 34:=by rw[List.getElem?_eq_getElem (by omega)];simpa using h3
 (repeat (first|refine bD ?_|refine dD (by omega) ?_))
 refine fK (by omega) (by omega) ?_
 refine cE ?_
 rw[c34]
 have e1:((s.length:Int)-1).toNat=s.length-1:=by omega
 refine ag (fun h4=>?_) (fun h4=>?_)<;>simp only[za,zb,zc,zd,ze,zf,zg,zh,zi,u8i,zj,zk,zl]at h4
 ·rw[if_pos (.inr (.inr (.inr (by rw[List.getElem?_eq_getElem (by omega)];simp only[e1]at h4;simpa using h4))))]at k;exact k h r
 have h4:s[s.length-1]?=some 34:=by rw[List.getElem?_eq_getElem (by omega)];simp only[e1]at h4;simpa using h4
 rw[if_neg (by rintro (h|h|h|h)<;>first|omega|exact h h3|exact h h4)]at k
 (repeat (first|refine bD ?_|refine dD (by omega) ?_))
 refine JI (by omega) (by omega) (by omega) ?_
 rw[e1,show s.length-1-Int.toNat 1=s.length-2 by simp;omega,show Int.toNat 1=1 from rfl]
 (repeat (first|refine aq ?_|refine an ?_))
 refine r.put (rs':={ rs with text:=(s.drop 1).take (s.length-2) }) rfl rfl rfl (by omega) rfl (fun v=>rfl) fun h5 r5=>?_
 (repeat (first|refine aq ?_|refine an ?_))
 refine r5.load (a:=T ((s.drop 1).take (s.length-2))) (fun v=>rfl) ?_
 (repeat (first|refine aq ?_|refine an ?_))
 refine r5.load (a:=T ((s.drop 1).take (s.length-2))) (fun v=>rfl) ?_
 (repeat refine bD ?_)
 refine pD T5 _ (by simp;omega) ?_
 refine⟨r5.load (fun v=>rfl) rfl,?_⟩
 refine aB ?_
 have e2:decide (((c8 okC ((s.drop 1).take (s.length-2)):Nat):Int)=((((s.drop 1).take (s.length-2)).length:Nat):Int))=((s.drop 1).take (s.length-2)).all okC:=by
  rw[Bool.eq_iff_iff,decide_eq_true_eq,← DW];omega
 rw[e2]
 exact k h5 r5
end
end
section
variable [Tabs]
section
variable {h0 h:ab}{Q:QT}{i:Nat}
def growsL:List Str:=[[98],[98,108],[98,99]]
def datasL:List Str:=[[46,98,121,116,101],[46,104,97,108,102],[46,108,111,110,103]]
def spacesL:List Str:=[[46,97,108,105,103,110],[46,115,112,97,99,101]]
def nI (s:Str) (l:List Str):Int:=eY (fun y=>decide (s=y)) l
theorem QZ (k:Q (.full growsL.length (growsL.flatMap sE)) h):C oW [] h Q:=by
 refine C8 _ _ ?_
 unfold Ci
 (repeat refine aG rfl rfl ?_)
 exact k
def yx (name rest:Str) (rs:RS):RS×Bool:=
 match k9 name with
 | some op=>sS (cH rest) ((cS (aZ op)).map ry) { rs with kind:=1,op:=op }
 | none=>
   if 0≤nI name growsL then sS (cH rest) (List.replicate (1+(nI name growsL).toNat / 2*2) .value) { rs with kind:=2,op:=(nI name growsL).toNat }
   else if 0≤nI name datasL then (if 1≤(cH rest).length∧(cH rest).length≤16 then sS (cH rest) (List.replicate (cH rest).length .value) { rs with kind:=3+(nI name datasL).toNat } else ({ rs with kind:=3+(nI name datasL).toNat },false))
   else if name=[46,97,115,99,105,105] then xR rest { rs with kind:=6 }
   else if 0≤nI name spacesL then sS (cH rest) [.value] { rs with kind:=7+(nI name spacesL).toNat }
   else if name=[46,101,113,117] then sS (cH rest) [.word,.value] { rs with kind:=9 }
   else (rs,false)
theorem AN (s:Str) (hs:s.length<3000000000):(cH s).length<4000000000∧∀ x∈cH s,x.length<4000000000:=by
 unfold cH
 split
 ·simp
 ·have h1:=jx 44 s
  have h2:=List.count_le_length (a:=(44:UInt8)) (l:=s)
  refine⟨by simp;omega,fun x hx=>?_⟩
  rw[List.mem_map]at hx
  obtain⟨y,hy,rfl⟩:=hx
  have h3:=kV 44 s y hy
  have h4:=wv y
  omega
theorem Dj {s:Str}{op:Nat}(h:k9 s=some op):op<tbl.length:=by
 unfold k9 at h
 rw[List.findIdx?_eq_some_iff_getElem]at h
 exact h.1
theorem zV (s:Str) (l:List Str):-1≤nI s l∧(nI s l).toNat≤l.length∧(0≤nI s l→(nI s l).toNat<l.length):=by
 unfold nI eY
 cases h:l.findIdx? fun y=>decide (s=y) with
 | none=>simp
 | some j=>
   rw[List.findIdx?_eq_some_iff_getElem]at h
   have:=h.1
   simp;omega
theorem CK (n:Nat):List.replicate n (AV.fn (.func bB) [.ptr i 0] [])=(List.replicate n Way.value).flatMap (AA i):=by
 induction n with
 | zero=>rfl
 | succ n ih=>rw[List.replicate_succ,List.replicate_succ,List.flatMap_cons,ih];rfl
theorem xx (hA:iG) (l:List Str) (hl:l.length<4000000000) (hs:∀ s∈l,s.length<4000000000) (n:Nat) (hn:n<100) {rs:RS}(ha:rs.args.length=0) (r:RSt h0 h i rs)
  (k:∀ h',RSt h0 h' i (sS l (List.replicate n .value) rs).1→Q (B (sS l (List.replicate n .value) rs).2) h'):
  C ia [(.fn (.func bB) [.ptr i 0] []),I (n:Nat)] h fun t h9=>C eU [.snap l.length (l.flatMap sE),t] h9 Q:=by
 refine Th _ rfl rfl rfl n (by omega) fun v E h' a s=>?_
 obtain⟨v0,E0,a0,s0⟩:=r
 have sj:=s0.join s a.own
 exact DJ hA l hl hs (List.replicate n .value) (by simp;omega) ha (v:=v) (E:=E) (by rw[← CK];simpa using a) a0 sj k
theorem EG (hF:ct) (hI:gf) (hA:iG) (name rest:Str) (hr:rest.length<3000000000) {rs:RS}(ha:rs.args=[]) (r:RSt h0 h i rs) (k:∀ h',RSt h0 h' i (yx name rest rs).1→Q (B (yx name rest rs).2) h'):
  C fl [.ptr i 0,T name,T rest] h Q:=by
 refine oU _ _ _ _ _ ?_
 unfold kL
 refine F4 hI rest (by omega) fun h1 f1=>?_
 have r1:=r.call f1
 obtain⟨hol,hos⟩:=AN rest hr
 refine Mt name fun h2 f2=>?_
 have r2:=r1.call f2
 have ha0:rs.args.length=0:=by rw[ha];rfl
 unfold yx at k
 (repeat refine ax rfl ?_)
 cases hf:k9 name with
 | some op=>
   rw[hf]at k
   refine ag (fun _=>?_) (fun h=>by cases h)
   (repeat (first|refine aq ?_|refine an ?_))
   refine r2.put (rs':={ rs with kind:=1 }) rfl rfl rfl (by omega) rfl (fun v=>rfl) fun h3 r3=>?_
   (repeat (first|refine aq ?_|refine an ?_))
   refine r3.put (rs':={ rs with kind:=1,op:=op }) rfl rfl rfl (by omega) rfl (fun v=>rfl) fun h4 r4=>?_
   exact Bb hF hI hA (rs:={ rs with kind:=1,op:=op }) (Dj hf) ha0 r4 _ hol hos k
 | none=>
 rw[hf]at k
 simp only at k
 refine ag (fun h=>by cases h) (fun _=>?_)
 refine QZ ?_
 refine jh name growsL (by decide) (Row.full (enc:=sE) (fun _=>rfl) growsL) ?_
 obtain⟨g1,g2,g3⟩:=zV name growsL
 rw[show eY (fun y=>decide (name=y)) growsL=nI name growsL from rfl]
 generalize hgi:nI name growsL=gi at k g1 g2 g3 ⊢
 (repeat refine cy ?_)
 refine ag (fun hg=>?_) (fun hg=>?_)<;>simp only[za,zb,zc,zd,ze,zf,zg,zh,zi,u8i,zj,zk,zl]at hg
 ·rw[if_pos hg]at k
  have g3:=g3 hg
  have:growsL.length=3:=rfl
  (repeat (first|refine aq ?_|refine an ?_))
  refine r2.put (rs':={ rs with kind:=2 }) rfl rfl rfl (by omega) rfl (fun v=>rfl) fun h3 r3=>?_
  (repeat (first|refine aq ?_|refine an ?_))
  obtain⟨n,rfl⟩:∃ n:Nat,gi=n:=⟨gi.toNat,by omega⟩
  rw[Int.toNat_natCast]at k g3
  refine r3.put (rs':={ rs with kind:=2,op:=n }) rfl rfl rfl (by omega) rfl (fun v=>rfl) fun h4 r4=>?_
  have hq:(n:Int).tdiv 2=((n / 2:Nat):Int):=by rw[Int.tdiv_eq_ediv_of_nonneg (by omega)];omega
  refine mi (by decide) (by rw[hq];omega) ?_
  rw[hq]
  refine xm (by omega) ?_
  refine aH (by omega) ?_
  have e1:(1:Int)+((n / 2:Nat):Int)*2=((1+n / 2*2:Nat):Int):=by omega
  rw[e1]
  exact xx hA _ hol hos _ (by omega) (rs:={ rs with kind:=2,op:=n }) ha0 r4 k
 rw[if_neg (by omega)]at k
 have hdat:∀ d:Nat,nI name datasL=d→bU (B true) (T name) (.snap (cH rest).length ((cH rest).flatMap sE)) (.ptr i 0) (T name) (T rest) h2 Q:=by
  intro d hd
  have hd3:d<3:=by
   have:=zV name datasL
   have h3:datasL.length=3:=rfl
   omega
  rw[hd,if_pos (by omega),Int.toNat_natCast]at k
  unfold bU
  refine ag (fun _=>?_) (fun h=>by cases h)
  refine aG rfl rfl ?_
  refine jh name datasL (by decide) (Row.full (enc:=sE) (fun _=>rfl) datasL) ?_
  rw[show eY (fun y=>decide (name=y)) datasL=nI name datasL from rfl,hd]
  refine aH (by omega) ?_
  have e1:(3:Int)+(d:Int)=((3+d:Nat):Int):=by omega
  rw[e1]
  (repeat (first|refine aq ?_|refine an ?_))
  refine r2.put (rs':={ rs with kind:=3+d }) rfl rfl rfl (by omega) rfl (fun v=>rfl) fun h3 r3=>?_
  (repeat (first|refine dy ?_|refine cy ?_))
  refine ag (fun hn1=>?_) (fun hn1=>?_)<;>simp only[za,zb,zc,zd,ze,zf,zg,zh,zi,u8i,zj,zk,zl]at hn1
  ·(repeat (first|refine dy ?_|refine mf ?_))
   refine ag (fun hn2=>?_) (fun hn2=>?_)<;>simp only[za,zb,zc,zd,ze,zf,zg,zh,zi,u8i,zj,zk,zl]at hn2
   ·rw[if_pos ⟨by omega,by omega⟩]at k
    (repeat refine dy ?_)
    exact xx hA _ hol hos _ (by omega) (rs:={ rs with kind:=3+d }) ha0 r3 k
   ·rw[if_neg (by omega)]at k
    exact k h3 r3
  ·rw[if_neg (by omega)]at k
   exact k h3 r3
 refine bi ?_
 refine ag (fun hb1=>?_) (fun hb1=>?_)<;>simp only[za,zb,zc,zd,ze,zf,zg,zh,zi,u8i,zj,zk,zl]at hb1
 ·rw[decide_eq_true hb1];exact hdat 0 (by rw[hb1];decide)
 refine bi ?_
 refine ag (fun hb2=>?_) (fun hb2=>?_)<;>simp only[za,zb,zc,zd,ze,zf,zg,zh,zi,u8i,zj,zk,zl]at hb2
 ·rw[decide_eq_true hb2];exact hdat 1 (by rw[hb2];decide)
 refine bi ?_
 cases hb3:decide (name=[46,108,111,110,103]) with
 | true=>exact hdat 2 (by simp only[decide_eq_true_eq]at hb3;rw[hb3];decide)
 | false=>
 simp only[decide_eq_false_iff_not]at hb3
 have hnd:nI name datasL=-1:=by
  unfold nI
  refine gg fun j hj=>?_
  have h3:datasL.length=3:=rfl
  have:j=0∨j=1∨j=2:=by omega
  rcases this with rfl|rfl|rfl
  ·exact decide_eq_false hb1
  ·exact decide_eq_false hb2
  ·exact decide_eq_false hb3
 rw[hnd,if_neg (by omega)]at k
 unfold bU
 refine ag (fun h=>by cases h) (fun _=>?_)
 refine bi ?_
 refine ag (fun hasc=>?_) (fun hasc=>?_)<;>simp only[za,zb,zc,zd,ze,zf,zg,zh,zi,u8i,zj,zk,zl]at hasc
 ·rw[if_pos hasc]at k
  (repeat (first|refine aq ?_|refine an ?_))
  refine r2.put (rs':={ rs with kind:=6 }) rfl rfl rfl (by omega) rfl (fun v=>rfl) fun h3 r3=>?_
  exact QF rest r3 k
 rw[if_neg hasc]at k
 have hspc:∀ d:Nat,nI name spacesL=d→cA (B true) (T name) (.snap (cH rest).length ((cH rest).flatMap sE)) (.ptr i 0) (T name) h2 Q:=by
  intro d hd
  have hd3:d<2:=by
   have:=zV name spacesL
   have h3:spacesL.length=2:=rfl
   omega
  rw[hd,if_pos (by omega),Int.toNat_natCast]at k
  unfold cA
  refine ag (fun _=>?_) (fun h=>by cases h)
  refine aG rfl rfl ?_
  refine jh name spacesL (by decide) (Row.full (enc:=sE) (fun _=>rfl) spacesL) ?_
  rw[show eY (fun y=>decide (name=y)) spacesL=nI name spacesL from rfl,hd]
  refine aH (by omega) ?_
  have e1:(7:Int)+(d:Int)=((7+d:Nat):Int):=by omega
  rw[e1]
  (repeat (first|refine aq ?_|refine an ?_))
  refine r2.put (rs':={ rs with kind:=7+d }) rfl rfl rfl (by omega) rfl (fun v=>rfl) fun h3 r3=>?_
  exact xx hA _ hol hos 1 (by omega) (rs:={ rs with kind:=7+d }) ha0 r3 k
 refine bi ?_
 refine ag (fun ha1=>?_) (fun ha1=>?_)<;>simp only[za,zb,zc,zd,ze,zf,zg,zh,zi,u8i,zj,zk,zl]at ha1
 ·rw[show decide (name=[46,97,108,105,103,110])=true by rw[ha1];rfl]
  exact hspc 0 (by rw[ha1];decide)
 refine bi ?_
 cases ha2:decide (name=[46,115,112,97,99,101]) with
 | true=>exact hspc 1 (by simp only[decide_eq_true_eq]at ha2;rw[ha2];decide)
 | false=>
 simp only[decide_eq_false_iff_not]at ha2
 have hns:nI name spacesL=-1:=by
  unfold nI
  refine gg fun j hj=>?_
  have h3:spacesL.length=2:=rfl
  have:j=0∨j=1:=by omega
  rcases this with rfl|rfl
  ·exact decide_eq_false ha1
  ·exact decide_eq_false ha2
 rw[hns,if_neg (by omega)]at k
 unfold cA
 refine ag (fun h=>by cases h) (fun _=>?_)
 refine bi ?_
 refine ag (fun heq=>?_) (fun heq=>?_)<;>simp only[za,zb,zc,zd,ze,zf,zg,zh,zi,u8i,zj,zk,zl]at heq
 ·rw[if_pos heq]at k
  (repeat (first|refine aq ?_|refine an ?_))
  refine r2.put (rs':={ rs with kind:=9 }) rfl rfl rfl (by omega) rfl (fun v=>rfl) fun h3 r3=>?_
  refine aG rfl rfl ?_
  exact Ka hA _ hol hos [.word,.value] (by decide) (rs:={ rs with kind:=9 }) ha0 r3 (fun h'=>Row.snap (enc:=sE) (fun _=>rfl) _) (fun h'=>Row.full (enc:=AA i) (fun _=>rfl) [.word,.value]) k
 ·rw[if_neg heq]at k
  exact k h2 r2
def yk:Bool→Str→Str
 | _,[]=>[]
 | q,c::l=>if c=35∧q=false then [] else c::yk (if c=34 then !q else q) l
def yD (s:Str):Str:=pN (yk false s)
theorem Hl:∀ (q:Bool) (l:Str),(yk q l).length≤l.length
 | _,[]=>by simp[yk]
 | q,c::l=>by
   unfold yk
   split
   ·simp
   ·have:=Hl (if c=34 then !q else q) l;simp;omega
theorem IY {s:Str}(hs:s.length<4000000000) (q:Bool) (j:Nat) (hj:j≤s.length) {next:NT}
  (k0:yk q (s.drop j)=[]→∀ h',Fr [] h h'→Q (T (pN (s.take j))) h') (k1:∀ (hj:j<s.length),yk q (s.drop j)=s[j]::yk (if s[j]=34 then !q else q) (s.drop (j+1))→next [B (if s[j]=34 then !q else q),I ((j+1:Nat):Int)] h):
  n9 (T s) (B q) (I (j:Nat)) h Q next:=by
 unfold n9
 have fin:yk q (s.drop j)=[]→ou (T s) (I (j:Nat)) h Q:=by
  intro hc
  unfold ou
  refine mK (by omega) (by omega) ?_
  rw[Int.toNat_natCast]
  exact zX _ (by simp;omega) (k0 hc)
 (repeat (first|refine bD ?_|refine aB ?_))
 refine ag (fun hb=>?_) (fun hb=>?_)<;>simp only[za,zb,zc,zd,ze,zf,zg,zh,zi,u8i,zj,zk,zl]at hb
 ·have:j=s.length:=by omega
  subst this
  exact fin (by rw[List.drop_length];rfl)
 have hj2:j<s.length:=by omega
 have hcut:=List.drop_eq_getElem_cons hj2
 have go:¬(s[j]=35∧q=false)→oc (T s) (B q) (I (j:Nat)) h next:=by
  intro hn
  have k1:=k1 hj2 (by rw[hcut,yk,if_neg hn])
  unfold oc
  refine co hj2 ?_
  refine aB ?_
  have e:decide ((s[j].toNat:Int)=34)=decide (s[j]=34):=by rw[Bool.eq_iff_iff];simp[← UInt8.toNat_inj];omega
  rw[e]
  refine ag (fun h34=>?_) (fun h34=>?_)<;>simp only[za,zb,zc,zd,ze,zf,zg,zh,zi,u8i,zj,zk,zl]at h34
  ·refine dA ?_
   unfold n7
   refine aH (by omega) ?_
   rw[if_pos h34]at k1;exact k1
  ·unfold n7
   refine aH (by omega) ?_
   rw[if_neg h34]at k1;exact k1
 refine co hj2 ?_
 refine aB ?_
 have e:decide ((s[j].toNat:Int)=35)=decide (s[j]=35):=by rw[Bool.eq_iff_iff];simp[← UInt8.toNat_inj];omega
 rw[e]
 cases h35:decide (s[j]=35) with
 | true=>
   simp only[decide_eq_true_eq]at h35
   refine gd (ag (fun _=>?_) (fun h=>by cases h)) ⟨_,rfl⟩
   refine dA ?_
   cases q with
   | true=>exact ag (fun h=>by cases h) (fun _=>go (by simp))
   | false=>exact ag (fun _=>fin (by rw[hcut,yk,if_pos ⟨h35,rfl⟩])) (fun h=>by cases h)
 | false=>
   simp only[decide_eq_false_iff_not]at h35
   exact gd (ag (fun h=>by cases h) (fun _=>go (by simp[h35]))) ⟨_,rfl⟩
theorem S8 (s:Str) (hs:s.length<4000000000) (k:∀ h',Fr [] h h'→Q (T (yD s)) h'):C qz [T s] h Q:=by
 refine EN _ _ _ ?_
 unfold xA
 refine IY hs false 0 (by omega) (fun hc=>by
  have:yD s=pN (s.take 0):=by unfold yD;rw[List.drop_zero]at hc;rw[hc];rfl
  rw[this]at k;exact k) (fun hj hc=>?_)
 refine aR (fun n vs h'=>h'=h∧∃ (q:Bool) (j:Nat),vs=[B q,I (j:Nat)]∧j≤s.length∧n+j=s.length∧yk false s=s.take j++yk q (s.drop j)) (s.length-1) ⟨rfl,_,1,rfl,by omega,by omega,by
  rw[List.drop_zero]at hc;rw[hc]
  cases s with
  | nil=>simp at hj
  | cons c t=>rfl⟩ ?_
 rintro n vs h' ⟨rfl,q,j,rfl,hj2,hn,hcut⟩
 refine IY hs q j hj2 (fun hc=>by
  have:yD s=pN (s.take j):=by unfold yD;rw[hcut,hc,List.append_nil]
  rw[this]at k;exact k) (fun hj3 hc=>?_)
 refine⟨n-1,by omega,rfl,_,j+1,rfl,by omega,by omega,?_⟩
 rw[hcut,hc,List.take_succ_eq_append_getElem hj3,List.append_assoc];rfl
end
end
section
variable [Tabs]
section
variable {h:ab}{Q:QT}
def xg (c:UInt8):Bool:=decide (c≠32)&&decide (c≠9)
theorem N8:Bx (.fn (.func lF) [] []) xg:=fun c h Q k=>by
 show ACall Pg lF [U8 c] h Q
 refine CT _ _ _ ?_
 unfold Av
 have e1:decide ((c.toNat:Int)≠32)=decide (c≠32):=by rw[Bool.eq_iff_iff];simp[← UInt8.toNat_inj];omega
 have e2:decide ((c.toNat:Int)≠9)=decide (c≠9):=by rw[Bool.eq_iff_iff];simp[← UInt8.toNat_inj];omega
 unfold xg at k
 refine cE ?_
 rw[e1]
 cases h1:decide (c≠32) with
 | true=>
   refine ag (fun _=>?_) (fun h=>by cases h)
   rw[h1,Bool.true_and]at k
   refine cE ?_
   rw[e2];exact k
 | false=>
   refine ag (fun h=>by cases h) (fun _=>?_)
   rw[h1,Bool.false_and]at k;exact k
def Q9 (b:Str):Option (Str×Str):=
 if b[c8 ff b]?=some 58 then (if sJ (b.take (c8 ff b))=true then some (b.take (c8 ff b),pN (b.drop (c8 ff b+1))) else none) else some ([],b)
def rs0 (lab:Str):RS:=⟨lab,0,0,[],[]⟩
def HF (s:Str):Str:=s.take (c8 xg s)
def DR (s:Str):Str:=pN (s.drop (c8 xg s))
def Gd (s:Str):Option (Option RS):=
 if 10∈s then none else
 match Q9 (yD s) with
 | none=>none
 | some (lab,s')=>
   if s'=[] then (if lab=[] then some none else some (some (rs0 lab)))
   else if (yx (HF s') (DR s') (rs0 lab)).2=true then some (some (yx (HF s') (DR s') (rs0 lab)).1) else none
def smE (line:Nat) (rs:RS):List AV:=[I (line:Nat),T rs.lab,I (rs.kind:Nat),I (rs.op:Nat),T rs.text,.snap rs.args.length (rs.args.flatMap arE)]
abbrev zS:List AV:=[I 0,T [],I 0,I 0,T [],.full 0 []]
theorem Q7 (s:Str):(yD s).length≤s.length:=Nat.le_trans (wv _) (Hl _ _)
theorem Ob (l:List Str) (ws:List Way) (rs:RS):(sS l ws rs).1.args.length≤rs.args.length+ws.length:=by
 have hg:∀ (ws:List Way) (l:List Str) (rs:RS),(goW ws l rs).1.args.length≤rs.args.length+ws.length:=by
  intro ws
  induction ws with
  | nil=>intro l rs;simp[goW]
  | cons w ws ih=>
    intro l rs
    cases l with
    | nil=>simp[goW]
    | cons s l=>
      have h1:=DI w s rs
      unfold goW
      split
      ·have:=ih l (om w s rs).1;simp;omega
      ·simp;omega
 unfold sS
 split
 ·exact hg ws l rs
 ·simp
theorem IA (s:Str) (rs:RS):(xR s rs).1.args=rs.args:=by unfold xR;split<;>rfl
theorem Jv (name rest:Str) (rs:RS) (h0:rs.args=[]):(yx name rest rs).1.args.length≤100:=by
 have ha:∀ (l:List Str) (ws:List Way) (rs':RS),rs'.args=[]→ws.length≤100→(sS l ws rs').1.args.length≤100:=fun l ws rs' h1 h2=>by
  have:=Ob l ws rs';rw[h1]at this;simp at this;omega
 unfold yx
 split
 ·rename_i op hop
  refine ha _ _ _ h0 ?_
  have ho:=Dj hop
  have:=xi tbl[op] (by simp)
  rw[← g9 ho]at this
  simp;omega
 ·split
  ·refine ha _ _ _ h0 ?_
   have:=zV name growsL
   have h3:growsL.length=3:=rfl
   simp;omega
  ·split
   ·split
    ·exact ha _ _ _ h0 (by simp;omega)
    ·show rs.args.length≤100;rw[h0];simp
   ·split
    ·rw[IA];show rs.args.length≤100;rw[h0];simp
    ·split
     ·exact ha _ _ _ h0 (by simp)
     ·split
      ·exact ha _ _ _ h0 (by simp)
      ·rw[h0];simp
theorem Kl (hF:ct) (hI:gf) (hA:iG) (s:Str) (hs:s.length<2000000000)
  (k0:Gd s=none→∀ h',Fr [] h h'→Q (.tup [.agg zS,B false]) h') (k1:Gd s=some none→∀ h',Fr [] h h'→Q (.tup [.agg zS,B true]) h') (k2:∀ rs,Gd s=some (some rs)→∀ h',Fr [] h h'→Q (.tup [.agg (smE 1 rs),B true]) h'):C sT [T s] h Q:=by
 refine ACall.conv ?_
 refine Js _ _ _ ?_
 unfold Iu
 refine bk (St.start h) fun q h1 s1=>?_
 refine F7 s 10 ?_
 have emem:decide (0≤Lib.indexByte s 10)=decide (10∈s):=by rw[Bool.eq_iff_iff,decide_eq_true_eq,decide_eq_true_eq];exact CI s 10
 refine cy ?_
 rw[emem]
 unfold Gd at k0 k1 k2
 refine ag (fun h10=>?_) (fun h10=>?_)<;>simp only[za,zb,zc,zd,ze,zf,zg,zh,zi,u8i,zj,zk,zl]at h10
 ·rw[if_pos h10]at k0
  (repeat (first|refine aW ‹_› (.head _) (nle rfl) ?_|refine aO rfl ?_|refine aF ‹_› .head rfl rfl rfl (nle rfl) fun _ _=>?_))
  exact wB (k0 rfl _ (by assumption:St h [] _ _).fr)
 rw[if_neg h10]at k0 k1 k2
 refine S8 s (by omega) fun h2 f2=>?_
 have s2:=s1.call f2
 have hbl:=Q7 s
 generalize yD s=b at k0 k1 k2 hbl ⊢
 (repeat refine aO rfl ?_)
 refine SI s2 rfl fun i h3 s3 r3=>?_
 have r3:St h2 [] h3 [(i,true,rdO (rs0 []) (.full 0 []))]:=r3
 have s3:St h [] h3 [(i,true,rdO (rs0 []) (.full 0 [])),(q,true,.cells zS)]:=s3
 have r0:RSt h2 h3 i (rs0 []):=⟨.full 0 [],[],.none 5,r3⟩
 refine pD OU b (by omega) ?_
 have tail:∀ (lab s':Str) (h5:ab),s'.length<3000000000→RSt h2 h5 i (rs0 lab)→Q9 b=some (lab,s')→ip (T s') (.ptr i 0) (.ptr q 0) h5 (fun r h'=>∃ r2 h2,Conv r h' r2 h2∧Q r2 h2):=by
  intro lab s' h5 hs' r5 hlab
  rw[hlab]at k0 k1 k2
  simp only at k0 k1 k2
  obtain⟨v5,E5,a5,t5⟩:=r5
  have s5:St h [] h5 [(q,true,.cells zS)]:=s2.call t5.fr
  have r5:RSt h2 h5 i (rs0 lab):=⟨v5,E5,a5,t5⟩
  unfold ip
  (repeat refine bi ?_)
  refine ag (fun hb=>?_) (fun hb=>?_)<;>simp only[za,zb,zc,zd,ze,zf,zg,zh,zi,u8i,zj,zk,zl]at hb
  ·rw[if_pos hb]at k0 k1 k2
   (repeat (first|refine aq ?_|refine an ?_))
   refine r5.load (a:=T lab) (fun v=>rfl) ?_
   (repeat refine bi ?_)
   refine ag (fun hlb=>?_) (fun hlb=>?_)<;>simp only[za,zb,zc,zd,ze,zf,zg,zh,zi,u8i,zj,zk,zl]at hlb
   ·rw[if_pos hlb]at k1
    (repeat refine aO rfl ?_)
    refine aF s5 .head rfl rfl rfl (nle rfl) fun h6 s6=>?_
    (repeat refine aW ‹_› (.head _) (nle rfl) ?_)
    exact wB (k1 rfl h6 s6.fr)
   ·rw[if_neg hlb]at k2
    (repeat (first|refine aq ?_|refine an ?_))
    rcases a5 with ⟨_,_,rfl,rfl⟩|⟨hl,j,rfl,rfl⟩
    ·refine aW t5 (cs:=[I 1,T lab,I 0,I 0,T [],.full 0 []]) (b:=true) (.head _) (nle rfl) ?_
     skip
     refine aF s5 .head rfl rfl rfl (nle rfl) fun h6 s6=>?_
     (repeat refine aW ‹_› (.head _) (nle rfl) ?_)
     refine⟨_,_,.wk (Wk.tup (.cons (Wk.agg (.cons (.refl _) (.cons (.refl _) (.cons (.refl _) (.cons (.refl _) (.cons (.refl _) (.cons (.full _ _) .nil))))))) (.cons (.refl _) .nil))) (.refl _ _),?_⟩
     exact k2 (rs0 lab) rfl h6 s6.fr
    ·have s5:=s2.join t5 (by simp)
     refine aW t5 (cs:=[I 1,T lab,I 0,I 0,T [],.sl j 0 0 5]) (b:=true) (.tail _ (.head _)) (nle rfl) ?_
     skip
     refine aF (cs:=zS) s5 (.tail (.tail .head)) rfl rfl rfl (nle rfl) fun h6 s6=>?_
     have s6:St h [] h6 [(j,true,.cells []),(i,true,rdO (rs0 lab) (.sl j 0 0 5)),(q,true,.cells [I 1,T lab,I 0,I 0,T [],.sl j 0 0 5])]:=s6
     (repeat refine aW ‹_› (by first|exact .head _|exact .tail _ (.tail _ (.head _))) (nle rfl) ?_)
     refine⟨_,_,.frz j [] (s6.get (.head _)) (.refl _ _),?_⟩
     have:=k2 (rs0 lab) rfl _ (s6.kill .head).fr
     simpa [fz,fzL,smE,rs0] using this
  ·rw[if_neg hb]at k0 k1 k2
   refine pD N8 s' (by omega) ?_
   have hfl:=Da xg s'
   refine mK (by omega) (by omega) ?_
   refine gm (by omega) (by omega) ?_
   rw[Int.toNat_natCast]
   refine zX _ (by simp;omega) fun h6 f6=>?_
   have r6:=r5.call f6
   have htl:=wv (s'.drop (c8 xg s'))
   refine EG hF hI hA (HF s') (DR s') (by unfold DR;simp at htl;omega) rfl r6 fun h7 r7=>?_
   have hargs:=Jv (HF s') (DR s') (rs0 lab) rfl
   generalize yx (HF s') (DR s') (rs0 lab)=res at k0 k1 k2 r7 hargs ⊢
   obtain⟨v7,E7,a7,t7⟩:=r7
   have s7:St h [] h7 [(q,true,.cells zS)]:=s2.call t7.fr
   refine dA ?_
   refine ag (fun hr=>?_) (fun hr=>?_)
   ·simp only[Bool.not_eq_true']at hr
    rw[if_neg (by rw[hr];simp)]at k0
    (repeat refine aO rfl ?_)
    refine aF s7 .head rfl rfl rfl (nle rfl) fun h8 s8=>?_
    (repeat refine aW ‹_› (.head _) (nle rfl) ?_)
    exact wB (k0 rfl h8 s8.fr)
   ·simp only[Bool.not_eq_false']at hr
    rw[if_pos hr]at k2
    (repeat (first|refine aq ?_|refine an ?_))
    refine aj t7 (cs:=[I 1,T res.1.lab,I (res.1.kind:Nat),I (res.1.op:Nat),T res.1.text,v7]) (b:=true) (List.mem_append_right _ (.head _)) rfl ?_
    refine yn (by omega) (a7.rd t7) fun h8 f8=>?_
    have t8:=(a7.rest t7).call f8
    (repeat (first|refine aq ?_|refine an ?_))
    refine aF t8 (cs:=[I 1,T res.1.lab,I (res.1.kind:Nat),I (res.1.op:Nat),T res.1.text,v7]) .head rfl rfl rfl (nle rfl) fun h9 t9=>?_
    have t9:St h2 [] h9 [(i,true,.cells (smE 1 res.1))]:=t9
    have s9:St h [] h9 [(q,true,.cells zS)]:=s2.call t9.fr
    (repeat (first|refine aq ?_|refine an ?_))
    refine aW t9 (.head _) (nle rfl) ?_
    skip
    refine aF s9 .head rfl rfl rfl (nle rfl) fun h10 s10=>?_
    (repeat refine aW ‹_› (.head _) (nle rfl) ?_)
    exact wB (k2 res.1 rfl h10 s10.fr)
 have hn:=Da ff b
 (repeat (first|refine bD ?_|refine aP ?_))
 have nolab:b[c8 ff b]?≠some 58→ip (T b) (.ptr i 0) (.ptr q 0) h3 (fun r h'=>∃ r2 h2,Conv r h' r2 h2∧Q r2 h2):=fun hne=>tail [] b h3 (by omega) r0 (by unfold Q9;rw[if_neg hne])
 refine ag (fun hlt=>?_) (fun hlt=>?_)<;>simp only[za,zb,zc,zd,ze,zf,zg,zh,zi,u8i,zj,zk,zl]at hlt
 ·have hlt:c8 ff b<b.length:=hlt
  refine co hlt ?_
  refine aB ?_
  have e58:decide ((b[c8 ff b].toNat:Int)=58)=decide (b[c8 ff b]=58):=by rw[Bool.eq_iff_iff];simp[← UInt8.toNat_inj];omega
  rw[e58]
  refine ag (fun h58=>?_) (fun h58=>?_)<;>simp only[za,zb,zc,zd,ze,zf,zg,zh,zi,u8i,zj,zk,zl]at h58
  ·have hl58:b[c8 ff b]?=some 58:=by rw[List.getElem?_eq_getElem hlt,h58]
   have hlm:Q9 b=if sJ (b.take (c8 ff b))=true then some (b.take (c8 ff b),pN (b.drop (c8 ff b+1))) else none:=by unfold Q9;rw[if_pos hl58]
   refine mK (by omega) (by omega) ?_
   rw[Int.toNat_natCast]
   refine Mw _ (by simp;omega) ?_
   refine dA ?_
   refine ag (fun hw=>?_) (fun hw=>?_)
   ·simp only[Bool.not_eq_true']at hw
    rw[if_neg (by rw[hw];simp)]at hlm
    rw[hlm]at k0
    (repeat refine aO rfl ?_)
    refine aF s3 (.tail .head) rfl rfl rfl (nle rfl) fun h4 s4=>?_
    (repeat refine aW ‹_› (by first|exact .head _|exact .tail _ (.head _)) (nle rfl) ?_)
    exact wB (k0 rfl h4 s4.fr)
   ·simp only[Bool.not_eq_false']at hw
    rw[if_pos hw]at hlm
    refine mK (by omega) (by omega) ?_
    rw[Int.toNat_natCast]
    refine aH (by omega) ?_
    refine gm (by omega) (by omega) ?_
    rw[show ((c8 ff b:Int)+1).toNat=c8 ff b+1 by omega]
    refine zX _ (by simp;omega) fun h4 f4=>?_
    have r4:=r0.call f4
    (repeat (first|refine aq ?_|refine an ?_))
    refine r4.put (rs':=rs0 (b.take (c8 ff b))) rfl rfl rfl (by omega) rfl (fun v=>rfl) fun h5 r5=>?_
    have htl:=wv (b.drop (c8 ff b+1))
    exact tail _ _ h5 (by simp at htl;omega) r5 hlm
  ·exact nolab (by rw[List.getElem?_eq_getElem hlt];simpa using h58)
 ·exact nolab (by rw[List.getElem?_eq_none (by omega)];simp)
end
end
section
variable [Tabs]
section
variable {h:ab}{Q:QT}
abbrev Sm:=Nat×RS
def smF (x:Sm):List AV:=smE x.1 x.2
def stm (x:Str) (i:Nat):List Sm:=match Gd x with
 | some (some rs)=>[(i+1,rs)]
 | _=>[]
def x7 (x:Str) (i:Nat):List Nat:=match Gd x with
 | none=>[i+1]
 | _=>[]
def yb {α:Type}(f:Str→Nat→List α) (ls:List Str) (n:Nat):List α:=(List.range n).flatMap fun i=>f ((ls[i]?).getD []) i
theorem Dx {α:Type}(f:Str→Nat→List α) (ls:List Str) {n:Nat}(h:n<ls.length):yb f ls (n+1)=yb f ls n++f ls[n] n:=by
 unfold yb
 rw[List.range_succ,List.flatMap_append]
 simp[h]
def ng (s:Str):List Sm:=yb stm (bM 10 s) (bM 10 s).length
def nD (s:Str):List Nat:=yb x7 (bM 10 s) (bM 10 s).length
theorem BP {α:Type}(f:Str→Nat→List α) (hf:∀ x i,(f x i).length≤1) (ls:List Str):∀ n,(yb f ls n).length≤n
 | 0=>by simp[yb]
 | n+1=>by
   have ih:=BP f hf ls n
   unfold yb at ih ⊢
   rw[List.range_succ,List.flatMap_append,List.length_append]
   have:=hf ((ls[n]?).getD []) n
   simp only[List.flatMap_cons,List.flatMap_nil,List.append_nil];omega
theorem Tb (x:Str) (i:Nat):(stm x i).length≤1:=by unfold stm;split<;>simp
theorem Qy (x:Str) (i:Nat):(x7 x i).length≤1:=by unfold x7;split<;>simp
abbrev nE (n:Nat):List AV:=[I (n:Nat)]
theorem Gx (hF:ct) (hI:gf) (hA:iG) (s:Str) (hs:s.length<1000000000) (k:∀ h',Fr [] h h'→Q (.tup [.snap (ng s).length ((ng s).flatMap smF),.snap (nD s).length ((nD s).flatMap nE)]) h'):C pi [T s] h Q:=by
 refine CA _ _ _ ?_
 unfold BF
 refine Q2 hI 10 s (by omega) fun h1 f1=>?_
 have hsum:=kV 10 s
 have hlen:=jx 10 s
 have hcnt:=List.count_le_length (a:=10) (l:=s)
 unfold ng nD at k
 generalize bM 10 s=ls at k hsum hlen ⊢
 have RL:∀ h,Row sE 1 h (.snap ls.length (ls.flatMap fun x=>[T x])) ls:=fun h=>Row.snap (enc:=sE) (fun _=>rfl) ls
 (repeat refine dy ?_)
 refine aR (fun n vs h'=>∃ (j:Nat) (v1 v2:AV) (E1 E2:Own),vs=[v1,v2,I (j:Nat)]∧n+j=ls.length∧AccE 6 v1 (yb stm ls j).length ((yb stm ls j).flatMap smF) E1∧AccE 1 v2 (yb x7 ls j).length ((yb x7 ls j).flatMap nE) E2∧St h [] h' (E1++(E2++[]))) ls.length ⟨0,.full 0 [],.full 0 [],[],[],rfl,by omega,.none 6,.none 1,(St.start h).call f1⟩ ?_
 rintro n vs h2 ⟨j,v1,v2,E1,E2,rfl,hn,a1,a2,s2⟩
 have hl1:=BP stm Tb ls j
 have hl2:=BP x7 Qy ls j
 unfold tt
 (repeat refine aP ?_)
 refine ag (fun hb=>?_) (fun hb=>?_)<;>simp only[za,zb,zc,zd,ze,zf,zg,zh,zi,u8i,zj,zk,zl]at hb
 ·have hj:j<ls.length:=hb
  refine (RL h2).idx (fun _=>rfl) hj fun p t=>?_
  refine aE t ?_
  have e1:=Dx stm ls hj
  have e2:=Dx x7 ls hj
  have hx:=hsum _ (List.getElem_mem hj)
  refine Kl hF hI hA ls[j] (by omega) (fun ho h3 f3=>?_) (fun ho h3 f3=>?_) (fun rs ho h3 f3=>?_)
  ·have s3:=s2.call f3
   rw[stm,ho,List.append_nil]at e1
   rw[x7,ho]at e2
   (repeat refine ax rfl ?_)
   refine bk s3 fun q h4 s4=>?_
   refine aF s4 .head rfl rfl rfl (nle rfl) fun h5 s5=>?_
   have s5:=s5.drop1
   (repeat (first|refine dA ?_|refine aH (by omega) ?_|refine aG rfl rfl ?_))
   refine a2.app s5.swap (xs:=nE (j+1)) (m:=1) (Rd.full rfl) rfl (by omega) fun v' E' h6 a6 s6=>?_
   unfold ja oR o3
   refine aH (by omega) ?_
   exact⟨n-1,by omega,j+1,v1,v',E1,E',rfl,by omega,by rw[e1];exact a1,by rw[e2];simpa using a6,s6.swap⟩
  ·have s3:=s2.call f3
   rw[stm,ho,List.append_nil]at e1
   rw[x7,ho,List.append_nil]at e2
   (repeat refine ax rfl ?_)
   refine bk s3 fun q h4 s4=>?_
   refine aF s4 .head rfl rfl rfl (nle rfl) fun h5 s5=>?_
   (repeat (first|refine an ?_|refine dA ?_|refine cO ?_|refine aH (by omega) ?_|refine aj ‹_› (.head _) rfl ?_))
   have s6:=s5.drop1
   exact⟨n-1,by omega,j+1,v1,v2,E1,E2,rfl,by omega,by rw[e1];exact a1,by rw[e2];exact a2,s6⟩
  ·have s3:=s2.call f3
   rw[stm,ho]at e1
   rw[x7,ho,List.append_nil]at e2
   (repeat refine ax rfl ?_)
   refine bk s3 fun q h4 s4=>?_
   refine aF s4 .head rfl rfl rfl (nle rfl) fun h5 s5=>?_
   (repeat (first|refine an ?_|refine dA ?_|refine cO ?_|refine aH (by omega) ?_|refine aj ‹_› (.head _) rfl ?_))
   refine aF s5 .head rfl rfl rfl (nle rfl) fun h6 s6=>?_
   (repeat (first|refine aW ‹_› (.head _) (nle rfl) ?_|refine aG rfl rfl ?_))
   have s7:=s6.drop1
   refine a1.app s7 (xs:=smF (j+1,rs)) (m:=1) (Rd.full rfl) rfl (by omega) fun v' E' h8 a8 s8=>?_
   unfold ja oR o3
   refine aH (by omega) ?_
   exact⟨n-1,by omega,j+1,v',v2,E',E2,rfl,by omega,by rw[e1];simpa using a8,by rw[e2];exact a2,s8⟩
 ·have hj:j=ls.length:=by omega
  subst hj
  refine wl (by omega) (a1.rd s2) fun h3 f3=>?_
  have s3:=s2.call f3
  refine ww (by omega) (a2.rd s3.swap) fun h4 f4=>?_
  exact k h4 (s3.call f4).fr
end
end
section
abbrev KV:=List (List UInt8×Int)
def bp (k:List UInt8):KV→Option Int
 | []=>none
 | (a,v)::r=>if k=a then some v else bp k r
def nC (k:List UInt8) (v:Int):KV→KV
 | []=>[(k,v)]
 | (a,w)::r=>if k=a then (k,v)::r else (a,w)::nC k v r
def bK (kv:KV):List (List UInt8):=kv.map (·.1)
theorem vj {k:List UInt8}:∀ {kv:KV},bp k kv=none↔k∉bK kv
 | []=>by simp[bp,bK]
 | (a,v)::r=>by
   unfold bp
   by_cases h:k=a
   ·subst h;simp[bK]
   ·rw[if_neg h,vj (kv:=r)];simp[bK,h]
theorem DH {k:List UInt8}{v:Int}:∀ {kv:KV},(bK kv).Nodup→(bp k kv=some v↔(k,v)∈kv)
 | [],_=>by simp[bp]
 | (a,w)::r,nd=>by
   simp only[bK,List.map_cons,List.nodup_cons]at nd
   unfold bp
   by_cases h:k=a
   ·subst h
    rw[if_pos rfl]
    simp only[Option.some.injEq,List.mem_cons,Prod.mk.injEq,true_and]
    constructor
    ·intro h;exact .inl h.symm
    ·rintro (h|h)
     ·exact h.symm
     ·exact (nd.1 (List.mem_map.2 ⟨_,h,rfl⟩)).elim
   ·rw[if_neg h,DH (kv:=r) nd.2];simp[h]
theorem vB (k:List UInt8) (v:Int):∀ kv:KV,(bp k kv=none∧nC k v kv=kv++[(k,v)])∨∃ A w B,kv=A++(k,w)::B∧bp k kv=some w∧k∉bK A∧nC k v kv=A++(k,v)::B
 | []=>.inl ⟨rfl,rfl⟩
 | (a,w)::r=>by
   by_cases h:k=a
   ·subst h
    exact .inr ⟨[],w,r,rfl,by simp[bp],by simp[bK],by simp[nC]⟩
   ·rcases vB k v r with ⟨h1,h2⟩|⟨A,w',B,rfl,h1,h2,h3⟩
    ·exact .inl ⟨by rw[bp,if_neg h,h1],by rw[nC,if_neg h,h2];rfl⟩
    ·exact .inr ⟨(a,w)::A,w',B,rfl,by rw[bp,if_neg h,h1],by simp[bK,h]at h2 ⊢;exact h2,by rw[nC,if_neg h,h3];rfl⟩
theorem KL (k:List UInt8) (v:Int) (kv:KV):bK (nC k v kv)=if k∈bK kv then bK kv else bK kv++[k]:=by
 rcases vB k v kv with ⟨h1,h2⟩|⟨A,w,B,rfl,h1,h2,h3⟩
 ·rw[vj]at h1;rw[if_neg h1,h2];simp[bK]
 ·rw[h3,if_pos (by simp[bK])];simp[bK]
theorem nB {k:List UInt8}{v:Int}{kv:KV}(nd:(bK kv).Nodup):(bK (nC k v kv)).Nodup:=by
 rw[KL]
 split
 ·exact nd
 ·rename_i h
  rw[List.nodup_append]
  exact⟨nd,by simp,fun a ha b hb e=>by simp at hb;subst hb;subst e;exact h ha⟩
theorem k8 (k k':List UInt8) (v:Int):∀ kv:KV,bp k' (nC k v kv)=if k'=k then some v else bp k' kv
 | []=>by simp only[nC,bp]
 | (a,w)::r=>by
   unfold nC
   by_cases h:k=a
   ·subst h
    rw[if_pos rfl]
    by_cases h2:k'=k
    ·simp[bp,h2]
    ·simp[bp,h2]
   ·rw[if_neg h]
    by_cases h2:k'=a
    ·subst h2;simp[bp,Ne.symm h]
    ·simp[bp,h2,k8 k k' v r]
def dm:Nat→KV→ft
 | _,[]=>[]
 | n,(k,v)::r=>(.string ⟨⟨k⟩⟩,n,I v)::dm (n+1) r
abbrev bu (kv:KV):AObj:=.amap (dm 0 kv) kv.length
theorem ua:∀ (n:Nat) (kv:KV),(dm n kv).length=kv.length
 | _,[]=>rfl
 | n,(k,v)::r=>by simp[dm,ua]
theorem ya:∀ (n:Nat) (kv:KV) (j:Nat) (hj:j<kv.length),(dm n kv)[j]?=some (.string ⟨⟨kv[j].1⟩⟩,n+j,I kv[j].2)
 | n,[],j,hj=>by simp at hj
 | n,(k,v)::r,0,_=>by simp[dm]
 | n,(k,v)::r,j+1,hj=>by
   simp only[dm,List.getElem?_cons_succ]
   rw[ya (n+1) r j (by simpa using hj)]
   simp;omega
theorem qf:∀ (n:Nat) (kv:KV),(dm n kv).all (fun e=>kOk .string e.1)=true
 | _,[]=>rfl
 | n,(k,v)::r=>by rw[dm,List.all_cons,qf (n+1) r];rfl
theorem Db:∀ (n:Nat) (kv:KV),(dm n kv).all (fun e=>e.1.oneCell')=true
 | _,[]=>rfl
 | n,(k,v)::r=>by rw[dm,List.all_cons,Db (n+1) r];rfl
theorem qB:∀ (n:Nat) (a b:KV),dm n (a++b)=dm n a++dm (n+a.length) b
 | n,[],b=>by simp[dm]
 | n,(k,v)::r,b=>by
   simp only[List.cons_append,dm,qB (n+1) r b,List.length_cons]
   rw[show n+1+r.length=n+(r.length+1) by omega]
section
variable [Tabs]
theorem Sg (a b:List UInt8):keq (.string ⟨⟨a⟩⟩) (.string ⟨⟨b⟩⟩)=decide (a=b):=by
 rw[Bool.eq_iff_iff,decide_eq_true_eq]
 constructor
 ·intro h
  have:=Qt (d:=.string) (a:=.string ⟨⟨a⟩⟩) (b:=.string ⟨⟨b⟩⟩) rfl rfl h
  injection this with h;injection h with h;injection h
 ·rintro rfl
  obtain⟨r,h1,h2⟩:=Go.MapKept.sameNow_of_keys (a:=.string ⟨⟨a⟩⟩) (b:=.string ⟨⟨a⟩⟩) (d:=.string) (fF rfl) (fF rfl)
  rw[AH rfl rfl]at h1
  cases h1
  exact h2.2 rfl
theorem lV (k:List UInt8):∀ (n i:Nat) (kv:KV),(nA (.string ⟨⟨k⟩⟩) (dm n kv) i=none∧bp k kv=none)∨∃ j,∃ hj:j<kv.length,nA (.string ⟨⟨k⟩⟩) (dm n kv) i=some (i+j,n+j,I kv[j].2)∧kv[j].1=k∧bp k kv=some kv[j].2∧∀ q (hq:q<j),(kv[q]'(by omega)).1≠k
 | n,i,[]=>.inl ⟨rfl,rfl⟩
 | n,i,(a,v)::r=>by
   unfold dm nA
   rw[Sg]
   by_cases h:k=a
   ·subst h
    exact .inr ⟨0,by simp,by simp,rfl,by simp[bp],fun q hq=>by omega⟩
   ·rw[if_neg (by simpa using h)]
    rcases lV k (n+1) (i+1) r with ⟨h1,h2⟩|⟨j,hj,h1,h2,h3,h4⟩
    ·exact .inl ⟨h1,by rw[bp,if_neg h,h2]⟩
    ·refine .inr ⟨j+1,by simpa using hj,?_,by simpa using h2,by rw[bp,if_neg h,h3];simp,fun q hq=>?_⟩
     ·rw[h1];simp;omega
     ·cases q with
      | zero=>simpa using Ne.symm h
      | succ q=>simpa using h4 q (by omega)
theorem DS:∀ (n:Nat) (kv:KV) (j:Nat) (k:List UInt8) (v:Int),j<kv.length→(dm n kv).set j (.string ⟨⟨k⟩⟩,n+j,I v)=dm n (kv.set j (k,v))
 | n,[],j,k,v,h=>by simp at h
 | n,(a,w)::r,0,k,v,h=>by simp[dm]
 | n,(a,w)::r,j+1,k,v,h=>by
   simp only[dm,List.set_cons_succ]
   rw[← DS (n+1) r j k v (by simpa using h)]
   rw[show n+1+j=n+(j+1) by omega]
theorem HK (k:List UInt8) (v:Int):∀ (kv:KV) (j:Nat) (hj:j<kv.length),kv[j].1=k→(∀ q (hq:q<j),(kv[q]'(by omega)).1≠k)→nC k v kv=kv.set j (k,v)
 | [],j,hj,_,_=>by simp at hj
 | (a,w)::r,0,hj,h1,_=>by
   simp at h1;subst h1;simp[nC]
 | (a,w)::r,j+1,hj,h1,h2=>by
   have ha:k≠a:=fun e=>h2 0 (by omega) (by simpa using e.symm)
   rw[nC,if_neg ha,List.set_cons_succ,HK k v r j (by simpa using hj) (by simpa using h1) fun q hq=>by simpa using h2 (q+1) (by omega)]
theorem C9 {k:List UInt8}{v:Int}{kv:KV}(h:bp k kv=none):nC k v kv=kv++[(k,v)]:=by
 rcases vB k v kv with ⟨_,h2⟩|⟨A,w,B,_,h1,_,_⟩
 ·exact h2
 ·rw[h]at h1;cases h1
theorem Nu (k:List UInt8) (v:Int) (kv:KV):Oe (.string ⟨⟨k⟩⟩) (I v) kv.length (dm 0 kv)=bu (nC k v kv):=by
 unfold Oe
 rcases lV k 0 0 kv with ⟨h1,h2⟩|⟨j,hj,h1,h2,h3,h4⟩
 ·rw[h1,C9 h2]
  simp[qB,dm]
 ·rw[h1,HK k v kv j hj h2 h4]
  simp only[Nat.zero_add]
  have:=DS 0 kv j k v hj
  rw[Nat.zero_add]at this
  rw[this];simp
end
section
variable [Tabs]
variable {h0 h:ab}{M:List Nat}{L L':Own}{K:AV→Prop}{KH:QT}{KS:ab→Prop}
theorem MX {j:Nat}{kv:KV}{k:Str}(e:h[j]?=some (bu kv)) (q:K (.tup [I ((bp k kv).getD 0),B (bp k kv).isSome])):hY .string true (I 0) (.map j) (T k) h K:=⟨by
 simp only[ie,e]
 rw[if_pos (by rw[qf];rfl)]
 rcases lV k 0 0 kv with ⟨h1,h2⟩|⟨j,hj,h1,h2,h3,h4⟩
 ·rw[h1];rw[h2]at q;exact q
 ·rw[h1];rw[h3]at q;exact q⟩
theorem KQ {j:Nat}{kv:KV}{k:Str}(e:h[j]?=some (bu kv)) (q:K (I ((bp k kv).getD 0))):hY .string false (I 0) (.map j) (T k) h K:=⟨by
 simp only[ie,e]
 rw[if_pos (by rw[qf];rfl)]
 rcases lV k 0 0 kv with ⟨h1,h2⟩|⟨j,hj,h1,h2,h3,h4⟩
 ·rw[h1];rw[h2]at q;exact q
 ·rw[h1];rw[h3]at q;exact q⟩
theorem pU {j:Nat}{kv:KV}{k:Str}{v:Int}(s:St h0 M h L) (u:Sub L (j,true,bu kv) L' (j,true,bu (nC k v kv))) (q:∀ h',St h0 M h' L'→KS h'):d3 .string (.map j) (T k) (I v) h KS:=⟨by
 simp only[ga,s.get u.mem]
 rw[if_pos (by rw[qf];rfl),Nu]
 exact q _ (s.turn u)⟩
theorem N4 {j:Nat}{kv:KV}{k:Str}{v:Int}(s:St h0 M h L) (hn:bp k kv=none) (u:Sub L (j,true,bu kv) L' (j,true,bu (nC k v kv))) (q:∀ h',St h0 M h' L'→KS h'):
  m1 .string (I 0) (.map j) (T k) h fun t131 h18=>am 1 t131 fun t132=>jD (.map j) t132 (I v) h18 fun h19=>KS h19:=⟨by
 simp only[ik,s.get u.mem]
 rw[if_pos (by rw[qf];rfl)]
 rcases lV k 0 0 kv with ⟨h1,_⟩|⟨j,hj,_,_,h3,_⟩
 ·rw[h1]
  refine ax rfl ⟨?_⟩
  have hj:=hQ (s.get u.mem)
  simp only[fb,List.getElem?_set_self hj]
  have hb:∀ (n i:Nat) (kv:KV) (m:Nat),m=n+kv.length→qS (m:Int) (dm n kv++[(.string ⟨⟨k⟩⟩,m,I 0)]) i=some (i+kv.length,.string ⟨⟨k⟩⟩,m):=by
   intro n i kv
   induction kv generalizing n i with
   | nil=>intro m hm;simp[dm,qS]
   | cons x r ih=>
     intro m hm
     simp only[dm,List.cons_append,qS]
     rw[if_neg (by simp at hm ⊢;omega),ih (n+1) (i+1) m (by simp at hm;omega)]
     simp;omega
  rw[hb 0 0 kv kv.length (by omega)]
  simp only[Nat.zero_add,List.set_set]
  have e1:(dm 0 kv++[(Value.string ⟨⟨k⟩⟩,kv.length,I 0)]).set kv.length (.string ⟨⟨k⟩⟩,kv.length,I v)=dm 0 (kv++[(k,v)]):=by
   rw[List.set_append_right _ _ (by rw[ua];omega),qB,ua];simp[dm]
  rw[e1]
  have e2:AObj.amap (dm 0 (kv++[(k,v)])) (kv.length+1)=bu (nC k v kv):=by rw[C9 hn];simp
  rw[e2]
  exact q _ (s.turn u)
 ·rw[hn]at h3;cases h3⟩
abbrev D3 (j:Nat) (kv:KV) (seen:List Nat):AObj:=.miter (some j) kv.length seen kv.length
theorem Ee {j:Nat}{kv:KV}(s:St h0 M h L) (e:h[j]?=some (bu kv)) (k:∀ i h',St h0 M h' ((i,true,D3 j kv [])::L)→KH (.ptr i 0) h'):qT (.map j) h KH:=⟨by
 simp only[mQ,e]
 exact k _ _ (s.push _)⟩
theorem HC {j i:Nat}{kv:KV}{seen:List Nat}(s:St h0 M h ((i,true,D3 j kv seen)::L)) (e:h[j]?=some (bu kv)) (k0:(∀ q,q<kv.length→q∈seen)→KH (.tup [B false]) h)
  (k1:∀ q (hq:q<kv.length),q∉seen→∀ h',St h0 M h' ((i,true,D3 j kv (seen++[q]))::L)→KH (.tup [B true,T kv[q].1,I kv[q].2]) h'):vm (.ptr i 0) h KH:=⟨by
 have hm:∀ x∈dm 0 kv,∃ q,∃ hq:q<kv.length,x=(.string ⟨⟨kv[q].1⟩⟩,q,I kv[q].2):=by
  intro x hx
  obtain⟨q,hq⟩:=List.getElem?_of_mem hx
  have hlt:q<kv.length:=by rw[← ua 0 kv];exact (List.getElem?_eq_some_iff.1 hq).1
  rw[ya 0 kv q hlt,Nat.zero_add]at hq
  exact⟨q,hlt,by cases hq;rfl⟩
 have hin:∀ q (hq:q<kv.length),(Value.string ⟨⟨kv[q].1⟩⟩,q,I kv[q].2)∈dm 0 kv:=fun q hq=>by
  have:=ya 0 kv q hq
  rw[Nat.zero_add]at this
  exact List.mem_of_getElem? this
 simp only[q8,s.get (.head _),e]
 refine⟨⟨Db 0 kv,?_⟩,fun hall=>k0 fun q hq=>?_,fun x hx hn=>?_⟩
 ·cases kv with
  | nil=>simp[dm]
  | cons x r=>simp[dm]
 ·rcases hall _ (hin q hq) with h|h
  ·exact h
  ·simp at h;omega
 ·obtain⟨q,hq,rfl⟩:=hm x hx
  exact k1 q hq hn _ (s.turn .head)⟩
theorem De {j i:Nat}{b:Bool}{kv:KV}{seen:List Nat}{q:Nat}(s:St h0 M h L) (u:(i,b,D3 j kv (seen++[q]))∈L) (e:h[j]?=some (bu kv)) (hq:q<kv.length) (k:K (.tup [T kv[q].1,I kv[q].2])):vn (.ptr i 0) h K:=⟨by
 have hb:∀ (n:Nat) (kv:KV) (q:Nat) (hq:q<kv.length),lZ (n+q) (dm n kv)=some (.string ⟨⟨kv[q].1⟩⟩,I kv[q].2):=by
  intro n kv
  induction kv generalizing n with
  | nil=>intro q hq;simp at hq
  | cons x r ih=>
    intro q hq
    simp only[dm,lZ]
    cases q with
    | zero=>simp
    | succ q=>
      rw[if_neg (by simp)]
      have:=ih (n+1) q (by simpa using hq)
      rw[show n+1+q=n+(q+1) by omega]at this
      simpa using this
 simp only[mh,s.get u,e,List.getLast?_concat]
 have:=hb 0 kv q hq
 rw[Nat.zero_add]at this
 rw[this]
 simp only
 rw[if_pos (by simp[Value.oneCell'])]
 exact k⟩
end
end
section
def aX (here:Int) (look:Str→Option Int):Ex→Ev
 | .none=>(0,6)
 | .num n=>dn n
 | .name s=>match look s with
   | some y=>dn y
   | none=>(0,4)
 | .here=>dn here
 | .neg e=>if (aX here look e).2≠0 then (0,(aX here look e).2) else dn (-(aX here look e).1)
 | .bin k a b=>if (aX here look a).2≠0 then (0,(aX here look a).2) else if (aX here look b).2≠0 then (0,(aX here look b).2) else wJ k (aX here look a).1 (aX here look b).1
theorem Pp {o:List Str}{n x:Str}:x∈rL o n↔x∈o∨x=n:=by
 unfold rL
 split
 ·rename_i h
  simp only[List.any_eq_true,decide_eq_true_eq,exists_eq_right']at h
  constructor
  ·exact .inl
  ·rintro (h1|rfl)
   ·exact h1
   ·exact h
 ·simp
theorem xQ {x:Str}:∀ {l o:List Str},x∈l.foldl rL o↔x∈o∨x∈l
 | [],o=>by simp
 | n::l,o=>by rw[List.foldl_cons,xQ (l:=l),Pp];simp[or_assoc]
def inE (x:Str):Ex→Prop
 | .name s=>x=s
 | .neg e=>inE x e
 | .bin _ a b=>inE x a∨inE x b
 | _=>False
theorem mem_names {x:Str}:∀ {e:Ex},x∈bQ e↔inE x e
 | .none=>by simp[bQ,inE]
 | .num _=>by simp[bQ,inE]
 | .here=>by simp[bQ,inE]
 | .name s=>by simp[bQ,inE]
 | .neg e=>by simp only[bQ,xQ,inE,mem_names (e:=e)];simp
 | .bin k a b=>by simp only[bQ,xQ,inE,mem_names (e:=a),mem_names (e:=b)];simp
theorem zI {here:Int}{syms:List Sy}{look:Str→Option Int}:∀ {e:Ex},(∀ s,inE s e→(syms.find? fun y=>decide (y.1=s)).map (·.2)=look s)→gI here syms e=aX here look e
 | .none,_=>rfl
 | .num _,_=>rfl
 | .here,_=>rfl
 | .name s,h=>by
   unfold gI aX
   rw[← h s rfl]
   cases syms.find? fun y=>decide (y.1=s)<;>rfl
 | .neg e,h=>by unfold gI aX;rw[zI (e:=e) fun s hs=>h s hs]
 | .bin k a b,h=>by unfold gI aX;rw[zI (e:=a) fun s hs=>h s (.inl hs),zI (e:=b) fun s hs=>h s (.inr hs)]
def rE (look:Str→Option Int) (l:List Str):List Sy:=l.filterMap fun n=>(look n).map fun v=>(n,v)
theorem A2 (look:Str→Option Int) (s:Str):∀ l:List Str,s∈l→((rE look l).find? fun y=>decide (y.1=s)).map (·.2)=look s
 | [],h=>by simp at h
 | n::l,h=>by
   unfold rE
   rw[List.filterMap_cons]
   by_cases hs:n=s
   ·subst hs
    cases hl:look n with
    | some v=>simp
    | none=>
      simp only[Option.map_none]
      have hn:∀ y∈l.filterMap fun n=>(look n).map fun v=>(n,v),¬ (decide (y.1=n)=true):=by
       intro y hy hd
       rw[List.mem_filterMap]at hy
       obtain⟨m,_,hm⟩:=hy
       cases hlm:look m with
       | none=>rw[hlm]at hm;cases hm
       | some w=>rw[hlm]at hm;cases hm;simp at hd;subst hd;rw[hl]at hlm;cases hlm
      rw[List.find?_eq_none.2 hn];rfl
   ·have hm:s∈l:=by simpa [Ne.symm hs] using h
    have ih:=A2 look s l hm
    unfold rE at ih
    cases hl:look n with
    | none=>simpa using ih
    | some v=>simp only[Option.map_some];rw[List.find?_cons_of_neg (by simpa using hs)];exact ih
theorem Dq (look:Str→Option Int) (l:List Str):(rE look l).length≤l.length:=List.length_filterMap_le _ _
theorem J0 (look:Str→Option Int) (l:List Str) {j:Nat}(h:j<l.length):rE look (l.take (j+1))=rE look (l.take j)++(match look l[j] with|some v=>[(l[j],v)]|none=>[]):=by
 unfold rE
 rw[List.take_succ_eq_append_getElem h,List.filterMap_append]
 congr 1
 cases hl:look l[j]<;>simp[hl]
section
variable [Tabs]
def MapAt (h:ab) (j:Nat) (f:Str→Option Int):Prop:=∃ kv,h[j]?=some (bu kv)∧(bK kv).Nodup∧∀ k,bp k kv=f k
theorem MapAt.fr {h h':ab}{j:Nat}{f:Str→Option Int}(m:MapAt h j f) (g:Fr [] h h'):MapAt h' j f:=by
 obtain⟨kv,h1,h2⟩:=m
 exact⟨kv,g.get h1 (by simp),h2⟩
variable {h:ab}{Q:QT}{K:AV→Prop}
theorem MapAt.look {j:Nat}{f:Str→Option Int}(m:MapAt h j f) {k:Str}(q:K (.tup [I ((f k).getD 0),B (f k).isSome])):hY .string true (I 0) (.map j) (T k) h K:=by
 obtain⟨kv,h1,_,h2⟩:=m
 exact MX h1 (by rw[h2];exact q)
theorem MapAt.look0 {j:Nat}{f:Str→Option Int}(m:MapAt h j f) {k:Str}(q:K (I ((f k).getD 0))):hY .string false (I 0) (.map j) (T k) h K:=by
 obtain⟨kv,h1,_,h2⟩:=m
 exact KQ h1 (by rw[h2];exact q)
theorem nr {e:Ex}(ho:okE e) (hz:iw e<1000000) (here:Int) {j:Nat}{f:Str→Option Int}(m:MapAt h j f) (k:∀ h',Fr [] h h'→Q (evV (aX here f e)) h'):C eX [.agg (cY e),I here,.map j] h Q:=by
 refine Hh _ _ _ _ _ ?_
 unfold H1
 refine dF (St.start h) rfl fun i h1 s1=>?_
 have s1:St h [] h1 [(i,true,.cells (cY e))]:=s1
 refine bd s1 (ay _) (.head _) ?_
 refine BW (iw e) e ho (Nat.le_refl _) (by omega) h1 _ fun h2 f2=>?_
 have s2:=s1.call f2
 have hnl:=jo e
 have RN2:∀ h,Row sE 1 h (.snap (bQ e).length ((bQ e).flatMap sE)) (bQ e):=fun h=>Row.snap (enc:=sE) (fun _=>rfl) _
 have hkn:gI here (rE f (bQ e)) e=aX here f e:=zI fun s hs=>A2 f s _ (mem_names.2 hs)
 generalize bQ e=ns at RN2 hnl hkn ⊢
 (repeat refine dy ?_)
 refine aR (fun n vs h'=>∃ (q:Nat) (v:AV) (E:Own),vs=[v,I (q:Nat)]∧n+q=ns.length∧AccE 2 v (rE f (ns.take q)).length ((rE f (ns.take q)).flatMap syE) E∧St h [] h' (E++[(i,true,.cells (cY e))])) ns.length ⟨0,.full 0 [],[],rfl,by omega,.none 2,s2⟩ ?_
 rintro n vs h3 ⟨q,v,E,rfl,hn,a,s3⟩
 have hle:=Dq f (ns.take q)
 rw[List.length_take]at hle
 unfold yy
 (repeat refine aP ?_)
 refine ag (fun hb=>?_) (fun hb=>?_)<;>simp only[za,zb,zc,zd,ze,zf,zg,zh,zi,u8i,zj,zk,zl]at hb
 ·have hq:q<ns.length:=hb
  refine (RN2 h3).idx (fun _=>rfl) hq fun p t=>?_
  refine aE t ?_
  refine (m.fr s3.fr).look ?_
  (repeat refine ax rfl ?_)
  have hs:=J0 f ns hq
  cases hf:f ns[q] with
  | none=>
    rw[hf,List.append_nil]at hs
    refine ag (fun h=>by cases h) (fun _=>?_)
    unfold ot sU
    refine aH (by omega) ?_
    exact⟨n-1,by omega,q+1,v,E,rfl,by omega,by rw[hs];exact a,s3⟩
  | some y=>
    rw[hf]at hs
    refine ag (fun _=>?_) (fun h=>by cases h)
    (repeat (first|refine aO rfl ?_|refine aG rfl rfl ?_))
    refine a.app s3 (xs:=syE (ns[q],y)) (m:=1) (Rd.full rfl) rfl (by omega) fun v3 E3 h8 a3 s8=>?_
    unfold ot sU
    refine aH (by omega) ?_
    exact⟨n-1,by omega,q+1,v3,E3,rfl,by omega,by rw[hs];simpa using a3,s8⟩
 ·rw[List.take_of_length_le (by omega)]at a
  refine bd (a.rest s3) (ay _) (.head _) ?_
  have hl2:=Dq f ns
  refine z8 here (rE f ns) (by omega) e ho h3 _ (a.rd s3) fun h4 f4=>?_
  have s4:=s3.call f4
  rw[hkn]
  (repeat refine ax rfl ?_)
  exact k h4 s4.fr
def mu:Ex→Bool
 | .here=>true
 | .neg e=>mu e
 | .bin _ a b=>mu a||mu b
 | _=>false
theorem R5:∀ (e:Ex),okE e→∀ (h:ab) (Q:QT),(∀ h',Fr [] h h'→Q (B (mu e)) h')→C em [.agg (cY e)] h Q:=by
 have hind:∀ n (e:Ex),iw e≤n→okE e→∀ (h:ab) (Q:QT),(∀ h',Fr [] h h'→Q (B (mu e)) h')→C em [.agg (cY e)] h Q:=by
  intro n
  induction n with
  | zero=>intro e he;cases e<;>simp[iw]at he
  | succ n ih=>
    intro e he ho h Q k
    refine Hp _ _ _ ?_
    unfold Ia
    refine dF (St.start h) rfl fun i h1 s1=>?_
    have s1:St h [] h1 [(i,true,.cells (cY e))]:=s1
    have hcl:(dz e).length≤2:=by cases e<;>simp[dz]
    have rest:mu e=(dz e).any mu→C bF [((cY e)[3]'(by rw[ay];omega)),(.fn (.func em) [] [])] h1 Q:=fun he2=>by
     refine pu ay _ mu (dz e) (by omega) (Br e h1) (fun x hx h' Q f' k'=>?_) fun h2 f2=>?_
     ·show ACall Pg em _ _ _
      have:=w5 hx
      exact ih x (by omega) (AY ho hx) h' Q k'
     ·rw[← he2];exact k h2 (s1.call f2).fr
    cases e with
    | here=>
      refine an (aj s1 (.head _) rfl (aB (ag (fun _=>?_) (fun h=>absurd h (by decide)))))
      exact k h1 s1.fr
    | none=>
      refine an (aj s1 (.head _) rfl (aB (ag (fun h=>absurd h (by decide)) (fun _=>?_))))
      exact an (aj s1 (.head _) rfl (rest rfl))
    | num m=>
      refine an (aj s1 (.head _) rfl (aB (ag (fun h=>absurd h (by decide)) (fun _=>?_))))
      exact an (aj s1 (.head _) rfl (rest rfl))
    | name s=>
      refine an (aj s1 (.head _) rfl (aB (ag (fun h=>absurd h (by decide)) (fun _=>?_))))
      exact an (aj s1 (.head _) rfl (rest rfl))
    | neg e=>
      refine an (aj s1 (.head _) rfl (aB (ag (fun h=>absurd h (by decide)) (fun _=>?_))))
      exact an (aj s1 (.head _) rfl (rest (by simp[mu,dz])))
    | bin k a b=>
      have hk2:=ho.1
      refine an (aj s1 (.head _) rfl (aB (ag (fun h=>absurd h (by simp;omega)) (fun _=>?_))))
      exact an (aj s1 (.head _) rfl (rest (by simp[mu,dz])))
 exact fun e=>hind _ e (Nat.le_refl _)
end
end
section
structure En where
 frag:Str
 x:Sm
 place:Int
 grown:Bool
def enE (e:En):List AV:=[T e.frag,I (e.x.1:Nat),T e.x.2.lab,I (e.x.2.kind:Nat),I (e.x.2.op:Nat),T e.x.2.text,.snap e.x.2.args.length (e.x.2.args.flatMap arE),I e.place,B e.grown]
abbrev iE (v:Int):List AV:=[I v]
def pQ (e:En):Ar:=e.x.2.args.getLast?.getD ⟨-1,.none⟩
abbrev bm (e:En):Ex:=(pQ e).e
abbrev Rt (n:Nat):Str:=([[115,101,95,98],[115,101,95,98,108],[115,101,95,98,99]][n]?).getD []
abbrev RN (n:Nat):Str:=([[101,95,98],[101,95,98,108],[101,95,98,99]][n]?).getD []
def fD (n:Nat):Nat:=(k9 (Rt n)).getD 0
def lr (n:Nat):Nat:=(k9 (RN n)).getD 0
def bt (e:En):Nat:=if e.x.2.kind=1 then e.x.2.op else if e.grown then lr e.x.2.op else fD e.x.2.op
structure WfS (x:RS):Prop where
 inst:x.kind=1→x.op<tbl.length∧(cS (aZ x.op)).length≤x.args.length
 grow:x.kind=2→x.op<3∧(cS (aZ (fD x.op))).length≤x.args.length∧(cS (aZ (lr x.op))).length≤x.args.length
 data:3≤x.kind→x.kind≠6→x.args≠[]
 kind:x.kind≤9
 args:x.args.length<1000000000
 text:x.text.length<1000000000
 arg:∀ a∈x.args,okE a.e∧iw a.e<1000000∧a.reg<1000
theorem Qk {e:En}(w:WfS e.x.2) (hk:e.x.2.kind=1∨e.x.2.kind=2):bt e<tbl.length∧(cS (aZ (bt e))).length≤e.x.2.args.length:=by
 unfold bt
 rcases hk with hk|hk
 ·rw[if_pos hk];exact w.inst hk
 ·rw[if_neg (by omega)]
  obtain⟨h1,h2,h3⟩:=w.grow hk
  have hs:∀ n,n<3→lr n<tbl.length∧fD n<tbl.length:=by decide
  split
  ·exact⟨(hs _ h1).1,h3⟩
  ·exact⟨(hs _ h1).2,h2⟩
theorem tZ {e:En}(w:WfS e.x.2) (h:e.x.2.args≠[]):okE (bm e)∧iw (bm e)<1000000:=by
 have hl:pQ e∈e.x.2.args:=by
  unfold pQ
  rw[List.getLast?_eq_some_getLast h]
  exact List.getLast_mem h
 exact⟨(w.arg _ hl).1,(w.arg _ hl).2.1⟩
section
variable [Tabs]
variable {h:ab}{Q:QT}{K:AV→Prop}
theorem IB (e:En) (h:ab):Row arE 5 h (.snap e.x.2.args.length (e.x.2.args.flatMap arE)) e.x.2.args:=Row.snap lB _
theorem un {e:En}{p:Nat}(hp:h[p]?=some (.cells (enE e))) (w:WfS e.x.2) (hn:e.x.2.args≠[]) (k:∀ h',Fr [] h h'→Q (.agg (cY (bm e))) h'):C bo [.ptr p 0] h Q:=by
 refine wr _ _ _ ?_
 unfold rQ
 refine bk (St.startr hp) fun i h1 s1=>?_
 unfold enE at s1
 have hl:0<e.x.2.args.length:=List.length_pos_iff.2 hn
 have hal:=w.args
 (repeat (first|refine aq ?_|refine an ?_|refine dy ?_|refine dD (by omega) ?_|refine aj ‹_› (by first|exact .head _|exact .tail _ (.head _)) rfl ?_))
 rw[show ((e.x.2.args.length:Nat):Int)-1=((e.x.2.args.length-1:Nat):Int) by omega]
 refine (IB e h1).idx lB (by omega) fun q t=>?_
 refine Fy t (by rw[lB];omega) fun q2 t2=>?_
 have ha:(arE (e.x.2.args[e.x.2.args.length-1]'(by omega))).drop 1=cY (bm e):=by
  unfold bm pQ
  rw[List.getLast?_eq_getElem?,List.getElem?_eq_getElem (by omega)];rfl
 rw[ha]at t2
 refine cb t2 (ay _).symm ?_
 refine bl s1 rfl (ay _) (bW _) .head fun h5 s5=>?_
 refine bd s5 (ay _) (.head _) ?_
 exact k h5 s5.fr
theorem Ty (s:Str) (k:∀ h',Fr [] h h'→Q (I (((k9 s).getD 0:Nat):Int)) h'):C ue [T s] h Q:=by
 refine MZ _ _ _ ?_
 unfold Rx
 refine Mt s fun h1 f1=>?_
 (repeat refine ax rfl ?_)
 exact k h1 f1
theorem Ic {n:Nat}(hn:n<3) (k:∀ h',Fr [] h h'→Q (I (fD n:Nat)) h'):C mW [I (n:Nat)] h Q:=by
 refine FY _ _ _ ?_
 unfold Eb
 (repeat refine aG rfl rfl ?_)
 refine (Row.full (h:=h) (enc:=sE) (fun _=>rfl) [[115,101,95,98],[115,101,95,98,108],[115,101,95,98,99]]).idx (fun _=>rfl) hn fun q t=>?_
 refine aE t ?_
 refine Ty _ fun h1 f1=>?_
 have:=k h1 f1
 unfold fD Rt at this
 rw[List.getElem?_eq_getElem (by simpa using hn)]at this
 exact this
theorem PI {n:Nat}(hn:n<3) (k:∀ h',Fr [] h h'→Q (I (lr n:Nat)) h'):C qH [I (n:Nat)] h Q:=by
 refine F6 _ _ _ ?_
 unfold DC
 (repeat refine aG rfl rfl ?_)
 refine (Row.full (h:=h) (enc:=sE) (fun _=>rfl) [[101,95,98],[101,95,98,108],[101,95,98,99]]).idx (fun _=>rfl) hn fun q t=>?_
 refine aE t ?_
 refine Ty _ fun h1 f1=>?_
 have:=k h1 f1
 unfold lr RN at this
 rw[List.getElem?_eq_getElem (by simpa using hn)]at this
 exact this
theorem Sb {e:En}{p:Nat}(hp:h[p]?=some (.cells (enE e))) (w:WfS e.x.2) (hk:e.x.2.kind=1∨e.x.2.kind=2) (k:∀ h',Fr [] h h'→Q (.agg [I (bt e:Nat),.full 0 []]) h'):C kC [.ptr p 0] h Q:=by
 refine wE _ _ _ ?_
 unfold tu
 refine bk (St.startr hp) fun i h1 s1=>?_
 unfold enE at s1
 unfold bt at k
 (repeat (first|refine aq ?_|refine an ?_|refine aB ?_|refine aj ‹_› (by first|exact .head _|exact .tail _ (.head _)) rfl ?_))
 refine ag (fun hb=>?_) (fun hb=>?_)<;>simp only[za,zb,zc,zd,ze,zf,zg,zh,zi,u8i,zj,zk,zl]at hb
 ·rw[if_pos (by omega)]at k
  (repeat (first|refine aq ?_|refine an ?_|refine aj ‹_› (by first|exact .head _|exact .tail _ (.head _)) rfl ?_|refine aW ‹_› (.head _) (nle rfl) ?_|refine aO rfl ?_|refine aF ‹_› .head rfl rfl rfl (nle rfl) fun _ _=>?_))
  exact k _ (by assumption:St h _ _ _).fr
 ·have hk:e.x.2.kind=2:=by omega
  rw[if_neg (by omega)]at k
  have ho:=(w.grow hk).1
  (repeat (first|refine aq ?_|refine an ?_|refine aj ‹_› (by first|exact .head _|exact .tail _ (.head _)) rfl ?_))
  cases hg:e.grown with
  | true=>
    rw[hg]at k
    refine ag (fun _=>?_) (fun h=>by cases h)
    (repeat (first|refine aq ?_|refine an ?_|refine aj ‹_› (by first|exact .head _|exact .tail _ (.head _)) rfl ?_))
    refine PI ho fun h2 f2=>?_
    have s2:=s1.call f2
    (repeat (first|refine aW ‹_› (.head _) (nle rfl) ?_|refine aO rfl ?_|refine aF ‹_› .head rfl rfl rfl (nle rfl) fun _ _=>?_))
    exact k _ (by assumption:St h _ _ _).fr
  | false=>
    rw[hg]at k
    refine ag (fun h=>by cases h) (fun _=>?_)
    (repeat (first|refine aq ?_|refine an ?_|refine aj ‹_› (by first|exact .head _|exact .tail _ (.head _)) rfl ?_))
    refine Ic ho fun h2 f2=>?_
    have s2:=s1.call f2
    (repeat (first|refine aW ‹_› (.head _) (nle rfl) ?_|refine aO rfl ?_|refine aF ‹_› .head rfl rfl rfl (nle rfl) fun _ _=>?_))
    exact k _ (by assumption:St h _ _ _).fr
def nL (place:Int) (k:Str) (v:Int):Int:=if k.head?=some 84 then v-place else v
def dx (place:Int) (ks:List Str) (vs:List Int):List Int:=List.zipWith (nL place) ks vs
theorem Aq {place:Int}:∀ {ks:List Str}{vs:List Int}{q:Nat}(h1:q<ks.length) (h2:q<vs.length),dx place (ks.take (q+1)) vs=dx place (ks.take q) vs++[nL place ks[q] vs[q]]
 | [],_,q,h1,_=>by simp at h1
 | _::_,[],q,_,h2=>by simp at h2
 | k::ks,v::vs,0,_,_=>by simp[dx]
 | k::ks,v::vs,q+1,h1,h2=>by
   have:=Aq (place:=place) (ks:=ks) (vs:=vs) (q:=q) (by simpa using h1) (by simpa using h2)
   simp only[dx,List.take_succ_cons,List.zipWith_cons_cons,List.cons_append,List.getElem_cons_succ]at this ⊢
   rw[this]
end
theorem Pj:∀ r∈tbl,∀ k∈cS r.kinds,k≠[]:=by decide
theorem OD:∀ r∈tbl,(cS r.kinds).length<10:=by decide
section
variable [Tabs]
variable {h:ab}{Q:QT}{K:AV→Prop}
variable {M:List Nat}{h0:ab}{L L':Own}{KS:ab→Prop}
structure UY (v:AV):Prop where
 tup:v.isTup=false
 cells:v.cells=[v]
 one:v.one=true
theorem AccE.v1 {sz n:Nat}{v:AV}{cs:List AV}{E:Own}(a:AccE sz v n cs E):UY v:=by
 rcases a with ⟨_,_,rfl,_⟩|⟨_,j,rfl,_⟩<;>exact⟨rfl,rfl,rfl⟩
theorem xJ {i o:Nat}{cs:List AV}{v:AV}(hv:UY v) (s:St h0 M h L) (e:Sub L (i,true,.cells cs) L' (i,true,.cells (splice cs o [v]))) (e4:o+1≤cs.length) (q:∀ h',St h0 M h' L'→KS h'):aw 1 (.ptr i o) v h KS:=
 aF s (by rw[hv.cells];exact e) hv.tup (by rw[hv.cells];rfl) (by rw[hv.cells];simp[hv.one]) e4 q
theorem LD (hF:ct) {e:En}{p:Nat}(hp:h[p]?=some (.cells (enE e))) (w:WfS e.x.2) (hk:e.x.2.kind=1∨e.x.2.kind=2) (vs:List Int) (hv:vs.length=e.x.2.args.length) (hb:∀ v∈vs,-4503599627370496≤v-e.place∧v-e.place≤4503599627370496)
  {fv:AV} (r:Row iE 1 h fv vs)
  (k:∀ v E h',AccE 1 v (dx e.place (cS (aZ (bt e))) vs).length ((dx e.place (cS (aZ (bt e))) vs).flatMap iE) E→St h [] h' E→Q (.agg [I (bt e:Nat),v]) h'):C gA [.ptr p 0,fv] h Q:=by
 obtain⟨ho,hlen⟩:=Qk w hk
 refine wu _ _ _ _ ?_
 unfold tR
 refine bk (St.start h) fun i0 h1 s1=>?_
 refine Sb (s1.fr.get hp (by simp)) w hk fun h2 f2=>?_
 have s2:=s1.call f2
 refine bk s2 fun i1 h3 s3=>?_
 (repeat (first|refine an ?_|refine aj ‹_› (.head _) rfl ?_|refine aF ‹_› .head rfl rfl rfl (nle rfl) fun _ _=>?_))
 rename_i h4 s4
 refine II ho fun h5 f5=>?_
 have s5:=s4.call f5
 have hmem:tbl[bt e]∈tbl:=List.getElem_mem ho
 rw[g9 ho]at k hlen ⊢
 refine yj hF hmem ?_
 have hne:=Pj _ hmem
 have hfew:=OD _ hmem
 have RK:∀ h,Row sE 1 h (.snap (cS tbl[bt e].kinds).length ((cS tbl[bt e].kinds).flatMap fun x=>[T x])) (cS tbl[bt e].kinds):=fun h=>Row.snap (enc:=sE) (fun _=>rfl) _
 generalize cS tbl[bt e].kinds=ks at k hlen hne hfew RK ⊢
 (repeat refine dy ?_)
 refine aR (fun n vs' h'=>∃ (q:Nat) (v:AV) (E:Own),vs'=[I (q:Nat)]∧n+q=ks.length∧AccE 1 v (dx e.place (ks.take q) vs).length ((dx e.place (ks.take q) vs).flatMap iE) E∧St h [] h' (E++([(i1,true,.cells [I (bt e:Nat),v]),(i0,true,.cells [I 0,.full 0 []])]++[]))) ks.length ⟨0,.full 0 [],[],rfl,by omega,.none 1,s5⟩ ?_
 rintro n vs' h6 ⟨q,v,E,rfl,hn,a,s6⟩
 unfold nh
 have hfl:(dx e.place (ks.take q) vs).length≤ks.length:=by simp[dx];omega
 (repeat refine aP ?_)
 refine ag (fun hq=>?_) (fun hq=>?_)<;>simp only[za,zb,zc,zd,ze,zf,zg,zh,zi,u8i,zj,zk,zl]at hq
 ·have hq:q<ks.length:=hq
  refine (RK h6).idx (fun _=>rfl) hq fun p1 t=>?_
  refine aE t ?_
  have hqv:q<vs.length:=by omega
  refine (r.fr s6.fr).idx (fun _=>rfl) hqv fun p2 t2=>?_
  refine aE t2 ?_
  have hkn:=hne _ (List.getElem_mem hq)
  have hk0:0<ks[q].length:=List.length_pos_iff.2 hkn
  refine co (i:=0) hk0 ?_
  have hs:dx e.place (ks.take (q+1)) vs=dx e.place (ks.take q) vs++[nL e.place ks[q] vs[q]]:=Aq hq hqv
  have hfin:∀ x,x=nL e.place ks[q] vs[q]→gO (I x) (I (q:Nat)) (.ptr i1 0) h6 (fun vs' h'=>∃ m,m<n∧∃ (q:Nat) (v:AV) (E:Own),vs'=[I (q:Nat)]∧m+q=ks.length∧AccE 1 v (dx e.place (ks.take q) vs).length ((dx e.place (ks.take q) vs).flatMap iE) E∧St h [] h' (E++([(i1,true,.cells [I (bt e:Nat),v]),(i0,true,.cells [I 0,.full 0 []])]++[]))):=by
   rintro x rfl
   unfold gO
   (repeat refine an ?_)
   refine aj (a.rest s6) (.head _) rfl ?_
   (repeat refine aG rfl rfl ?_)
   refine a.app s6 (xs:=[I (nL e.place ks[q] vs[q])]) (m:=1) (Rd.full rfl) rfl (by omega) fun v3 E3 h8 a3 s8=>?_
   have s9:=s8.swap
   (repeat refine an ?_)
   refine xJ a3.v1 s9 .head (nle rfl) fun h10 s10=>?_
   (repeat refine aH (by omega) ?_)
   exact⟨n-1,by omega,q+1,v3,E3,rfl,by omega,by rw[hs];simpa using a3,St.swap (A:=[_,_]) (B:=E3) (L:=[]) s10⟩
  have h84:(ks[q].head?=some 84)↔ks[q][0]=84:=by
   rw[List.head?_eq_getElem?,List.getElem?_eq_getElem hk0];simp
  have hpl:=(s6.fr.get hp (by simp))
  have sp:=St.startr hpl
  unfold enE at sp
  have hbv:=hb _ (List.getElem_mem hqv)
  unfold nL at hfin
  simp only[h84]at hfin
  (repeat refine aB ?_)
  refine ag (fun hT=>?_) (fun hT=>?_)<;>simp only[za,zb,zc,zd,ze,zf,zg,zh,zi,u8i,zj,zk,zl]at hT
  ·have hT:ks[q][0]=84:=by
    apply UInt8.toNat_inj.1
    show _=84
    omega
   refine aq (an (aj sp (.head _) rfl (dD (by omega) ?_)))
   exact hfin _ (by rw[if_pos hT])
  ·exact hfin _ (by rw[if_neg (by intro h;rw[h]at hT;exact hT rfl)])
 ·rw[List.take_of_length_le (by omega)]at a
  have s7:=s6.swap
  (repeat refine aW ‹_› (.head _) (nle rfl) ?_)
  refine aF s7 (.tail .head) rfl rfl (by show ([I (bt e:Nat),v]:List AV).all AV.one=true;simp[a.v1.one];rfl) (nle rfl) fun h10 s10=>?_
  (repeat refine aW ‹_› (by first|exact .head _|exact .tail _ (.head _)) (nle rfl) ?_)
  exact k v E h10 a ((St.swap (A:=[_,_]) (B:=E) (L:=[]) s10).sub (List.sublist_append_left _ _))
end
end
section
def fg (here:Int) (f:Str→Option Int) (a:Ar):Ev:=if a.reg<0 then aX here f a.e else (a.reg,0)
def aU (here:Int) (f:Str→Option Int) (args:List Ar):List Int×Int:=
 match args.find? fun a=>decide ((fg here f a).2≠0) with
 | some a=>([],(fg here f a).2)
 | none=>(args.map fun a=>(fg here f a).1,0)
theorem HY {here:Int}{f:Str→Option Int}{args:List Ar}{q:Nat}(hq:q<args.length) (hb:(fg here f args[q]).2≠0) (hn:∀ j (hj:j<q),(fg here f (args[j]'(by omega))).2=0):aU here f args=([],(fg here f args[q]).2):=by
 unfold aU
 have:args.find? (fun a=>decide ((fg here f a).2≠0))=some args[q]:=by
  rw[List.find?_eq_some_iff_getElem]
  exact⟨by simpa using hb,q,hq,rfl,fun j hj=>by simpa using hn j hj⟩
 rw[this]
theorem FB {here:Int}{f:Str→Option Int}{args:List Ar}(hn:∀ j (hj:j<args.length),(fg here f args[j]).2=0):aU here f args=(args.map fun a=>(fg here f a).1,0):=by
 unfold aU
 have:args.find? (fun a=>decide ((fg here f a).2≠0))=none:=by
  rw[List.find?_eq_none]
  intro x hx
  obtain⟨j,hj,rfl⟩:=List.getElem_of_mem hx
  simpa using hn j hj
 rw[this]
def jL (f:Str→Option Int) (es:List En) (e:Ex):Bool:=(bQ e).all fun n=>(f n).isSome||es.any fun x=>decide (x.x.2.kind=9)&&decide (x.x.2.text=n)
def mU (kind:Nat):Int×Int:=if kind=3 then (-128,255) else if kind=4 then (-32768,65535) else (-2147483648,4294967295)
def eW (syms:Str→Option Int) (e:En):Int:=
 if e.x.2.kind=1 then (jt e.x.2.op:Nat)
 else if e.x.2.kind=2 then (if e.grown then 4 else 2)
 else if e.x.2.kind=3∨e.x.2.kind=4∨e.x.2.kind=5 then (e.x.2.args.length:Int)*2^(e.x.2.kind-3)
 else if e.x.2.kind=6 then (e.x.2.text.length:Nat)
 else if e.x.2.kind=7 then ((aX 0 syms (bm e)).1-e.place.tmod (aX 0 syms (bm e)).1).tmod (aX 0 syms (bm e)).1
 else if e.x.2.kind=8 then (aX 0 syms (bm e)).1
 else 0
abbrev d8 (lv:AV) (js:Nat) (kn dv:AV) (sz:Int):AObj:=.cells [lv,.map js,kn,dv,I sz]
section
variable [Tabs]
theorem AI (here:Int) (f:Str→Option Int):∀ e:Ex,-1099511627776≤(aX here f e).1∧(aX here f e).1≤1099511627776
 | .none=>by simp[aX]
 | .num n=>gx _
 | .name s=>by
   unfold aX;split
   ·exact gx _
   ·simp
 | .here=>gx _
 | .neg e=>by
   unfold aX;split
   ·simp
   ·exact gx _
 | .bin k a b=>by
   unfold aX;split
   ·simp
   ·split
    ·simp
    ·exact GC _ _ _
variable {h:ab}{Q:QT}{K:AV→Prop}
theorem EK {n:Nat}(k:Q (.tup [I (mU n).1,I (mU n).2]) h):C pn [I (n:Nat)] h Q:=by
 refine CC _ _ _ ?_
 unfold Au
 unfold mU at k
 (repeat refine aB ?_)
 refine ag (fun h3=>?_) (fun h3=>?_)<;>simp only[za,zb,zc,zd,ze,zf,zg,zh,zi,u8i,zj,zk,zl]at h3
 ·rw[if_pos (by omega)]at k;exact k
 ·rw[if_neg (by omega)]at k
  (repeat refine aB ?_)
  refine ag (fun h4=>?_) (fun h4=>?_)<;>simp only[za,zb,zc,zd,ze,zf,zg,zh,zi,u8i,zj,zk,zl]at h4
  ·rw[if_pos (by omega)]at k;exact k
  ·rw[if_neg (by omega)]at k;exact k
theorem Vg {h0:ab}{M:List Nat}{L L':Own}{j:Nat}{cs zs:List AV}{K:ab→Prop}(s:St h0 M h L) (hz:zs.length=5) (hc:cs.length=5) (ho:cs.all AV.one=true) (u:Sub L (j,true,.cells zs) L' (j,true,.cells cs))
  (k:∀ h',St h0 M h' L'→K h'):aw 5 (.ptr j 0) (.agg cs) h K:=
 aF s (by
  have:splice zs 0 cs=cs:=by simp[splice];omega
  show Sub L _ L' (j,true,.cells (splice zs 0 (AV.agg cs).cells))
  rw[show (AV.agg cs).cells=cs from rfl,this];exact u) rfl hc ho (by omega) k
theorem wC {e:En}{p:Nat}(hp:h[p]?=some (.cells (enE e))) (w:WfS e.x.2) {i js jk:Nat}{lv dv:AV}{sz:Int}(hi:h[i]?=some (d8 lv js (.map jk) dv sz)) {f:Str→Option Int}(m:MapAt h jk f)
  (k:∀ v E h',AccE 1 v (aU e.place f e.x.2.args).1.length ((aU e.place f e.x.2.args).1.flatMap iE) E→St h [] h' E→Q (.tup [v,I (aU e.place f e.x.2.args).2]) h'):C eV [.ptr i 0,.ptr p 0] h Q:=by
 refine sa _ _ _ _ ?_
 unfold n6
 have sp:=St.startr hp
 have hal:=w.args
 unfold enE at sp
 (repeat (first|refine aq ?_|refine an ?_|refine dy ?_|refine aj ‹_› (.head _) rfl ?_))
 clear sp
 refine aR (fun n vs' h'=>∃ (q:Nat) (v:AV) (E:Own),vs'=[.full 0 [],I 0,v,I (q:Nat)]∧n+q=e.x.2.args.length∧AccE 1 v q (((e.x.2.args.take q).map fun a=>(fg e.place f a).1).flatMap iE) E∧St h [] h' E∧∀ j (hj:j<q) (hj2:j<e.x.2.args.length),(fg e.place f e.x.2.args[j]).2=0) e.x.2.args.length ⟨0,.full 0 [],[],rfl,by omega,.none 1,St.start h,fun j hj=>by omega⟩ ?_
 rintro n vs' h1 ⟨q,v,E,rfl,hn,a,s1,hz⟩
 unfold lS
 have s1:St h [] h1 (E++[]):=by simpa using s1
 (repeat refine aP ?_)
 refine ag (fun hq=>?_) (fun hq=>?_)<;>simp only[za,zb,zc,zd,ze,zf,zg,zh,zi,u8i,zj,zk,zl]at hq
 ·have hq:q<e.x.2.args.length:=hq
  have ha:=w.arg _ (List.getElem_mem hq)
  refine (IB e h1).idx lB hq fun p1 t=>?_
  refine cb t (lB _).symm ?_
  refine bk s1 fun i1 h2 s2=>?_
  refine Vg s2 rfl (lB _) (E6 _) .head fun h3 s3=>?_
  have hfin:∀ (r:Ev) h',r=fg e.place f e.x.2.args[q]→St h [] h' (E++[])→eP (I r.2) (I r.1) (.full 0 []) (I 0) v (I (q:Nat)) h' (fun vs' h'=>∃ m,m<n∧∃ (q:Nat) (v:AV) (E:Own),vs'=[.full 0 [],I 0,v,I (q:Nat)]∧m+q=e.x.2.args.length∧AccE 1 v q (((e.x.2.args.take q).map fun a=>(fg e.place f a).1).flatMap iE) E∧St h [] h' E∧∀ j (hj:j<q) (hj2:j<e.x.2.args.length),(fg e.place f e.x.2.args[j]).2=0) Q:=by
   rintro r h4 rfl s4
   unfold eP
   (repeat refine cE ?_)
   refine ag (fun hb=>?_) (fun hb=>?_)<;>simp only[za,zb,zc,zd,ze,zf,zg,zh,zi,u8i,zj,zk,zl]at hb
   ·have hv:=HY hq hb fun j hj=>hz j hj (by omega)
    rw[hv]at k
    exact k _ [] _ (.none 1) (a.rest s4)
   ·(repeat refine aG rfl rfl ?_)
    refine a.app s4 (xs:=iE (fg e.place f e.x.2.args[q]).1) (m:=1) (Rd.full rfl) rfl (by omega) fun v3 E3 h8 a3 s8=>?_
    refine aH (by omega) ?_
    refine⟨n-1,by omega,q+1,v3,E3,rfl,by omega,?_,by simpa using s8,fun j hj hj2=>?_⟩
    ·rw[List.take_succ_eq_append_getElem hq,List.map_append,List.flatMap_append];exact a3
    ·by_cases hjq:j=q
     ·subst hjq;exact hb
     ·exact hz j (by omega) hj2
  have sp3:=St.startr (s3.fr.get hp (by simp))
  have si3:=St.startr (s3.fr.get hi (by simp))
  unfold enE at sp3
  unfold arE at s3
  refine an (aj s3 (.head _) rfl (aP ?_))
  refine ag (fun hb=>?_) (fun hb=>?_)<;>simp only[za,zb,zc,zd,ze,zf,zg,zh,zi,u8i,zj,zk,zl]at hb
  ·refine an (aW s3 (.head _) (by simp[ay]) ?_)
   rw[show ((I e.x.2.args[q].reg::cY e.x.2.args[q].e).drop (0+1)).take 4=cY e.x.2.args[q].e by
    simp only[Nat.zero_add,List.drop_succ_cons,List.drop_zero];exact List.take_of_length_le (by simp[ay])]
   refine aq (an (aj sp3 (.head _) rfl ?_))
   refine aq (an (aj si3 (.head _) rfl ?_))
   refine nr ha.1 ha.2.1 e.place (m.fr s3.fr) fun h4 f4=>?_
   have s4:=(s3.call f4).drop1
   unfold evV
   refine ax rfl (ax rfl ?_)
   exact hfin _ h4 (by unfold fg;rw[if_pos hb]) s4
  ·exact hfin (e.x.2.args[q].reg,0) h3 (by unfold fg;rw[if_neg (by omega)]) s3.drop1
 ·have hqe:q=e.x.2.args.length:=by omega
  subst hqe
  rw[List.take_length]at a
  have hv:=FB (fun j hj=>hz j hj hj)
  rw[hv]at k
  exact k v E h1 (by simpa using a) (by simpa using s1)
abbrev pE (x:Nat×En):List AV:=[.ptr x.1 0]
theorem Iv {i js jk:Nat}{lv dv:AV}{sz:Int}(hi:h[i]?=some (d8 lv js (.map jk) dv sz)) {f:Str→Option Int}(m:MapAt h jk f) {l:List (Nat×En)}(hl:l.length<1000000000) (r:Row pE 1 h lv l) (he:∀ x∈l,h[x.1]?=some (.cells (enE x.2)))
  {e:Ex} (ho:okE e) (hz:iw e<1000000) (k:∀ h',Fr [] h h'→Q (B (jL f (l.map (·.2)) e)) h'):C gc [.ptr i 0,.agg (cY e)] h Q:=by
 refine qC _ _ _ _ ?_
 unfold mE
 refine dF (St.start h) rfl fun j h1 s1=>?_
 have s1:St h [] h1 [(j,true,.cells (cY e))]:=s1
 refine bd s1 (ay _) (.head _) ?_
 refine BW (iw e) e ho (Nat.le_refl _) (by omega) h1 _ fun h2 f2=>?_
 have s2:=s1.call f2
 have hnl:=jo e
 have RN2:∀ h,Row sE 1 h (.snap (bQ e).length ((bQ e).flatMap sE)) (bQ e):=fun h=>Row.snap (enc:=sE) (fun _=>rfl) _
 unfold jL at k
 generalize bQ e=ns at RN2 hnl k ⊢
 (repeat refine dy ?_)
 refine aR (fun n vs h'=>∃ (q:Nat),vs=[B false,I (q:Nat)]∧n+q=ns.length∧Fr [] h h'∧∀ t (ht:t<q) (ht2:t<ns.length),((f ns[t]).isSome||(l.map (·.2)).any fun x=>decide (x.x.2.kind=9)&&decide (x.x.2.text=ns[t]))=true) ns.length ⟨0,rfl,by omega,s2.fr,fun t ht=>by omega⟩ ?_
 rintro n vs h3 ⟨q,rfl,hn,f3,hall⟩
 unfold kx
 (repeat refine aP ?_)
 refine ag (fun hq=>?_) (fun hq=>?_)<;>simp only[za,zb,zc,zd,ze,zf,zg,zh,zi,u8i,zj,zk,zl]at hq
 ·have hq:q<ns.length:=hq
  refine (RN2 h3).idx (fun _=>rfl) hq fun p t=>?_
  refine aE t ?_
  refine bk (St.start h3) fun i4 h4 s4=>?_
  (repeat (first|refine aq ?_|refine an ?_|refine aF ‹_› .head rfl rfl rfl (nle rfl) fun _ _=>?_))
  rename_i h5 s5
  have f5:Fr [] h h5:=f3.trans s5.fr (by simp)
  have si:=St.startr (f5.get hi (by simp))
  refine aj si (.head _) rfl ?_
  clear si
  refine aj s5 (.head _) rfl ?_
  refine (m.fr f5).look ?_
  have hnext:∀ h',Fr [] h h'→((f ns[q]).isSome||(l.map (·.2)).any fun x=>decide (x.x.2.kind=9)&&decide (x.x.2.text=ns[q]))=true→ah .add (I (q:Nat)) (I 1) fun t36=>
   (fun vs' h'=>∃ m,m<n∧∃ (q:Nat),vs'=[B false,I (q:Nat)]∧m+q=ns.length∧Fr [] h h'∧∀ t (ht:t<q) (ht2:t<ns.length),((f ns[t]).isSome||(l.map (·.2)).any fun x=>decide (x.x.2.kind=9)&&decide (x.x.2.text=ns[t]))=true) [B false,t36] h':=by
   intro h' f' hh
   refine aH (by omega) ?_
   refine⟨n-1,by omega,q+1,rfl,by omega,f',fun t ht ht2=>?_⟩
   by_cases htq:t=q
   ·subst htq;exact hh
   ·exact hall t (by omega) ht2
  refine ax rfl (ax rfl (dA ?_))
  cases hf:f ns[q] with
  | some y=>
    refine ag (fun h=>by cases h) (fun _=>?_)
    exact hnext h5 f5 (by rw[hf];rfl)
  | none=>
    refine ag (fun _=>?_) (fun h=>by cases h)
    have si:=St.startr (f5.get hi (by simp))
    refine aq (an (aj si (.head _) rfl ?_))
    clear si
    refine nN (arg:=fun x:Nat×En=>.ptr x.1 0) _ (fun x=>decide (x.2.x.2.kind=9)&&decide (x.2.x.2.text=ns[q])) l (by omega) (r.fr f5) (fun x hx h6 Q6 f6 k6=>?_) fun h6 f6=>?_
    ·show ACall Pg fc _ _ _
     refine pv _ _ _ _ ?_
     unfold kI
     have sx:=St.startr (f6.get (f5.get (he x hx) (by simp)) (by simp))
     unfold enE at sx
     (repeat (first|refine aq ?_|refine an ?_|refine aB ?_|refine aj ‹_› (.head _) rfl ?_))
     refine ag (fun hb=>?_) (fun hb=>?_)<;>simp only[za,zb,zc,zd,ze,zf,zg,zh,zi,u8i,zj,zk,zl]at hb
     ·have hb:x.2.x.2.kind=9:=by omega
      (repeat (first|refine aq ?_|refine an ?_|refine aj ‹_› (.head _) rfl ?_))
      refine aj (s5.call f6) (.head _) rfl ?_
      (repeat refine bi ?_)
      rw[hb]at k6
      simpa using k6 h6 (Fr.refl _ _)
     ·have hb:¬ x.2.x.2.kind=9:=by omega
      have:=k6 h6 (Fr.refl _ _)
      simpa [hb] using this
    ·have hany:(l.any fun x=>decide (x.2.x.2.kind=9)&&decide (x.2.x.2.text=ns[q]))=(l.map (·.2)).any fun x=>decide (x.x.2.kind=9)&&decide (x.x.2.text=ns[q]):=by rw[List.any_map];rfl
     rw[hany]
     have f7:Fr [] h h6:=f5.trans f6 (by simp)
     refine dA ?_
     cases hc:(l.map (·.2)).any fun x=>decide (x.x.2.kind=9)&&decide (x.x.2.text=ns[q]) with
     | true=>
       refine ag (fun h=>by cases h) (fun _=>?_)
       exact hnext h6 f7 (by rw[hc];simp)
     | false=>
       refine ag (fun _=>?_) (fun h=>by cases h)
       have:(ns.all fun n=>(f n).isSome||(l.map (·.2)).any fun x=>decide (x.x.2.kind=9)&&decide (x.x.2.text=n))=false:=by
        rw[List.all_eq_false]
        exact⟨ns[q],List.getElem_mem hq,by rw[hf,hc];simp⟩
       rw[← this]
       exact k h6 f7
 ·have:(ns.all fun n=>(f n).isSome||(l.map (·.2)).any fun x=>decide (x.x.2.kind=9)&&decide (x.x.2.text=n))=true:=by
   rw[List.all_eq_true]
   intro x hx
   obtain⟨t,ht,rfl⟩:=List.getElem_of_mem hx
   exact hall t (by omega) ht
  rw[← this]
  exact k h3 f3
def SzOk (syms:Str→Option Int) (e:En):Prop:=
 (e.x.2.kind=7→1≤(aX 0 syms (bm e)).1∧(aX 0 syms (bm e)).1≤16)∧(e.x.2.kind=8→0≤(aX 0 syms (bm e)).1∧(aX 0 syms (bm e)).1≤1000)
theorem FT {e:En}{p:Nat}(hp:h[p]?=some (.cells (enE e))) (w:WfS e.x.2) {i js:Nat}{lv kn dv:AV}{sz:Int}(hi:h[i]?=some (d8 lv js kn dv sz)) {f:Str→Option Int}(m:MapAt h js f) (hs:SzOk f e) (hpl:0≤e.place∧e.place≤1000000000000000)
  (k:∀ h',Fr [] h h'→Q (I (eW f e)) h'):C ey [.ptr i 0,.ptr p 0] h Q:=by
 refine vN _ _ _ _ ?_
 unfold rC
 have sp:=St.startr hp
 have hal:=w.args
 unfold enE at sp
 unfold eW at k
 (repeat (first|refine aq ?_|refine an ?_|refine aB ?_|refine aj ‹_› (.head _) rfl ?_))
 refine ag (fun h1=>?_) (fun h1=>?_)<;>simp only[za,zb,zc,zd,ze,zf,zg,zh,zi,u8i,zj,zk,zl]at h1
 ·have h1:e.x.2.kind=1:=by omega
  rw[if_pos h1]at k
  (repeat (first|refine aq ?_|refine an ?_|refine aj ‹_› (.head _) rfl ?_))
  exact LY (w.inst h1).1 fun h2 f2=>k h2 f2
 ·have h1:¬ e.x.2.kind=1:=by omega
  rw[if_neg h1]at k
  (repeat refine aB ?_)
  refine ag (fun h2=>?_) (fun h2=>?_)<;>simp only[za,zb,zc,zd,ze,zf,zg,zh,zi,u8i,zj,zk,zl]at h2
  ·rw[if_pos (by omega)]at k
   (repeat (first|refine aq ?_|refine an ?_|refine aj ‹_› (.head _) rfl ?_))
   cases hg:e.grown with
   | true=>
     rw[hg]at k
     exact ag (fun _=>k h (Fr.refl _ _)) (fun h=>by cases h)
   | false=>
     rw[hg]at k
     exact ag (fun h=>by cases h) (fun _=>k h (Fr.refl _ _))
  ·have h2:¬ e.x.2.kind=2:=by omega
   rw[if_neg h2]at k
   have hdata:∀ b:Bool,(b=true↔e.x.2.kind=3∨e.x.2.kind=4∨e.x.2.kind=5)→eB (B b) (I (e.x.2.kind:Nat)) (.ptr i 0) (.ptr p 0) h Q:=by
    intro b hb
    unfold eB
    refine ag (fun hbt=>?_) (fun hbf=>?_)
    ·have hk:=hb.1 hbt
     rw[if_pos hk]at k
     (repeat (first|refine aq ?_|refine an ?_|refine dy ?_|refine dD (by omega) ?_|refine aj ‹_› (.head _) rfl ?_))
     refine iJ (by omega) ?_
     have:IntKind.i64.wrap ((e.x.2.args.length:Int)*2^(min ((e.x.2.kind:Int)-3).toNat IntKind.i64.bits))=(e.x.2.args.length:Int)*2^(e.x.2.kind-3):=by
      have hb:IntKind.i64.bits=64:=rfl
      rw[hb]
      rcases hk with hk|hk|hk<;>rw[hk]<;>simp<;>exact tV (by omega)
     rw[this]
     exact k h (Fr.refl _ _)
    ·have hk:¬ (e.x.2.kind=3∨e.x.2.kind=4∨e.x.2.kind=5):=by rw[← hb,hbf];simp
     rw[if_neg hk]at k
     (repeat refine aB ?_)
     refine ag (fun h6=>?_) (fun h6=>?_)<;>simp only[za,zb,zc,zd,ze,zf,zg,zh,zi,u8i,zj,zk,zl]at h6
     ·rw[if_pos (by omega)]at k
      (repeat (first|refine aq ?_|refine an ?_|refine bD ?_|refine aj ‹_› (.head _) rfl ?_))
      exact k h (Fr.refl _ _)
     ·rw[if_neg (by omega)]at k
      have hj4:∀ b:Bool,(b=true↔e.x.2.kind=7∨e.x.2.kind=8)→fX (B b) (.ptr i 0) (.ptr p 0) h Q:=by
       intro b hb
       unfold fX
       refine ag (fun hbt=>?_) (fun hbf=>?_)
       ·have hk78:=hb.1 hbt
        have hne:=w.data (by omega) (by omega)
        have si:=St.startr hi
        refine aq (an (aj si (.head _) rfl ?_))
        refine un hp w hne fun h3 f3=>?_
        have si3:=si.call f3
        refine⟨aj si3 (.head _) rfl rfl,?_⟩
        have hlast:=tZ w hne
        refine nr hlast.1 hlast.2 0 (m.fr f3) fun h4 f4=>?_
        have f5:Fr [] h h4:=f3.trans f4 (by simp)
        unfold evV
        refine ax rfl (ax rfl ?_)
        have sp4:=sp.call f5
        refine aq (an (an (aj sp4 (.head _) rfl (aB ?_))))
        have hin:=AI 0 f (bm e)
        refine ag (fun h7=>?_) (fun h7=>?_)<;>simp only[za,zb,zc,zd,ze,zf,zg,zh,zi,u8i,zj,zk,zl]at h7
        ·have h7:e.x.2.kind=7:=by omega
         rw[if_pos h7]at k
         have hv:=hs.1 h7
         unfold fV
         refine aq (an (aj sp4 (.head _) rfl ?_))
         refine pa (by omega) ?_
         have hm1:=Int.tmod_nonneg (aX 0 f (bm e)).1 hpl.1
         have hm2:=Int.tmod_lt_of_pos e.place (show 0<(aX 0 f (bm e)).1 by omega)
         refine dD (by omega) ?_
         refine pa (by omega) ?_
         exact k h4 f5
        ·have h7:¬ e.x.2.kind=7:=by omega
         rw[if_neg h7,if_pos (by omega)]at k
         unfold fV
         exact k h4 f5
       ·rw[hbf]at hb
        have h7:¬ e.x.2.kind=7:=fun h=>by simp at hb;omega
        have h8:¬ e.x.2.kind=8:=fun h=>by simp at hb;omega
        rw[if_neg h7,if_neg h8]at k
        exact k h (Fr.refl _ _)
      refine aB ?_
      refine ag (fun h7=>?_) (fun h7=>?_)<;>simp only[za,zb,zc,zd,ze,zf,zg,zh,zi,u8i,zj,zk,zl]at h7
      ·exact hj4 _ (by simp;omega)
      ·refine aB ?_
       exact hj4 _ (by simp;omega)
   refine aB ?_
   refine ag (fun h3=>?_) (fun h3=>?_)<;>simp only[za,zb,zc,zd,ze,zf,zg,zh,zi,u8i,zj,zk,zl]at h3
   ·exact hdata _ (by simp;omega)
   ·refine aB ?_
    refine ag (fun h4=>?_) (fun h4=>?_)<;>simp only[za,zb,zc,zd,ze,zf,zg,zh,zi,u8i,zj,zk,zl]at h4
    ·exact hdata _ (by simp;omega)
    ·refine aB ?_
     exact hdata _ (by simp;omega)
