import Derived.Test.YtgkmmcdhhkllnaaGreatDoorAI4toKS9
import Derived.MapKept
set_option linter.all false
set_option autoImplicit true
set_option relaxedAutoImplicit true
set_option maxRecDepth 100000
namespace Go.Proofs.YtgkmmcdhhkllnaaGreatDoor.AL
noncomputable section
section
variable [Tabs]
structure Ar where
 reg:Int
 e:Ex
 deriving DecidableEq
def arE (a:Ar):List AV:=I a.reg::br a.e
theorem bS (a:Ar):(arE a).length=5:=by simp[arE,aw]
theorem Ce (a:Ar):(arE a).all AV.one=true:=by simp only[arE,List.all_cons,aV];rfl
theorem T1:∀ l:List Ar,(l.flatMap arE).all AV.one=true
 | []=>rfl
 | a::l=>by rw[List.flatMap_cons,List.all_append,Ce,T1 l];rfl
structure RS where
 lab:Str
 kind:Nat
 op:Nat
 text:Str
 args:List Ar
abbrev rdO (rs:RS) (v:AV):AObj:=.cells [I 1,T rs.lab,I (rs.kind:Nat),I (rs.op:Nat),T rs.text,v]
def RSt (h0 h:ae) (i:Nat) (rs:RS):Prop:=∃ v E,AccE 5 v rs.args.length (rs.args.flatMap arE) E∧St h0 [] h (E++[(i,true,rdO rs v)])
theorem RSt.call {h0 h h':ae}{i:Nat}{rs:RS}(r:RSt h0 h i rs) (f:Fr [] h h'):RSt h0 h' i rs:=by
 obtain⟨v,E,a,s⟩:=r
 exact⟨v,E,a,s.call f⟩
theorem AccE.mem {sz n i:Nat}{v:AV}{cs:List AV}{E:Own}{x:Nat×Bool×AObj}:x∈E++[x]:=by simp
section
variable {h0 h:ae}{Q:QT}{i:Nat}
theorem RSt.put {rs rs':RS}(r:RSt h0 h i rs) {o:Nat}{u:AV}{K:ae→Prop}(hu:u.isTup=false) (hc:u.cells.length=1) (h1:u.cells.all AV.one=true) (ho:o+1≤6) (ha:rs'.args=rs.args)
  (he:∀ v,splice [I 1,T rs.lab,I (rs.kind:Nat),I (rs.op:Nat),T rs.text,v] o u.cells=[I 1,T rs'.lab,I (rs'.kind:Nat),I (rs'.op:Nat),T rs'.text,v]) (k:∀ h',RSt h0 h' i rs'→K h'):ak 1 (.ptr i o) u h K:=by
 obtain⟨v,E,a,s⟩:=r
 rcases a with ⟨a1,a2,rfl,rfl⟩|⟨a1,j,rfl,rfl⟩
 ·refine ax s (L':=[(i,true,rdO rs' (.full 0 []))]) (cs:=[I 1,T rs.lab,I (rs.kind:Nat),I (rs.op:Nat),T rs.text,.full 0 []]) (by rw[he];exact .head) hu hc h1 ho fun h' s'=>?_
  exact k h' ⟨_,[],.inl ⟨by rw[ha];exact a1,by rw[ha];exact a2,rfl,rfl⟩,s'⟩
 ·refine ax s (L':=[(j,true,.cells (rs.args.flatMap arE)),(i,true,rdO rs' (.sl j 0 rs.args.length 5))]) (cs:=[I 1,T rs.lab,I (rs.kind:Nat),I (rs.op:Nat),T rs.text,.sl j 0 rs.args.length 5]) (by rw[he];exact .tail .head) hu hc h1 ho fun h' s'=>?_
  exact k h' ⟨_,_,.inr ⟨by rw[ha];exact a1,j,by rw[ha],rfl⟩,by rw[ha];exact s'⟩
theorem RSt.load {rs:RS}(r:RSt h0 h i rs) {o:Nat}{a:AV}{K:AV→Prop}(ho:∀ v,[I 1,T rs.lab,I (rs.kind:Nat),I (rs.op:Nat),T rs.text,v][o]?=some a) (k:K a):af (.ptr i o) h K:=by
 obtain⟨v,E,a,s⟩:=r
 exact ag s (List.mem_append_right _ (.head _)) (ho v) k
inductive Way where
 | value
 | reg
 | word
abbrev abQ:Way→FuncId
 | .value=>bH
 | .reg=>ey
 | .word=>gD
def HV (i:Nat) (w:Way):List AV:=[.fn (.func (abQ w)) [.ptr i 0] []]
def kD:Way→Str→RS→RS×Bool
 | .value,s,rs=>match hO s with
   | some x=>({ rs with args:=rs.args++[⟨-1,x⟩] },true)
   | none=>({ rs with args:=rs.args++[⟨-1,.none⟩] },false)
 | .reg,s,rs=>({ rs with args:=rs.args++[⟨(y3 s).1,.none⟩] },(y3 s).2)
 | .word,s,rs=>({ rs with text:=s },eH s)
theorem KZ (w:Way) (s:Str) (rs:RS):(kD w s rs).1.args.length≤rs.args.length+1:=by
 cases w<;>simp only[kD]
 ·cases hO s<;>simp
 ·simp
 ·simp
theorem acx (hA:ju) (w:Way) (s:Str) (hs:s.length<4000000000) {rs:RS}(hn:rs.args.length<1000) (r:RSt h0 h i rs) (k:∀ h',RSt h0 h' i (kD w s rs).1→Q (B (kD w s rs).2) h'):C (abQ w) [.ptr i 0,T s] h Q:=by
 cases w with
 | value=>
   show C bH _ _ _
   refine xN _ _ _ _ ?_
   unfold ry
   have fin:∀ (x:Ex) (b:Bool) (h1:ae),Fr [] h h1→kD .value s rs=({ rs with args:=rs.args++[⟨-1,x⟩] },b)→cu [(I 0),(I 0),(S ⟨#[]⟩),(.full 0 [])] h1 fun t5 h1=>ak 4 t5 (.agg (br x)) h1 fun h2=>aE (.ptr i 0) fun t14=>ab 0 t14 fun t15=>ab 5 t15 fun t16=>af t16 h2 fun t17=>ap 4 t5 h2 fun t18=>ay [(I 0),(I 0),(I 0),(S ⟨#[]⟩),(.full 0 [])] [(0,1,(I (-1))),(1,4,t18)] fun t19=>ao 1 5 [t19] fun t20=>bg 5 64 t17 t20 h2 fun t21 h3=>aE (.ptr i 0) fun t22=>ab 0 t22 fun t23=>ab 5 t23 fun t24=>ak 1 t24 t21 h3 fun h4=>Q (B b) h4:=by
    intro x b h1 f1 hst
    obtain⟨v,E,a,s1⟩:=r.call f1
    refine aM s1 fun q h2 s2=>?_
    refine aN s2 rfl (aw _) (aV _) .head fun h3 s3=>?_
    have s4:=s3.drop1
    refine au (aj (aj (ag s4 (cs:=[I 1,T rs.lab,I (rs.kind:Nat),I (rs.op:Nat),T rs.text,v]) (b:=true) (List.mem_append_right _ (.head _)) rfl ?_)))
    refine aL s3 (aw _) (.head _) ?_
    refine aD (cs:=arE ⟨-1,x⟩) ?_ ?_
    ·obtain⟨c1,c2,c3,c4,e4⟩:=aaQ (aw x)
     simp only[arE,e4]
     rfl
    refine aB rfl (by simp[AV.isTup,AV.cells,bS]) ?_
    rw[show ([AV.agg (arE ⟨-1,x⟩)].flatMap fun x=>x.cells)=arE ⟨-1,x⟩ by simp[AV.cells]]
    refine a.app s4 (xs:=arE ⟨-1,x⟩) (m:=1) (Rd.full (by rw[bS])) (Ce _) (by omega) fun v' E' h5 a5 s5=>?_
    refine au (aj (aj ?_))
    rw[hst]at k
    rcases a5 with ⟨a1,a2,rfl,rfl⟩|⟨a1,j,rfl,rfl⟩
    ·simp at a1
    ·refine ax s5 (L':=[(j,true,.cells (rs.args.flatMap arE++arE ⟨-1,x⟩)),(i,true,rdO { rs with args:=rs.args++[⟨-1,x⟩] } (.sl j 0 (rs.args.length+1) 5))]) (cs:=[I 1,T rs.lab,I (rs.kind:Nat),I (rs.op:Nat),T rs.text,v]) (.tail .head) rfl rfl rfl (nle rfl) fun h6 s6=>?_
     exact k h6 ⟨.sl j 0 (rs.args.length+1) 5,[(j,true,.cells (rs.args.flatMap arE++arE ⟨-1,x⟩))],.inr ⟨by simpa using a1,j,by simp,by simp⟩,s6⟩
   refine YR s (fun x hx h1 f1=>?_) (fun hx h1 f1=>?_)
   ·(repeat refine aG rfl ?_)
    exact fin x true h1 f1 (by simp[kD,hx])
   ·(repeat refine aG rfl ?_)
    exact fin .none false h1 f1 (by simp[kD,hx])
 | reg=>
   show C ey _ _ _
   refine tO _ _ _ _ ?_
   unfold o6
   refine QD hA s (by omega) ?_
   (repeat (first|refine au ?_|refine aj ?_|refine aG rfl ?_))
   obtain⟨v,E,a,s1⟩:=r
   refine ag s1 (cs:=[I 1,T rs.lab,I (rs.kind:Nat),I (rs.op:Nat),T rs.text,v]) (b:=true) (List.mem_append_right _ (.head _)) rfl ?_
   refine aD (cs:=arE ⟨(y3 s).1,.none⟩) rfl ?_
   refine aB rfl (by simp[AV.isTup,AV.cells,bS]) ?_
   rw[show ([AV.agg (arE ⟨(y3 s).1,.none⟩)].flatMap fun x=>x.cells)=arE ⟨(y3 s).1,.none⟩ by simp[AV.cells]]
   refine a.app s1 (xs:=arE ⟨(y3 s).1,.none⟩) (m:=1) (Rd.full (by rw[bS])) (Ce _) (by omega) fun v' E' h5 a5 s5=>?_
   refine au (aj (aj ?_))
   rcases a5 with ⟨a1,a2,rfl,rfl⟩|⟨a1,j,rfl,rfl⟩
   ·simp at a1
   ·refine ax s5 (L':=[(j,true,.cells (rs.args.flatMap arE++arE ⟨(y3 s).1,.none⟩)),(i,true,rdO { rs with args:=rs.args++[⟨(y3 s).1,.none⟩] } (.sl j 0 (rs.args.length+1) 5))]) (cs:=[I 1,T rs.lab,I (rs.kind:Nat),I (rs.op:Nat),T rs.text,v]) (.tail .head) rfl rfl rfl (nle rfl) fun h6 s6=>?_
    exact k h6 ⟨.sl j 0 (rs.args.length+1) 5,[(j,true,.cells (rs.args.flatMap arE++arE ⟨(y3 s).1,.none⟩))],.inr ⟨by simpa [kD] using a1,j,by simp[kD],by simp[kD]⟩,s6⟩
 | word=>
   show C gD _ _ _
   refine y0 _ _ _ _ ?_
   unfold ux
   (repeat (first|refine au ?_|refine aj ?_))
   refine r.put (rs':={ rs with text:=s }) rfl rfl rfl (by omega) rfl (fun v=>rfl) fun h1 r1=>?_
   refine MN s (by omega) ?_
   exact k h1 r1
def goW:List Way→List Str→RS→RS×Bool
 | w::ws,s::ss,rs=>if (kD w s rs).2=true then goW ws ss (kD w s rs).1 else ((kD w s rs).1,false)
 | _,_,rs=>(rs,true)
def pa (l:List Str) (ws:List Way) (rs:RS):RS×Bool:=if l.length=ws.length then goW ws l rs else (rs,false)
theorem Si (hA:ju) (l:List Str) (hl:l.length<4000000000) (hs:∀ s∈l,s.length<4000000000) (ws:List Way) (hw:ws.length<900) {rs:RS}(hn:rs.args.length=0) (r:RSt h0 h i rs) {v1 v2:AV}
  (R1:∀ h',Row sE 1 h' v1 l) (R2:∀ h',Row (HV i) 1 h' v2 ws) (k:∀ h',RSt h0 h' i (pa l ws rs).1→Q (B (pa l ws rs).2) h'):C fR [v1,v2] h Q:=by
 refine Px _ _ _ _ ?_
 unfold Pz
 refine (R1 h).len ?_
 refine (R2 h).len ?_
 refine aA ?_
 have e1:decide (((l.length:Nat):Int)=((ws.length:Nat):Int))=decide (l.length=ws.length):=acu
 rw[e1]
 unfold pa at k
 by_cases hlen:l.length=ws.length
 ·rw[if_pos hlen]at k
  rw[decide_eq_true hlen]
  refine aQ (fun n vs h'=>∃ (j:Nat) (b:Bool) (rs':RS),vs=[B b,I (j:Nat)]∧n+j=ws.length∧RSt h0 h' i rs'∧rs'.args.length≤j∧
   goW ws l rs=(if b=true then goW (ws.drop j) (l.drop j) rs' else (rs',false))) ws.length ⟨0,true,rs,rfl,by omega,r,by omega,rfl⟩ ?_
  rintro n vs h' ⟨j,b,rs',rfl,hn2,r2,ha,hg⟩
  unfold yi
  refine (R2 h').len ?_
  (repeat refine aJ ?_)
  refine ah (fun hb=>?_) (fun hb=>?_)<;>simp only[za,zb,zc,zd,ze,zf,zg,zh,zi,u8i,zj,zk,zl]at hb
  ·have hj:j<ws.length:=hb
   cases b with
   | true=>
     refine ah (fun _=>?_) (fun h=>by cases h)
     refine (R2 h').idx (fun _=>rfl) hj fun p t=>?_
     refine aK t ?_
     refine (R1 h').idx (fun _=>rfl) (show j<l.length by omega) fun p t=>?_
     refine aK t ?_
     show ACall Pg (abQ ws[j]) [.ptr i 0,T l[j]] h' _
     rw[if_pos rfl,List.drop_eq_getElem_cons hj,List.drop_eq_getElem_cons (show j<l.length by omega),goW]at hg
     have hsl:=KZ ws[j] l[j] rs'
     refine acx hA ws[j] l[j] (hs _ (by simp)) (by omega) r2 fun h3 r3=>?_
     (repeat refine aI (by omega) ?_)
     refine⟨n-1,by omega,j+1,_,_,rfl,by omega,r3,by omega,hg⟩
   | false=>
     refine ah (fun h=>by cases h) (fun _=>?_)
     rw[if_neg (by simp)]at hg
     rw[hg]at k
     exact k h' r2
  ·have hj:ws.length≤j:=by omega
   cases b with
   | true=>
     rw[if_pos rfl,List.drop_of_length_le hj,List.drop_of_length_le (by omega)]at hg
     rw[hg]at k
     exact k h' r2
   | false=>
     rw[if_neg (by simp)]at hg
     rw[hg]at k
     exact k h' r2
 ·rw[if_neg hlen]at k
  rw[decide_eq_false hlen]
  refine aQ (fun n vs h'=>vs=[B false,I 0]∧h'=h) 0 ⟨rfl,rfl⟩ ?_
  rintro n vs h' ⟨rfl,rfl⟩
  unfold yi
  refine (R2 h').len ?_
  (repeat refine aJ ?_)
  refine ah (fun hb=>?_) (fun hb=>?_)<;>simp only[za,zb,zc,zd,ze,zf,zg,zh,zi,u8i,zj,zk,zl]at hb
  ·refine ah (fun h=>by cases h) (fun _=>?_)
   exact k h' r
  ·exact k h' r
end
end
section
variable [Tabs]
section
variable {h0 h:ae}{M:List Nat}{L L':Own}{Q:QT}{i:Nat}
theorem St.join {h':ae}(s:St h0 M h L) (s':St h [] h' L') (ht:∀ e∈L',e.2.1=true):St h0 M h' (L'++L) where
 fr:=s.fr.trans s'.fr (by simp)
 at_ e he:=by
  rcases List.mem_append.1 he with he|he
  ·exact s'.at_ e he
  ·exact s'.fr.get (s.at_ e he) (by simp)
 own e he hb hl:=by
  rcases List.mem_append.1 he with he|he
  ·have:=s'.own e he hb (Nat.lt_of_lt_of_le hl s.fr.len);simp at this
  ·exact s.own e he hb hl
 nd:=by
  rw[List.map_append,List.nodup_append]
  refine⟨s'.nd,s.nd,fun a ha b hb hab=>?_⟩
  subst hab
  rw[List.mem_map]at ha hb
  obtain⟨x,hx,rfl⟩:=ha
  obtain⟨y,hy,hxy⟩:=hb
  have h1:=jL (s.at_ y hy)
  have h2:=s'.own x hx (ht x hx) (by omega)
  simp at h2
theorem AccE.own {sz n:Nat}{v:AV}{cs:List AV}{E:Own}(a:AccE sz v n cs E):∀ e∈E,e.2.1=true:=by
 rcases a with ⟨_,_,_,rfl⟩|⟨_,j,_,rfl⟩<;>simp
theorem aag (fv:AV) (h1:fv.one=true) (hc:fv.cells=[fv]) (ht:fv.isTup=false) (n:Nat) (hn:n<1000) (k:∀ v E h',AccE 1 v n (List.replicate n fv) E→St h [] h' E→Q v h'):C jV [fv,I (n:Nat)] h Q:=by
 refine MX _ _ _ _ ?_
 unfold KT
 refine aQ (fun m vs h'=>∃ (j:Nat) (v:AV) (E:Own),vs=[v,I (j:Nat)]∧m+j=n∧AccE 1 v j (List.replicate j fv) E∧St h [] h' (E++[])) n ⟨0,.full 0 [],[],rfl,by omega,.none 1,St.start h⟩ ?_
 rintro m vs h' ⟨j,v,E,rfl,hm,a,s⟩
 unfold Bp
 (repeat refine aJ ?_)
 refine ah (fun hb=>?_) (fun hb=>?_)<;>simp only[za,zb,zc,zd,ze,zf,zg,zh,zi,u8i,zj,zk,zl]at hb
 ·have hj:j<n:=hb
  refine aB rfl (by simp[ht,hc]) ?_
  rw[show ([fv].flatMap fun x=>x.cells)=[fv] by simp[hc]]
  refine a.app s (xs:=[fv]) (m:=1) (Rd.full rfl) (by simp[h1]) (by omega) fun v' E' h3 a3 s3=>?_
  (repeat refine aI (by omega) ?_)
  refine⟨m-1,by omega,j+1,v',E',rfl,by omega,?_,s3⟩
  rw[List.replicate_succ'];exact a3
 ·have hj:j=n:=by omega
  subst hj
  exact k v E h' a (by simpa using s)
theorem Qa (k:Nat) (cs:List AV):∀ l:List Str,fzL k cs (l.flatMap sE)=l.flatMap sE
 | []=>rfl
 | x::l=>by
   rw[List.flatMap_cons]
   show fz k cs (T x)::fzL k cs (l.flatMap sE)=_
   rw[Qa k cs l];rfl
theorem Kt (hA:ju) (l:List Str) (hl:l.length<4000000000) (hs:∀ s∈l,s.length<4000000000) (ws:List Way) (hw:ws.length<900) {rs:RS}(hn:rs.args.length=0) {v:AV}{E:Own}(a:AccE 1 v ws.length (ws.flatMap (HV i)) E)
  {v0:AV} {E0:Own} (a0:AccE 5 v0 rs.args.length (rs.args.flatMap arE) E0) (s:St h0 [] h (E++(E0++[(i,true,rdO rs v0)]))) (k:∀ h',RSt h0 h' i (pa l ws rs).1→Q (B (pa l ws rs).2) h'):C fR [.snap l.length (l.flatMap sE),v] h Q:=by
 rcases a with ⟨a1,a2,rfl,rfl⟩|⟨a1,j,rfl,rfl⟩
 ·have:ws=[]:=List.length_eq_zero_iff.1 a1
  subst this
  exact Si hA l hl hs [] hw hn ⟨v0,E0,a0,s⟩ (fun h'=>Row.snap (enc:=sE) (fun _=>rfl) l) (fun h'=>.nil) k
 ·refine ACall.frzArg (s.get (.head _)) ?_
  simp only[fzL,fz]
  rw[if_pos ⟨trivial,by omega⟩,Qa,List.drop_zero,List.take_of_length_le (by omega)]
  exact Si hA l hl hs ws hw hn ⟨v0,E0,a0,s.kill .head⟩ (fun h'=>Row.snap (enc:=sE) (fun _=>rfl) l) (fun h'=>Row.snap (enc:=HV i) (fun _=>rfl) ws) k
theorem FD (hI:gH) (s sub:Str) (hs:s.length<4294967281) (k:Q (B (decide (0≤Lib.index s sub))) h):C kH [T s,T sub] h Q:=by
 refine y2 _ _ _ _ ?_
 unfold tM
 refine hI s sub _ _ hs ?_
 (repeat refine bz ?_)
 exact k
def lP (k:Str):Way:=if decide (0≤Lib.index [32,88,32,89,32,68,32,65,32,66,32] ([32]++k++[32]))=true then .reg else .value
theorem VW:∀ r∈tbl,∀ k∈cV r.kinds,k.length<10:=by decide
theorem Ic (hF:cB) (hI:gH) (hA:ju) {rs:RS}(ho:rs.op<tbl.length) (hn:rs.args.length=0) (r:RSt h0 h i rs) (l:List Str) (hl:l.length<4000000000) (hs:∀ s∈l,s.length<4000000000)
  (k:∀ h',RSt h0 h' i (pa l ((cV (bp rs.op)).map lP) rs).1→Q (B (pa l ((cV (bp rs.op)).map lP) rs).2) h'):C ff [.ptr i 0,.snap l.length (l.flatMap sE)] h Q:=by
 refine rb _ _ _ _ ?_
 unfold l0
 (repeat (first|refine au ?_|refine aj ?_))
 refine r.load (a:=I (rs.op:Nat)) (fun v=>rfl) ?_
 refine PP ho fun h1 f1=>?_
 rw[jB ho]
 have hmem:tbl[rs.op]∈tbl:=by simp
 refine DC hF hmem ?_
 have hk1:=DV _ hmem
 have hk2:=VW _ hmem
 rw[← jB ho]at hk1 hk2 ⊢
 have r1:=r.call f1
 generalize cV (bp rs.op)=ks at k hk1 hk2 ⊢
 have RK:∀ h,Row sE 1 h (.snap ks.length (ks.flatMap fun x=>[T x])) ks:=fun h=>Row.snap (enc:=sE) (fun _=>rfl) ks
 obtain⟨v0,E0,a0,s0⟩:=r1
 (repeat refine cz ?_)
 refine aQ (fun m vs h'=>∃ (j:Nat) (v:AV) (E:Own),vs=[v,I (j:Nat)]∧m+j=ks.length∧AccE 1 v j (((ks.take j).map lP).flatMap (HV i)) E∧St h0 [] h' (E++(E0++[(i,true,rdO rs v0)]))) ks.length ⟨0,.full 0 [],[],rfl,by omega,.none 1,s0⟩ ?_
 rintro m vs h' ⟨j,v,E,rfl,hm,a,s⟩
 unfold jM
 (repeat refine aJ ?_)
 refine ah (fun hb=>?_) (fun hb=>?_)<;>simp only[za,zb,zc,zd,ze,zf,zg,zh,zi,u8i,zj,zk,zl]at hb
 ·have hj:j<ks.length:=hb
  refine (RK h').idx (fun _=>rfl) hj fun p t=>?_
  refine aK t ?_
  have hkl:=hk2 ks[j] (by simp)
  refine d3 (by simp;omega) ?_
  refine d3 (by simp;omega) ?_
  refine FD hI _ _ (by decide) ?_
  have hnext:((ks.take (j+1)).map lP).flatMap (HV i)=((ks.take j).map lP).flatMap (HV i)++HV i (lP ks[j]):=by
   rw[List.take_succ_eq_append_getElem hj,List.map_append,List.flatMap_append];simp[List.flatMap_cons]
  refine ah (fun hc=>?_) (fun hc=>?_)
  ·refine aB rfl rfl ?_
   refine a.app s (xs:=HV i .reg) (m:=1) (Rd.full rfl) rfl (by omega) fun v' E' h3 a3 s3=>?_
   unfold dA fy
   refine aI (by omega) ?_
   refine⟨m-1,by omega,j+1,v',E',rfl,by omega,?_,s3⟩
   rw[hnext,show lP ks[j]=.reg by unfold lP;rw[if_pos hc]];exact a3
  ·refine aB rfl rfl ?_
   refine a.app s (xs:=HV i .value) (m:=1) (Rd.full rfl) rfl (by omega) fun v' E' h3 a3 s3=>?_
   unfold dA fy
   refine aI (by omega) ?_
   refine⟨m-1,by omega,j+1,v',E',rfl,by omega,?_,s3⟩
   rw[hnext,show lP ks[j]=.value by unfold lP;rw[if_neg (by rw[hc];simp)]];exact a3
 ·have hj:j=ks.length:=by omega
  subst hj
  rw[List.take_length]at a
  refine Kt hA l hl hs (ks.map lP) (by simp;omega) hn (v:=v) (E:=E) (by simpa using a) a0 s k
def okC (c:UInt8):Bool:=decide (32≤c.toNat)&&(decide (c.toNat≤126)&&decide (c≠34))
theorem abL:Hp (.fn (.func eW) [] []) okC:=fun c h Q k=>by
 show ACall Pg eW [U8 c] h Q
 refine vJ _ _ _ ?_
 unfold pC
 have e1:decide ((32:Int)≤c.toNat)=decide (32≤c.toNat):=wl (a:=32)
 have e2:decide ((c.toNat:Int)≤126)=decide (c.toNat≤126):=wl (b:=126)
 have e3:decide ((c.toNat:Int)≠34)=decide (c≠34):=by rw[Bool.eq_iff_iff];simp[← UInt8.toNat_inj];omega
 unfold okC at k
 refine bz ?_
 rw[e1]
 cases h1:decide (32≤c.toNat) with
 | true=>
   refine ah (fun _=>?_) (fun h=>by cases h)
   rw[h1,Bool.true_and]at k
   refine fK ?_
   rw[e2]
   cases h2:decide (c.toNat≤126) with
   | true=>
     refine ah (fun _=>?_) (fun h=>by cases h)
     rw[h2,Bool.true_and]at k
     refine bU ?_
     rw[e3];exact k
   | false=>
     refine ah (fun h=>by cases h) (fun _=>?_)
     rw[h2,Bool.false_and]at k;exact k
 | false=>
   refine ah (fun h=>by cases h) (fun _=>?_)
   rw[h1,Bool.false_and]at k;exact k
def AH (s:Str) (rs:RS):RS×Bool:=
 if s.length<2∨62<s.length∨s[0]?≠some 34∨s[s.length-1]?≠some 34 then (rs,false)
 else ({ rs with text:=(s.drop 1).take (s.length-2) },((s.drop 1).take (s.length-2)).all okC)
theorem Yv (s:Str) {rs:RS}(r:RSt h0 h i rs) (k:∀ h',RSt h0 h' i (AH s rs).1→Q (B (AH s rs).2) h'):C jE [.ptr i 0,T s] h Q:=by
 refine wE _ _ _ _ ?_
 unfold sD
 unfold AH at k
 (repeat (first|refine aZ ?_|refine aJ ?_))
 refine ah (fun h1=>?_) (fun h1=>?_)<;>simp only[za,zb,zc,zd,ze,zf,zg,zh,zi,u8i,zj,zk,zl]at h1
 ·rw[if_pos (.inl (by omega))]at k;exact k h r
 (repeat (first|refine aZ ?_|refine bD ?_))
 refine ah (fun h2=>?_) (fun h2=>?_)<;>simp only[za,zb,zc,zd,ze,zf,zg,zh,zi,u8i,zj,zk,zl]at h2
 ·rw[if_pos (.inr (.inl (by omega)))]at k;exact k h r
 have hl1:2≤s.length:=by omega
 have hl2:s.length≤62:=by omega
 refine gV (by omega) (by simp;omega) ?_
 refine bU ?_
 have c34:∀ c:UInt8,decide ((c.toNat:Int)≠34)=decide (c≠34):=fun c=>by rw[Bool.eq_iff_iff];simp[← UInt8.toNat_inj];omega
 rw[c34]
 refine ah (fun h3=>?_) (fun h3=>?_)<;>simp only[za,zb,zc,zd,ze,zf,zg,zh,zi,u8i,zj,zk,zl]at h3
 ·rw[if_pos (.inr (.inr (.inl (by rw[List.getElem?_eq_getElem (by omega)];simpa using h3))))]at k;exact k h r
 have h3:s[0]?=some 34:=by rw[List.getElem?_eq_getElem (by omega)];simpa using h3
 (repeat (first|refine aZ ?_|refine cD (by omega) ?_))
 refine gV (by omega) (by omega) ?_
 refine bU ?_
 rw[c34]
 have e1:((s.length:Int)-1).toNat=s.length-1:=by omega
 refine ah (fun h4=>?_) (fun h4=>?_)<;>simp only[za,zb,zc,zd,ze,zf,zg,zh,zi,u8i,zj,zk,zl]at h4
 ·rw[if_pos (.inr (.inr (.inr (by rw[List.getElem?_eq_getElem (by omega)];simp only[e1]at h4;simpa using h4))))]at k;exact k h r
 have h4:s[s.length-1]?=some 34:=by rw[List.getElem?_eq_getElem (by omega)];simp only[e1]at h4;simpa using h4
 rw[if_neg (by rintro (h|h|h|h)<;>first|omega|exact h h3|exact h h4)]at k
 (repeat (first|refine aZ ?_|refine cD (by omega) ?_))
 refine Hz (by omega) (by omega) (by omega) ?_
 rw[e1,show s.length-1-Int.toNat 1=s.length-2 by simp;omega,show Int.toNat 1=1 from rfl]
 (repeat (first|refine au ?_|refine aj ?_))
 refine r.put (rs':={ rs with text:=(s.drop 1).take (s.length-2) }) rfl rfl rfl (by omega) rfl (fun v=>rfl) fun h5 r5=>?_
 (repeat (first|refine au ?_|refine aj ?_))
 refine r5.load (a:=T ((s.drop 1).take (s.length-2))) (fun v=>rfl) ?_
 (repeat (first|refine au ?_|refine aj ?_))
 refine r5.load (a:=T ((s.drop 1).take (s.length-2))) (fun v=>rfl) ?_
 (repeat refine aZ ?_)
 refine uy abL _ (by simp;omega) ?_
 refine⟨r5.load (fun v=>rfl) rfl,?_⟩
 refine aA ?_
 have e2:decide (((da okC ((s.drop 1).take (s.length-2)):Nat):Int)=((((s.drop 1).take (s.length-2)).length:Nat):Int))=((s.drop 1).take (s.length-2)).all okC:=by
  rw[Bool.eq_iff_iff,decide_eq_true_eq,← K3];omega
 rw[e2]
 exact k h5 r5
end
end
section
variable [Tabs]
section
variable {h0 h:ae}{Q:QT}{i:Nat}
def growsL:List Str:=[[98],[98,108],[98,99]]
def datasL:List Str:=[[46,98,121,116,101],[46,104,97,108,102],[46,108,111,110,103]]
def spacesL:List Str:=[[46,97,108,105,103,110],[46,115,112,97,99,101]]
def kX (s:Str) (l:List Str):Int:=ga (fun y=>decide (s=y)) l
theorem ZD (k:Q (.full growsL.length (growsL.flatMap sE)) h):C te [] h Q:=by
 refine Jz _ _ ?_
 unfold Hx
 (repeat refine aB rfl rfl ?_)
 exact k
def xb (name rest:Str) (rs:RS):RS×Bool:=
 match nV name with
 | some op=>pa (bZ rest) ((cV (bp op)).map lP) { rs with kind:=1,op:=op }
 | none=>
   if 0≤kX name growsL then pa (bZ rest) (List.replicate (1+(kX name growsL).toNat / 2*2) .value) { rs with kind:=2,op:=(kX name growsL).toNat }
   else if 0≤kX name datasL then (if 1≤(bZ rest).length∧(bZ rest).length≤16 then pa (bZ rest) (List.replicate (bZ rest).length .value) { rs with kind:=3+(kX name datasL).toNat } else ({ rs with kind:=3+(kX name datasL).toNat },false))
   else if name=[46,97,115,99,105,105] then AH rest { rs with kind:=6 }
   else if 0≤kX name spacesL then pa (bZ rest) [.value] { rs with kind:=7+(kX name spacesL).toNat }
   else if name=[46,101,113,117] then pa (bZ rest) [.word,.value] { rs with kind:=9 }
   else (rs,false)
theorem IB (s:Str) (hs:s.length<3000000000):(bZ s).length<4000000000∧∀ x∈bZ s,x.length<4000000000:=by
 unfold bZ
 split
 ·simp
 ·have h1:=jH 44 s
  have h2:=List.count_le_length (a:=(44:UInt8)) (l:=s)
  refine⟨by simp;omega,fun x hx=>?_⟩
  rw[List.mem_map]at hx
  obtain⟨y,hy,rfl⟩:=hx
  have h3:=jD 44 s y hy
  have h4:=qK y
  omega
theorem CO {s:Str}{op:Nat}(h:nV s=some op):op<tbl.length:=by
 unfold nV at h
 rw[List.findIdx?_eq_some_iff_getElem]at h
 exact h.1
theorem u7 (s:Str) (l:List Str):-1≤kX s l∧(kX s l).toNat≤l.length∧(0≤kX s l→(kX s l).toNat<l.length):=by
 unfold kX ga
 cases h:l.findIdx? fun y=>decide (s=y) with
 | none=>simp
 | some j=>
   rw[List.findIdx?_eq_some_iff_getElem]at h
   have:=h.1
   simp;omega
theorem Je (n:Nat):List.replicate n (AV.fn (.func bH) [.ptr i 0] [])=(List.replicate n Way.value).flatMap (HV i):=by
 induction n with
 | zero=>rfl
 | succ n ih=>rw[List.replicate_succ,List.replicate_succ,List.flatMap_cons,ih];rfl
theorem DL (hA:ju) (l:List Str) (hl:l.length<4000000000) (hs:∀ s∈l,s.length<4000000000) (n:Nat) (hn:n<100) {rs:RS}(ha:rs.args.length=0) (r:RSt h0 h i rs)
  (k:∀ h',RSt h0 h' i (pa l (List.replicate n .value) rs).1→Q (B (pa l (List.replicate n .value) rs).2) h'):
  C jV [(.fn (.func bH) [.ptr i 0] []),I (n:Nat)] h fun t h9=>C fR [.snap l.length (l.flatMap sE),t] h9 Q:=by
 refine aag _ rfl rfl rfl n (by omega) fun v E h' a s=>?_
 obtain⟨v0,E0,a0,s0⟩:=r
 have sj:=s0.join s a.own
 exact Kt hA l hl hs (List.replicate n .value) (by simp;omega) ha (v:=v) (E:=E) (by rw[← Je];simpa using a) a0 sj k
theorem MB (hF:cB) (hI:gH) (hA:ju) (name rest:Str) (hr:rest.length<3000000000) {rs:RS}(ha:rs.args=[]) (r:RSt h0 h i rs) (k:∀ h',RSt h0 h' i (xb name rest rs).1→Q (B (xb name rest rs).2) h'):
  C gx [.ptr i 0,T name,T rest] h Q:=by
 refine tz _ _ _ _ _ ?_
 unfold nu
 refine No hI rest (by omega) fun h1 f1=>?_
 have r1:=r.call f1
 obtain⟨hol,hos⟩:=IB rest hr
 refine TB name fun h2 f2=>?_
 have r2:=r1.call f2
 have ha0:rs.args.length=0:=by rw[ha];rfl
 unfold xb at k
 (repeat refine aG rfl ?_)
 cases hf:nV name with
 | some op=>
   rw[hf]at k
   refine ah (fun _=>?_) (fun h=>by cases h)
   (repeat (first|refine au ?_|refine aj ?_))
   refine r2.put (rs':={ rs with kind:=1 }) rfl rfl rfl (by omega) rfl (fun v=>rfl) fun h3 r3=>?_
   (repeat (first|refine au ?_|refine aj ?_))
   refine r3.put (rs':={ rs with kind:=1,op:=op }) rfl rfl rfl (by omega) rfl (fun v=>rfl) fun h4 r4=>?_
   exact Ic hF hI hA (rs:={ rs with kind:=1,op:=op }) (CO hf) ha0 r4 _ hol hos k
 | none=>
 rw[hf]at k
 simp only at k
 refine ah (fun h=>by cases h) (fun _=>?_)
 refine ZD ?_
 refine lA name growsL (by decide) (Row.full (enc:=sE) (fun _=>rfl) growsL) ?_
 obtain⟨g1,g2,g3⟩:=u7 name growsL
 rw[show ga (fun y=>decide (name=y)) growsL=kX name growsL from rfl]
 generalize hgi:kX name growsL=gi at k g1 g2 g3 ⊢
 (repeat refine bz ?_)
 refine ah (fun hg=>?_) (fun hg=>?_)<;>simp only[za,zb,zc,zd,ze,zf,zg,zh,zi,u8i,zj,zk,zl]at hg
 ·rw[if_pos hg]at k
  have g3:=g3 hg
  have:growsL.length=3:=rfl
  (repeat (first|refine au ?_|refine aj ?_))
  refine r2.put (rs':={ rs with kind:=2 }) rfl rfl rfl (by omega) rfl (fun v=>rfl) fun h3 r3=>?_
  (repeat (first|refine au ?_|refine aj ?_))
  obtain⟨n,rfl⟩:∃ n:Nat,gi=n:=⟨gi.toNat,by omega⟩
  rw[Int.toNat_natCast]at k g3
  refine r3.put (rs':={ rs with kind:=2,op:=n }) rfl rfl rfl (by omega) rfl (fun v=>rfl) fun h4 r4=>?_
  have hq:(n:Int).tdiv 2=((n / 2:Nat):Int):=by rw[Int.tdiv_eq_ediv_of_nonneg (by omega)];omega
  refine nY (by decide) (by rw[hq];omega) ?_
  rw[hq]
  refine vp (by omega) ?_
  refine aI (by omega) ?_
  have e1:(1:Int)+((n / 2:Nat):Int)*2=((1+n / 2*2:Nat):Int):=by omega
  rw[e1]
  exact DL hA _ hol hos _ (by omega) (rs:={ rs with kind:=2,op:=n }) ha0 r4 k
 rw[if_neg (by omega)]at k
 have hdat:∀ d:Nat,kX name datasL=d→ci (B true) (T name) (.snap (bZ rest).length ((bZ rest).flatMap sE)) (.ptr i 0) (T name) (T rest) h2 Q:=by
  intro d hd
  have hd3:d<3:=by
   have:=u7 name datasL
   have h3:datasL.length=3:=rfl
   omega
  rw[hd,if_pos (by omega),Int.toNat_natCast]at k
  unfold ci
  refine ah (fun _=>?_) (fun h=>by cases h)
  refine aB rfl rfl ?_
  refine lA name datasL (by decide) (Row.full (enc:=sE) (fun _=>rfl) datasL) ?_
  rw[show ga (fun y=>decide (name=y)) datasL=kX name datasL from rfl,hd]
  refine aI (by omega) ?_
  have e1:(3:Int)+(d:Int)=((3+d:Nat):Int):=by omega
  rw[e1]
  (repeat (first|refine au ?_|refine aj ?_))
  refine r2.put (rs':={ rs with kind:=3+d }) rfl rfl rfl (by omega) rfl (fun v=>rfl) fun h3 r3=>?_
  (repeat (first|refine cz ?_|refine bz ?_))
  refine ah (fun hn1=>?_) (fun hn1=>?_)<;>simp only[za,zb,zc,zd,ze,zf,zg,zh,zi,u8i,zj,zk,zl]at hn1
  ·(repeat (first|refine cz ?_|refine fK ?_))
   refine ah (fun hn2=>?_) (fun hn2=>?_)<;>simp only[za,zb,zc,zd,ze,zf,zg,zh,zi,u8i,zj,zk,zl]at hn2
   ·rw[if_pos ⟨by omega,by omega⟩]at k
    (repeat refine cz ?_)
    exact DL hA _ hol hos _ (by omega) (rs:={ rs with kind:=3+d }) ha0 r3 k
   ·rw[if_neg (by omega)]at k
    exact k h3 r3
  ·rw[if_neg (by omega)]at k
   exact k h3 r3
 refine aU ?_
 refine ah (fun hb1=>?_) (fun hb1=>?_)<;>simp only[za,zb,zc,zd,ze,zf,zg,zh,zi,u8i,zj,zk,zl]at hb1
 ·rw[decide_eq_true hb1];exact hdat 0 (by rw[hb1];decide)
 refine aU ?_
 refine ah (fun hb2=>?_) (fun hb2=>?_)<;>simp only[za,zb,zc,zd,ze,zf,zg,zh,zi,u8i,zj,zk,zl]at hb2
 ·rw[decide_eq_true hb2];exact hdat 1 (by rw[hb2];decide)
 refine aU ?_
 cases hb3:decide (name=[46,108,111,110,103]) with
 | true=>exact hdat 2 (by simp only[decide_eq_true_eq]at hb3;rw[hb3];decide)
 | false=>
 simp only[decide_eq_false_iff_not]at hb3
 have hnd:kX name datasL=-1:=by
  unfold kX
  refine iJ fun j hj=>?_
  have h3:datasL.length=3:=rfl
  have:j=0∨j=1∨j=2:=by omega
  rcases this with rfl|rfl|rfl
  ·exact decide_eq_false hb1
  ·exact decide_eq_false hb2
  ·exact decide_eq_false hb3
 rw[hnd,if_neg (by omega)]at k
 unfold ci
 refine ah (fun h=>by cases h) (fun _=>?_)
 refine aU ?_
 refine ah (fun hasc=>?_) (fun hasc=>?_)<;>simp only[za,zb,zc,zd,ze,zf,zg,zh,zi,u8i,zj,zk,zl]at hasc
 ·rw[if_pos hasc]at k
  (repeat (first|refine au ?_|refine aj ?_))
  refine r2.put (rs':={ rs with kind:=6 }) rfl rfl rfl (by omega) rfl (fun v=>rfl) fun h3 r3=>?_
  exact Yv rest r3 k
 rw[if_neg hasc]at k
 have hspc:∀ d:Nat,kX name spacesL=d→cO (B true) (T name) (.snap (bZ rest).length ((bZ rest).flatMap sE)) (.ptr i 0) (T name) h2 Q:=by
  intro d hd
  have hd3:d<2:=by
   have:=u7 name spacesL
   have h3:spacesL.length=2:=rfl
   omega
  rw[hd,if_pos (by omega),Int.toNat_natCast]at k
  unfold cO
  refine ah (fun _=>?_) (fun h=>by cases h)
  refine aB rfl rfl ?_
  refine lA name spacesL (by decide) (Row.full (enc:=sE) (fun _=>rfl) spacesL) ?_
  rw[show ga (fun y=>decide (name=y)) spacesL=kX name spacesL from rfl,hd]
  refine aI (by omega) ?_
  have e1:(7:Int)+(d:Int)=((7+d:Nat):Int):=by omega
  rw[e1]
  (repeat (first|refine au ?_|refine aj ?_))
  refine r2.put (rs':={ rs with kind:=7+d }) rfl rfl rfl (by omega) rfl (fun v=>rfl) fun h3 r3=>?_
  exact DL hA _ hol hos 1 (by omega) (rs:={ rs with kind:=7+d }) ha0 r3 k
 refine aU ?_
 refine ah (fun ha1=>?_) (fun ha1=>?_)<;>simp only[za,zb,zc,zd,ze,zf,zg,zh,zi,u8i,zj,zk,zl]at ha1
 ·rw[show decide (name=[46,97,108,105,103,110])=true by rw[ha1];rfl]
  exact hspc 0 (by rw[ha1];decide)
 refine aU ?_
 cases ha2:decide (name=[46,115,112,97,99,101]) with
 | true=>exact hspc 1 (by simp only[decide_eq_true_eq]at ha2;rw[ha2];decide)
 | false=>
 simp only[decide_eq_false_iff_not]at ha2
 have hns:kX name spacesL=-1:=by
  unfold kX
  refine iJ fun j hj=>?_
  have h3:spacesL.length=2:=rfl
  have:j=0∨j=1:=by omega
  rcases this with rfl|rfl
  ·exact decide_eq_false ha1
  ·exact decide_eq_false ha2
 rw[hns,if_neg (by omega)]at k
 unfold cO
 refine ah (fun h=>by cases h) (fun _=>?_)
 refine aU ?_
 refine ah (fun heq=>?_) (fun heq=>?_)<;>simp only[za,zb,zc,zd,ze,zf,zg,zh,zi,u8i,zj,zk,zl]at heq
 ·rw[if_pos heq]at k
  (repeat (first|refine au ?_|refine aj ?_))
  refine r2.put (rs':={ rs with kind:=9 }) rfl rfl rfl (by omega) rfl (fun v=>rfl) fun h3 r3=>?_
  refine aB rfl rfl ?_
  exact Si hA _ hol hos [.word,.value] (by decide) (rs:={ rs with kind:=9 }) ha0 r3 (fun h'=>Row.snap (enc:=sE) (fun _=>rfl) _) (fun h'=>Row.full (enc:=HV i) (fun _=>rfl) [.word,.value]) k
 ·rw[if_neg heq]at k
  exact k h2 r2
def D1:Bool→Str→Str
 | _,[]=>[]
 | q,c::l=>if c=35∧q=false then [] else c::D1 (if c=34 then !q else q) l
def zZ (s:Str):Str:=ub (D1 false s)
theorem OX:∀ (q:Bool) (l:Str),(D1 q l).length≤l.length
 | _,[]=>by simp[D1]
 | q,c::l=>by
   unfold D1
   split
   ·simp
   ·have:=OX (if c=34 then !q else q) l;simp;omega
theorem PQ {s:Str}(hs:s.length<4000000000) (q:Bool) (j:Nat) (hj:j≤s.length) {next:NT}
  (k0:D1 q (s.drop j)=[]→∀ h',Fr [] h h'→Q (T (ub (s.take j))) h') (k1:∀ (hj:j<s.length),D1 q (s.drop j)=s[j]::D1 (if s[j]=34 then !q else q) (s.drop (j+1))→next [B (if s[j]=34 then !q else q),I ((j+1:Nat):Int)] h):
  rp (T s) (B q) (I (j:Nat)) h Q next:=by
 unfold rp
 have fin:D1 q (s.drop j)=[]→sa (T s) (I (j:Nat)) h Q:=by
  intro hc
  unfold sa
  refine qg (by omega) (by omega) ?_
  rw[Int.toNat_natCast]
  exact FZ _ (by simp;omega) (k0 hc)
 (repeat (first|refine aZ ?_|refine aA ?_))
 refine ah (fun hb=>?_) (fun hb=>?_)<;>simp only[za,zb,zc,zd,ze,zf,zg,zh,zi,u8i,zj,zk,zl]at hb
 ·have:j=s.length:=by omega
  subst this
  exact fin (by rw[List.drop_length];rfl)
 have hj2:j<s.length:=by omega
 have hcut:=List.drop_eq_getElem_cons hj2
 have go:¬(s[j]=35∧q=false)→rQ (T s) (B q) (I (j:Nat)) h next:=by
  intro hn
  have k1:=k1 hj2 (by rw[hcut,D1,if_neg hn])
  unfold rQ
  refine bR hj2 ?_
  refine aA ?_
  have e:decide ((s[j].toNat:Int)=34)=decide (s[j]=34):=by rw[Bool.eq_iff_iff];simp[← UInt8.toNat_inj];omega
  rw[e]
  refine ah (fun h34=>?_) (fun h34=>?_)<;>simp only[za,zb,zc,zd,ze,zf,zg,zh,zi,u8i,zj,zk,zl]at h34
  ·refine bm ?_
   unfold sG
   refine aI (by omega) ?_
   rw[if_pos h34]at k1;exact k1
  ·unfold sG
   refine aI (by omega) ?_
   rw[if_neg h34]at k1;exact k1
 refine bR hj2 ?_
 refine aA ?_
 have e:decide ((s[j].toNat:Int)=35)=decide (s[j]=35):=by rw[Bool.eq_iff_iff];simp[← UInt8.toNat_inj];omega
 rw[e]
 cases h35:decide (s[j]=35) with
 | true=>
   simp only[decide_eq_true_eq]at h35
   refine m5 (ah (fun _=>?_) (fun h=>by cases h)) ⟨_,rfl⟩
   refine bm ?_
   cases q with
   | true=>exact ah (fun h=>by cases h) (fun _=>go (by simp))
   | false=>exact ah (fun _=>fin (by rw[hcut,D1,if_pos ⟨h35,rfl⟩])) (fun h=>by cases h)
 | false=>
   simp only[decide_eq_false_iff_not]at h35
   exact m5 (ah (fun h=>by cases h) (fun _=>go (by simp[h35]))) ⟨_,rfl⟩
theorem aaB (s:Str) (hs:s.length<4000000000) (k:∀ h',Fr [] h h'→Q (T (zZ s)) h'):C uL [T s] h Q:=by
 refine Mp _ _ _ ?_
 unfold C4
 refine PQ hs false 0 (by omega) (fun hc=>by
  have:zZ s=ub (s.take 0):=by unfold zZ;rw[List.drop_zero]at hc;rw[hc];rfl
  rw[this]at k;exact k) (fun hj hc=>?_)
 refine aQ (fun n vs h'=>h'=h∧∃ (q:Bool) (j:Nat),vs=[B q,I (j:Nat)]∧j≤s.length∧n+j=s.length∧D1 false s=s.take j++D1 q (s.drop j)) (s.length-1) ⟨rfl,_,1,rfl,by omega,by omega,by
  rw[List.drop_zero]at hc;rw[hc]
  cases s with
  | nil=>simp at hj
  | cons c t=>rfl⟩ ?_
 rintro n vs h' ⟨rfl,q,j,rfl,hj2,hn,hcut⟩
 refine PQ hs q j hj2 (fun hc=>by
  have:zZ s=ub (s.take j):=by unfold zZ;rw[hcut,hc,List.append_nil]
  rw[this]at k;exact k) (fun hj3 hc=>?_)
 refine⟨n-1,by omega,rfl,_,j+1,rfl,by omega,by omega,?_⟩
 rw[hcut,hc,List.take_succ_eq_append_getElem hj3,List.append_assoc];rfl
end
end
section
variable [Tabs]
section
variable {h:ae}{Q:QT}
def AY (c:UInt8):Bool:=decide (c≠32)&&decide (c≠9)
theorem WF:Hp (.fn (.func ol) [] []) AY:=fun c h Q k=>by
 show ACall Pg ol [U8 c] h Q
 refine JA _ _ _ ?_
 unfold IR
 have e1:decide ((c.toNat:Int)≠32)=decide (c≠32):=by rw[Bool.eq_iff_iff];simp[← UInt8.toNat_inj];omega
 have e2:decide ((c.toNat:Int)≠9)=decide (c≠9):=by rw[Bool.eq_iff_iff];simp[← UInt8.toNat_inj];omega
 unfold AY at k
 refine bU ?_
 rw[e1]
 cases h1:decide (c≠32) with
 | true=>
   refine ah (fun _=>?_) (fun h=>by cases h)
   rw[h1,Bool.true_and]at k
   refine bU ?_
   rw[e2];exact k
 | false=>
   refine ah (fun h=>by cases h) (fun _=>?_)
   rw[h1,Bool.false_and]at k;exact k
def VN (b:Str):Option (Str×Str):=
 if b[da fL b]?=some 58 then (if eH (b.take (da fL b))=true then some (b.take (da fL b),ub (b.drop (da fL b+1))) else none) else some ([],b)
def rs0 (lab:Str):RS:=⟨lab,0,0,[],[]⟩
def OR (s:Str):Str:=s.take (da AY s)
def Ip (s:Str):Str:=ub (s.drop (da AY s))
def Pd (s:Str):Option (Option RS):=
 if 10∈s then none else
 match VN (zZ s) with
 | none=>none
 | some (lab,s')=>
   if s'=[] then (if lab=[] then some none else some (some (rs0 lab)))
   else if (xb (OR s') (Ip s') (rs0 lab)).2=true then some (some (xb (OR s') (Ip s') (rs0 lab)).1) else none
def smE (line:Nat) (rs:RS):List AV:=[I (line:Nat),T rs.lab,I (rs.kind:Nat),I (rs.op:Nat),T rs.text,.snap rs.args.length (rs.args.flatMap arE)]
abbrev zS:List AV:=[I 0,T [],I 0,I 0,T [],.full 0 []]
theorem PG (s:Str):(zZ s).length≤s.length:=Nat.le_trans (qK _) (OX _ _)
theorem Vf (l:List Str) (ws:List Way) (rs:RS):(pa l ws rs).1.args.length≤rs.args.length+ws.length:=by
 have hg:∀ (ws:List Way) (l:List Str) (rs:RS),(goW ws l rs).1.args.length≤rs.args.length+ws.length:=by
  intro ws
  induction ws with
  | nil=>intro l rs;simp[goW]
  | cons w ws ih=>
    intro l rs
    cases l with
    | nil=>simp[goW]
    | cons s l=>
      have h1:=KZ w s rs
      unfold goW
      split
      ·have:=ih l (kD w s rs).1;simp;omega
      ·simp;omega
 unfold pa
 split
 ·exact hg ws l rs
 ·simp
theorem NZ (s:Str) (rs:RS):(AH s rs).1.args=rs.args:=by unfold AH;split<;>rfl
theorem Tb (name rest:Str) (rs:RS) (h0:rs.args=[]):(xb name rest rs).1.args.length≤100:=by
 have ha:∀ (l:List Str) (ws:List Way) (rs':RS),rs'.args=[]→ws.length≤100→(pa l ws rs').1.args.length≤100:=fun l ws rs' h1 h2=>by
  have:=Vf l ws rs';rw[h1]at this;simp at this;omega
 unfold xb
 split
 ·rename_i op hop
  refine ha _ _ _ h0 ?_
  have ho:=CO hop
  have:=DV tbl[op] (by simp)
  rw[← jB ho]at this
  simp;omega
 ·split
  ·refine ha _ _ _ h0 ?_
   have:=u7 name growsL
   have h3:growsL.length=3:=rfl
   simp;omega
  ·split
   ·split
    ·exact ha _ _ _ h0 (by simp;omega)
    ·show rs.args.length≤100;rw[h0];simp
   ·split
    ·rw[NZ];show rs.args.length≤100;rw[h0];simp
    ·split
     ·exact ha _ _ _ h0 (by simp)
     ·split
      ·exact ha _ _ _ h0 (by simp)
      ·rw[h0];simp
theorem Rs (hF:cB) (hI:gH) (hA:ju) (s:Str) (hs:s.length<2000000000)
  (k0:Pd s=none→∀ h',Fr [] h h'→Q (.tup [.agg zS,B false]) h') (k1:Pd s=some none→∀ h',Fr [] h h'→Q (.tup [.agg zS,B true]) h') (k2:∀ rs,Pd s=some (some rs)→∀ h',Fr [] h h'→Q (.tup [.agg (smE 1 rs),B true]) h'):C xT [T s] h Q:=by
 refine ACall.conv ?_
 refine NM _ _ _ ?_
 unfold O6
 refine aM (St.start h) fun q h1 s1=>?_
 refine LO s 10 ?_
 have emem:decide (0≤Lib.indexByte s 10)=decide (10∈s):=by rw[Bool.eq_iff_iff,decide_eq_true_eq,decide_eq_true_eq];exact Jm s 10
 refine bz ?_
 rw[emem]
 unfold Pd at k0 k1 k2
 refine ah (fun h10=>?_) (fun h10=>?_)<;>simp only[za,zb,zc,zd,ze,zf,zg,zh,zi,u8i,zj,zk,zl]at h10
 ·rw[if_pos h10]at k0
  (repeat (first|refine aF ‹_› (.head _) (nle rfl) ?_|refine aD rfl ?_|refine ax ‹_› .head rfl rfl rfl (nle rfl) fun _ _=>?_))
  exact B0 (k0 rfl _ (by assumption:St h [] _ _).fr)
 rw[if_neg h10]at k0 k1 k2
 refine aaB s (by omega) fun h2 f2=>?_
 have s2:=s1.call f2
 have hbl:=PG s
 generalize zZ s=b at k0 k1 k2 hbl ⊢
 (repeat refine aD rfl ?_)
 refine aaX s2 rfl fun i h3 s3 r3=>?_
 have r3:St h2 [] h3 [(i,true,rdO (rs0 []) (.full 0 []))]:=r3
 have s3:St h [] h3 [(i,true,rdO (rs0 []) (.full 0 [])),(q,true,.cells zS)]:=s3
 have r0:RSt h2 h3 i (rs0 []):=⟨.full 0 [],[],.none 5,r3⟩
 refine uy Yn b (by omega) ?_
 have tail:∀ (lab s':Str) (h5:ae),s'.length<3000000000→RSt h2 h5 i (rs0 lab)→VN b=some (lab,s')→kp (T s') (.ptr i 0) (.ptr q 0) h5 (fun r h'=>∃ r2 h2,Conv r h' r2 h2∧Q r2 h2):=by
  intro lab s' h5 hs' r5 hlab
  rw[hlab]at k0 k1 k2
  simp only at k0 k1 k2
  obtain⟨v5,E5,a5,t5⟩:=r5
  have s5:St h [] h5 [(q,true,.cells zS)]:=s2.call t5.fr
  have r5:RSt h2 h5 i (rs0 lab):=⟨v5,E5,a5,t5⟩
  unfold kp
  (repeat refine aU ?_)
  refine ah (fun hb=>?_) (fun hb=>?_)<;>simp only[za,zb,zc,zd,ze,zf,zg,zh,zi,u8i,zj,zk,zl]at hb
  ·rw[if_pos hb]at k0 k1 k2
   (repeat (first|refine au ?_|refine aj ?_))
   refine r5.load (a:=T lab) (fun v=>rfl) ?_
   (repeat refine aU ?_)
   refine ah (fun hlb=>?_) (fun hlb=>?_)<;>simp only[za,zb,zc,zd,ze,zf,zg,zh,zi,u8i,zj,zk,zl]at hlb
   ·rw[if_pos hlb]at k1
    (repeat refine aD rfl ?_)
    refine ax s5 .head rfl rfl rfl (nle rfl) fun h6 s6=>?_
    (repeat refine aF ‹_› (.head _) (nle rfl) ?_)
    exact B0 (k1 rfl h6 s6.fr)
   ·rw[if_neg hlb]at k2
    (repeat (first|refine au ?_|refine aj ?_))
    rcases a5 with ⟨_,_,rfl,rfl⟩|⟨hl,j,rfl,rfl⟩
    ·refine aF t5 (cs:=[I 1,T lab,I 0,I 0,T [],.full 0 []]) (b:=true) (.head _) (nle rfl) ?_
     skip
     refine ax s5 .head rfl rfl rfl (nle rfl) fun h6 s6=>?_
     (repeat refine aF ‹_› (.head _) (nle rfl) ?_)
     refine⟨_,_,.wk (Wk.tup (.cons (Wk.agg (.cons (.refl _) (.cons (.refl _) (.cons (.refl _) (.cons (.refl _) (.cons (.refl _) (.cons (.full _ _) .nil))))))) (.cons (.refl _) .nil))) (.refl _ _),?_⟩
     exact k2 (rs0 lab) rfl h6 s6.fr
    ·have s5:=s2.join t5 (by simp)
     refine aF t5 (cs:=[I 1,T lab,I 0,I 0,T [],.sl j 0 0 5]) (b:=true) (.tail _ (.head _)) (nle rfl) ?_
     skip
     refine ax (cs:=zS) s5 (.tail (.tail .head)) rfl rfl rfl (nle rfl) fun h6 s6=>?_
     have s6:St h [] h6 [(j,true,.cells []),(i,true,rdO (rs0 lab) (.sl j 0 0 5)),(q,true,.cells [I 1,T lab,I 0,I 0,T [],.sl j 0 0 5])]:=s6
     (repeat refine aF ‹_› (by first|exact .head _|exact .tail _ (.tail _ (.head _))) (nle rfl) ?_)
     refine⟨_,_,.frz j [] (s6.get (.head _)) (.refl _ _),?_⟩
     have:=k2 (rs0 lab) rfl _ (s6.kill .head).fr
     simpa [fz,fzL,smE,rs0] using this
  ·rw[if_neg hb]at k0 k1 k2
   refine uy WF s' (by omega) ?_
   have hfl:=Lk AY s'
   refine qg (by omega) (by omega) ?_
   refine iw (by omega) (by omega) ?_
   rw[Int.toNat_natCast]
   refine FZ _ (by simp;omega) fun h6 f6=>?_
   have r6:=r5.call f6
   have htl:=qK (s'.drop (da AY s'))
   refine MB hF hI hA (OR s') (Ip s') (by unfold Ip;simp at htl;omega) rfl r6 fun h7 r7=>?_
   have hargs:=Tb (OR s') (Ip s') (rs0 lab) rfl
   generalize xb (OR s') (Ip s') (rs0 lab)=res at k0 k1 k2 r7 hargs ⊢
   obtain⟨v7,E7,a7,t7⟩:=r7
   have s7:St h [] h7 [(q,true,.cells zS)]:=s2.call t7.fr
   refine bm ?_
   refine ah (fun hr=>?_) (fun hr=>?_)
   ·simp only[Bool.not_eq_true']at hr
    rw[if_neg (by rw[hr];simp)]at k0
    (repeat refine aD rfl ?_)
    refine ax s7 .head rfl rfl rfl (nle rfl) fun h8 s8=>?_
    (repeat refine aF ‹_› (.head _) (nle rfl) ?_)
    exact B0 (k0 rfl h8 s8.fr)
   ·simp only[Bool.not_eq_false']at hr
    rw[if_pos hr]at k2
    (repeat (first|refine au ?_|refine aj ?_))
    refine ag t7 (cs:=[I 1,T res.1.lab,I (res.1.kind:Nat),I (res.1.op:Nat),T res.1.text,v7]) (b:=true) (List.mem_append_right _ (.head _)) rfl ?_
    refine Dk (by omega) (a7.rd t7) fun h8 f8=>?_
    have t8:=(a7.rest t7).call f8
    (repeat (first|refine au ?_|refine aj ?_))
    refine ax t8 (cs:=[I 1,T res.1.lab,I (res.1.kind:Nat),I (res.1.op:Nat),T res.1.text,v7]) .head rfl rfl rfl (nle rfl) fun h9 t9=>?_
    have t9:St h2 [] h9 [(i,true,.cells (smE 1 res.1))]:=t9
    have s9:St h [] h9 [(q,true,.cells zS)]:=s2.call t9.fr
    (repeat (first|refine au ?_|refine aj ?_))
    refine aF t9 (.head _) (nle rfl) ?_
    skip
    refine ax s9 .head rfl rfl rfl (nle rfl) fun h10 s10=>?_
    (repeat refine aF ‹_› (.head _) (nle rfl) ?_)
    exact B0 (k2 res.1 rfl h10 s10.fr)
 have hn:=Lk fL b
 (repeat (first|refine aZ ?_|refine aJ ?_))
 have nolab:b[da fL b]?≠some 58→kp (T b) (.ptr i 0) (.ptr q 0) h3 (fun r h'=>∃ r2 h2,Conv r h' r2 h2∧Q r2 h2):=fun hne=>tail [] b h3 (by omega) r0 (by unfold VN;rw[if_neg hne])
 refine ah (fun hlt=>?_) (fun hlt=>?_)<;>simp only[za,zb,zc,zd,ze,zf,zg,zh,zi,u8i,zj,zk,zl]at hlt
 ·have hlt:da fL b<b.length:=hlt
  refine bR hlt ?_
  refine aA ?_
  have e58:decide ((b[da fL b].toNat:Int)=58)=decide (b[da fL b]=58):=by rw[Bool.eq_iff_iff];simp[← UInt8.toNat_inj];omega
  rw[e58]
  refine ah (fun h58=>?_) (fun h58=>?_)<;>simp only[za,zb,zc,zd,ze,zf,zg,zh,zi,u8i,zj,zk,zl]at h58
  ·have hl58:b[da fL b]?=some 58:=by rw[List.getElem?_eq_getElem hlt,h58]
   have hlm:VN b=if eH (b.take (da fL b))=true then some (b.take (da fL b),ub (b.drop (da fL b+1))) else none:=by unfold VN;rw[if_pos hl58]
   refine qg (by omega) (by omega) ?_
   rw[Int.toNat_natCast]
   refine MN _ (by simp;omega) ?_
   refine bm ?_
   refine ah (fun hw=>?_) (fun hw=>?_)
   ·simp only[Bool.not_eq_true']at hw
    rw[if_neg (by rw[hw];simp)]at hlm
    rw[hlm]at k0
    (repeat refine aD rfl ?_)
    refine ax s3 (.tail .head) rfl rfl rfl (nle rfl) fun h4 s4=>?_
    (repeat refine aF ‹_› (by first|exact .head _|exact .tail _ (.head _)) (nle rfl) ?_)
    exact B0 (k0 rfl h4 s4.fr)
   ·simp only[Bool.not_eq_false']at hw
    rw[if_pos hw]at hlm
    refine qg (by omega) (by omega) ?_
    rw[Int.toNat_natCast]
    refine aI (by omega) ?_
    refine iw (by omega) (by omega) ?_
    rw[show ((da fL b:Int)+1).toNat=da fL b+1 by omega]
    refine FZ _ (by simp;omega) fun h4 f4=>?_
    have r4:=r0.call f4
    (repeat (first|refine au ?_|refine aj ?_))
    refine r4.put (rs':=rs0 (b.take (da fL b))) rfl rfl rfl (by omega) rfl (fun v=>rfl) fun h5 r5=>?_
    have htl:=qK (b.drop (da fL b+1))
    exact tail _ _ h5 (by simp at htl;omega) r5 hlm
  ·exact nolab (by rw[List.getElem?_eq_getElem hlt];simpa using h58)
 ·exact nolab (by rw[List.getElem?_eq_none (by omega)];simp)
end
end
section
variable [Tabs]
section
variable {h:ae}{Q:QT}
abbrev Sm:=Nat×RS
def smF (x:Sm):List AV:=smE x.1 x.2
def stm (x:Str) (i:Nat):List Sm:=match Pd x with
 | some (some rs)=>[(i+1,rs)]
 | _=>[]
def Hr (x:Str) (i:Nat):List Nat:=match Pd x with
 | none=>[i+1]
 | _=>[]
def DI {α:Type}(f:Str→Nat→List α) (ls:List Str) (n:Nat):List α:=(List.range n).flatMap fun i=>f ((ls[i]?).getD []) i
theorem Lp {α:Type}(f:Str→Nat→List α) (ls:List Str) {n:Nat}(h:n<ls.length):DI f ls (n+1)=DI f ls n++f ls[n] n:=by
 unfold DI
 rw[List.range_succ,List.flatMap_append]
 simp[h]
def ra (s:Str):List Sm:=DI stm (bM 10 s) (bM 10 s).length
def vy (s:Str):List Nat:=DI Hr (bM 10 s) (bM 10 s).length
theorem xF {α:Type}(f:Str→Nat→List α) (hf:∀ x i,(f x i).length≤1) (ls:List Str):∀ n,(DI f ls n).length≤n
 | 0=>by simp[DI]
 | n+1=>by
   have ih:=xF f hf ls n
   unfold DI at ih ⊢
   rw[List.range_succ,List.flatMap_append,List.length_append]
   have:=hf ((ls[n]?).getD []) n
   simp only[List.flatMap_cons,List.flatMap_nil,List.append_nil];omega
theorem TK (x:Str) (i:Nat):(stm x i).length≤1:=by unfold stm;split<;>simp
theorem OO (x:Str) (i:Nat):(Hr x i).length≤1:=by unfold Hr;split<;>simp
abbrev nE (n:Nat):List AV:=[I (n:Nat)]
theorem Lu (hF:cB) (hI:gH) (hA:ju) (s:Str) (hs:s.length<1000000000) (k:∀ h',Fr [] h h'→Q (.tup [.snap (ra s).length ((ra s).flatMap smF),.snap (vy s).length ((vy s).flatMap nE)]) h'):C tu [T s] h Q:=by
 refine I5 _ _ _ ?_
 unfold GK
 refine XF hI 10 s (by omega) fun h1 f1=>?_
 have hsum:=jD 10 s
 have hlen:=jH 10 s
 have hcnt:=List.count_le_length (a:=10) (l:=s)
 unfold ra vy at k
 generalize bM 10 s=ls at k hsum hlen ⊢
 have RL:∀ h,Row sE 1 h (.snap ls.length (ls.flatMap fun x=>[T x])) ls:=fun h=>Row.snap (enc:=sE) (fun _=>rfl) ls
 (repeat refine cz ?_)
 refine aQ (fun n vs h'=>∃ (j:Nat) (v1 v2:AV) (E1 E2:Own),vs=[v1,v2,I (j:Nat)]∧n+j=ls.length∧AccE 6 v1 (DI stm ls j).length ((DI stm ls j).flatMap smF) E1∧AccE 1 v2 (DI Hr ls j).length ((DI Hr ls j).flatMap nE) E2∧St h [] h' (E1++(E2++[]))) ls.length ⟨0,.full 0 [],.full 0 [],[],[],rfl,by omega,.none 6,.none 1,(St.start h).call f1⟩ ?_
 rintro n vs h2 ⟨j,v1,v2,E1,E2,rfl,hn,a1,a2,s2⟩
 have hl1:=xF stm TK ls j
 have hl2:=xF Hr OO ls j
 unfold yb
 (repeat refine aJ ?_)
 refine ah (fun hb=>?_) (fun hb=>?_)<;>simp only[za,zb,zc,zd,ze,zf,zg,zh,zi,u8i,zj,zk,zl]at hb
 ·have hj:j<ls.length:=hb
  refine (RL h2).idx (fun _=>rfl) hj fun p t=>?_
  refine aK t ?_
  have e1:=Lp stm ls hj
  have e2:=Lp Hr ls hj
  have hx:=hsum _ (List.getElem_mem hj)
  refine Rs hF hI hA ls[j] (by omega) (fun ho h3 f3=>?_) (fun ho h3 f3=>?_) (fun rs ho h3 f3=>?_)
  ·have s3:=s2.call f3
   rw[stm,ho,List.append_nil]at e1
   rw[Hr,ho]at e2
   (repeat refine aG rfl ?_)
   refine aM s3 fun q h4 s4=>?_
   refine ax s4 .head rfl rfl rfl (nle rfl) fun h5 s5=>?_
   have s5:=s5.drop1
   (repeat (first|refine bm ?_|refine aI (by omega) ?_|refine aB rfl rfl ?_))
   refine a2.app s5.swap (xs:=nE (j+1)) (m:=1) (Rd.full rfl) rfl (by omega) fun v' E' h6 a6 s6=>?_
   unfold lh tf sU
   refine aI (by omega) ?_
   exact⟨n-1,by omega,j+1,v1,v',E1,E',rfl,by omega,by rw[e1];exact a1,by rw[e2];simpa using a6,s6.swap⟩
  ·have s3:=s2.call f3
   rw[stm,ho,List.append_nil]at e1
   rw[Hr,ho,List.append_nil]at e2
   (repeat refine aG rfl ?_)
   refine aM s3 fun q h4 s4=>?_
   refine ax s4 .head rfl rfl rfl (nle rfl) fun h5 s5=>?_
   (repeat (first|refine aj ?_|refine bm ?_|refine bD ?_|refine aI (by omega) ?_|refine ag ‹_› (.head _) rfl ?_))
   have s6:=s5.drop1
   exact⟨n-1,by omega,j+1,v1,v2,E1,E2,rfl,by omega,by rw[e1];exact a1,by rw[e2];exact a2,s6⟩
  ·have s3:=s2.call f3
   rw[stm,ho]at e1
   rw[Hr,ho,List.append_nil]at e2
   (repeat refine aG rfl ?_)
   refine aM s3 fun q h4 s4=>?_
   refine ax s4 .head rfl rfl rfl (nle rfl) fun h5 s5=>?_
   (repeat (first|refine aj ?_|refine bm ?_|refine bD ?_|refine aI (by omega) ?_|refine ag ‹_› (.head _) rfl ?_))
   refine ax s5 .head rfl rfl rfl (nle rfl) fun h6 s6=>?_
   (repeat (first|refine aF ‹_› (.head _) (nle rfl) ?_|refine aB rfl rfl ?_))
   have s7:=s6.drop1
   refine a1.app s7 (xs:=smF (j+1,rs)) (m:=1) (Rd.full rfl) rfl (by omega) fun v' E' h8 a8 s8=>?_
   unfold lh tf sU
   refine aI (by omega) ?_
   exact⟨n-1,by omega,j+1,v',v2,E',E2,rfl,by omega,by rw[e1];simpa using a8,by rw[e2];exact a2,s8⟩
 ·have hj:j=ls.length:=by omega
  subst hj
  refine CG (by omega) (a1.rd s2) fun h3 f3=>?_
  have s3:=s2.call f3
  refine Nd (by omega) (a2.rd s3.swap) fun h4 f4=>?_
  exact k h4 (s3.call f4).fr
end
end
section
abbrev KV:=List (List UInt8×Int)
def bw (k:List UInt8):KV→Option Int
 | []=>none
 | (a,v)::r=>if k=a then some v else bw k r
def putA (k:List UInt8) (v:Int):KV→KV
 | []=>[(k,v)]
 | (a,w)::r=>if k=a then (k,v)::r else (a,w)::putA k v r
def bP (kv:KV):List (List UInt8):=kv.map (·.1)
theorem A2 {k:List UInt8}:∀ {kv:KV},bw k kv=none↔k∉bP kv
 | []=>by simp[bw,bP]
 | (a,v)::r=>by
   unfold bw
   by_cases h:k=a
   ·subst h;simp[bP]
   ·rw[if_neg h,A2 (kv:=r)];simp[bP,h]
theorem KB {k:List UInt8}{v:Int}:∀ {kv:KV},(bP kv).Nodup→(bw k kv=some v↔(k,v)∈kv)
 | [],_=>by simp[bw]
 | (a,w)::r,nd=>by
   simp only[bP,List.map_cons,List.nodup_cons]at nd
   unfold bw
   by_cases h:k=a
   ·subst h
    rw[if_pos rfl]
    simp only[Option.some.injEq,List.mem_cons,Prod.mk.injEq,true_and]
    constructor
    ·intro h;exact .inl h.symm
    ·rintro (h|h)
     ·exact h.symm
     ·exact (nd.1 (List.mem_map.2 ⟨_,h,rfl⟩)).elim
   ·rw[if_neg h,KB (kv:=r) nd.2];simp[h]
theorem AQ (k:List UInt8) (v:Int):∀ kv:KV,(bw k kv=none∧putA k v kv=kv++[(k,v)])∨∃ A w B,kv=A++(k,w)::B∧bw k kv=some w∧k∉bP A∧putA k v kv=A++(k,v)::B
 | []=>.inl ⟨rfl,rfl⟩
 | (a,w)::r=>by
   by_cases h:k=a
   ·subst h
    exact .inr ⟨[],w,r,rfl,by simp[bw],by simp[bP],by simp[putA]⟩
   ·rcases AQ k v r with ⟨h1,h2⟩|⟨A,w',B,rfl,h1,h2,h3⟩
    ·exact .inl ⟨by rw[bw,if_neg h,h1],by rw[putA,if_neg h,h2];rfl⟩
    ·exact .inr ⟨(a,w)::A,w',B,rfl,by rw[bw,if_neg h,h1],by simp[bP,h]at h2 ⊢;exact h2,by rw[putA,if_neg h,h3];rfl⟩
theorem QZ (k:List UInt8) (v:Int) (kv:KV):bP (putA k v kv)=if k∈bP kv then bP kv else bP kv++[k]:=by
 rcases AQ k v kv with ⟨h1,h2⟩|⟨A,w,B,rfl,h1,h2,h3⟩
 ·rw[A2]at h1;rw[if_neg h1,h2];simp[bP]
 ·rw[h3,if_pos (by simp[bP])];simp[bP]
theorem qR {k:List UInt8}{v:Int}{kv:KV}(nd:(bP kv).Nodup):(bP (putA k v kv)).Nodup:=by
 rw[QZ]
 split
 ·exact nd
 ·rename_i h
  rw[List.nodup_append]
  exact⟨nd,by simp,fun a ha b hb e=>by simp at hb;subst hb;subst e;exact h ha⟩
theorem nF (k k':List UInt8) (v:Int):∀ kv:KV,bw k' (putA k v kv)=if k'=k then some v else bw k' kv
 | []=>by simp only[putA,bw]
 | (a,w)::r=>by
   unfold putA
   by_cases h:k=a
   ·subst h
    rw[if_pos rfl]
    by_cases h2:k'=k
    ·simp[bw,h2]
    ·simp[bw,h2]
   ·rw[if_neg h]
    by_cases h2:k'=a
    ·subst h2;simp[bw,Ne.symm h]
    ·simp[bw,h2,nF k k' v r]
def dN:Nat→KV→eN
 | _,[]=>[]
 | n,(k,v)::r=>(.string ⟨⟨k⟩⟩,n,I v)::dN (n+1) r
abbrev bF (kv:KV):AObj:=.amap (dN 0 kv) kv.length
theorem yJ:∀ (n:Nat) (kv:KV),(dN n kv).length=kv.length
 | _,[]=>rfl
 | n,(k,v)::r=>by simp[dN,yJ]
theorem CS:∀ (n:Nat) (kv:KV) (j:Nat) (hj:j<kv.length),(dN n kv)[j]?=some (.string ⟨⟨kv[j].1⟩⟩,n+j,I kv[j].2)
 | n,[],j,hj=>by simp at hj
 | n,(k,v)::r,0,_=>by simp[dN]
 | n,(k,v)::r,j+1,hj=>by
   simp only[dN,List.getElem?_cons_succ]
   rw[CS (n+1) r j (by simpa using hj)]
   simp;omega
theorem uw:∀ (n:Nat) (kv:KV),(dN n kv).all (fun e=>kOk .string e.1)=true
 | _,[]=>rfl
 | n,(k,v)::r=>by rw[dN,List.all_cons,uw (n+1) r];rfl
theorem Kd:∀ (n:Nat) (kv:KV),(dN n kv).all (fun e=>e.1.oneCell')=true
 | _,[]=>rfl
 | n,(k,v)::r=>by rw[dN,List.all_cons,Kd (n+1) r];rfl
theorem vc:∀ (n:Nat) (a b:KV),dN n (a++b)=dN n a++dN (n+a.length) b
 | n,[],b=>by simp[dN]
 | n,(k,v)::r,b=>by
   simp only[List.cons_append,dN,vc (n+1) r b,List.length_cons]
   rw[show n+1+r.length=n+(r.length+1) by omega]
section
variable [Tabs]
theorem Z1 (a b:List UInt8):keq (.string ⟨⟨a⟩⟩) (.string ⟨⟨b⟩⟩)=decide (a=b):=by
 rw[Bool.eq_iff_iff,decide_eq_true_eq]
 constructor
 ·intro h
  have:=ZQ (d:=.string) (a:=.string ⟨⟨a⟩⟩) (b:=.string ⟨⟨b⟩⟩) rfl rfl h
  injection this with h;injection h with h;injection h
 ·rintro rfl
  obtain⟨r,h1,h2⟩:=Go.MapKept.sameNow_of_keys (a:=.string ⟨⟨a⟩⟩) (b:=.string ⟨⟨a⟩⟩) (d:=.string) (gS rfl) (gS rfl)
  rw[Hw rfl rfl]at h1
  cases h1
  exact h2.2 rfl
theorem oO (k:List UInt8):∀ (n i:Nat) (kv:KV),(lW (.string ⟨⟨k⟩⟩) (dN n kv) i=none∧bw k kv=none)∨∃ j,∃ hj:j<kv.length,lW (.string ⟨⟨k⟩⟩) (dN n kv) i=some (i+j,n+j,I kv[j].2)∧kv[j].1=k∧bw k kv=some kv[j].2∧∀ q (hq:q<j),(kv[q]'(by omega)).1≠k
 | n,i,[]=>.inl ⟨rfl,rfl⟩
 | n,i,(a,v)::r=>by
   unfold dN lW
   rw[Z1]
   by_cases h:k=a
   ·subst h
    exact .inr ⟨0,by simp,by simp,rfl,by simp[bw],fun q hq=>by omega⟩
   ·rw[if_neg (by simpa using h)]
    rcases oO k (n+1) (i+1) r with ⟨h1,h2⟩|⟨j,hj,h1,h2,h3,h4⟩
    ·exact .inl ⟨h1,by rw[bw,if_neg h,h2]⟩
    ·refine .inr ⟨j+1,by simpa using hj,?_,by simpa using h2,by rw[bw,if_neg h,h3];simp,fun q hq=>?_⟩
     ·rw[h1];simp;omega
     ·cases q with
      | zero=>simpa using Ne.symm h
      | succ q=>simpa using h4 q (by omega)
theorem KG:∀ (n:Nat) (kv:KV) (j:Nat) (k:List UInt8) (v:Int),j<kv.length→(dN n kv).set j (.string ⟨⟨k⟩⟩,n+j,I v)=dN n (kv.set j (k,v))
 | n,[],j,k,v,h=>by simp at h
 | n,(a,w)::r,0,k,v,h=>by simp[dN]
 | n,(a,w)::r,j+1,k,v,h=>by
   simp only[dN,List.set_cons_succ]
   rw[← KG (n+1) r j k v (by simpa using h)]
   rw[show n+1+j=n+(j+1) by omega]
theorem Pr (k:List UInt8) (v:Int):∀ (kv:KV) (j:Nat) (hj:j<kv.length),kv[j].1=k→(∀ q (hq:q<j),(kv[q]'(by omega)).1≠k)→putA k v kv=kv.set j (k,v)
 | [],j,hj,_,_=>by simp at hj
 | (a,w)::r,0,hj,h1,_=>by
   simp at h1;subst h1;simp[putA]
 | (a,w)::r,j+1,hj,h1,h2=>by
   have ha:k≠a:=fun e=>h2 0 (by omega) (by simpa using e.symm)
   rw[putA,if_neg ha,List.set_cons_succ,Pr k v r j (by simpa using hj) (by simpa using h1) fun q hq=>by simpa using h2 (q+1) (by omega)]
theorem JZ {k:List UInt8}{v:Int}{kv:KV}(h:bw k kv=none):putA k v kv=kv++[(k,v)]:=by
 rcases AQ k v kv with ⟨_,h2⟩|⟨A,w,B,_,h1,_,_⟩
 ·exact h2
 ·rw[h]at h1;cases h1
theorem WB (k:List UInt8) (v:Int) (kv:KV):Ox (.string ⟨⟨k⟩⟩) (I v) kv.length (dN 0 kv)=bF (putA k v kv):=by
 unfold Ox
 rcases oO k 0 0 kv with ⟨h1,h2⟩|⟨j,hj,h1,h2,h3,h4⟩
 ·rw[h1,JZ h2]
  simp[vc,dN]
 ·rw[h1,Pr k v kv j hj h2 h4]
  simp only[Nat.zero_add]
  have:=KG 0 kv j k v hj
  rw[Nat.zero_add]at this
  rw[this];simp
end
section
variable [Tabs]
variable {h0 h:ae}{M:List Nat}{L L':Own}{K:AV→Prop}{KH:QT}{KS:ae→Prop}
theorem UP {j:Nat}{kv:KV}{k:Str}(e:h[j]?=some (bF kv)) (q:K (.tup [I ((bw k kv).getD 0),B (bw k kv).isSome])):c6 .string true (I 0) (.map j) (T k) h K:=⟨by
 simp only[ir,e]
 rw[if_pos (by rw[uw];rfl)]
 rcases oO k 0 0 kv with ⟨h1,h2⟩|⟨j,hj,h1,h2,h3,h4⟩
 ·rw[h1];rw[h2]at q;exact q
 ·rw[h1];rw[h3]at q;exact q⟩
theorem RH {j:Nat}{kv:KV}{k:Str}(e:h[j]?=some (bF kv)) (q:K (I ((bw k kv).getD 0))):c6 .string false (I 0) (.map j) (T k) h K:=⟨by
 simp only[ir,e]
 rw[if_pos (by rw[uw];rfl)]
 rcases oO k 0 0 kv with ⟨h1,h2⟩|⟨j,hj,h1,h2,h3,h4⟩
 ·rw[h1];rw[h2]at q;exact q
 ·rw[h1];rw[h3]at q;exact q⟩
theorem uz {j:Nat}{kv:KV}{k:Str}{v:Int}(s:St h0 M h L) (u:Sub L (j,true,bF kv) L' (j,true,bF (putA k v kv))) (q:∀ h',St h0 M h' L'→KS h'):bV .string (.map j) (T k) (I v) h KS:=⟨by
 simp only[gq,s.get u.mem]
 rw[if_pos (by rw[uw];rfl),WB]
 exact q _ (s.turn u)⟩
theorem UM {j:Nat}{kv:KV}{k:Str}{v:Int}(s:St h0 M h L) (hn:bw k kv=none) (u:Sub L (j,true,bF kv) L' (j,true,bF (putA k v kv))) (q:∀ h',St h0 M h' L'→KS h'):
  qt .string (I 0) (.map j) (T k) h fun t131 h18=>am 1 t131 fun t132=>lS (.map j) t132 (I v) h18 fun h19=>KS h19:=⟨by
 simp only[kw,s.get u.mem]
 rw[if_pos (by rw[uw];rfl)]
 rcases oO k 0 0 kv with ⟨h1,_⟩|⟨j,hj,_,_,h3,_⟩
 ·rw[h1]
  refine aG rfl ⟨?_⟩
  have hj:=jL (s.get u.mem)
  simp only[gd,List.getElem?_set_self hj]
  have hb:∀ (n i:Nat) (kv:KV) (m:Nat),m=n+kv.length→uG (m:Int) (dN n kv++[(.string ⟨⟨k⟩⟩,m,I 0)]) i=some (i+kv.length,.string ⟨⟨k⟩⟩,m):=by
   intro n i kv
   induction kv generalizing n i with
   | nil=>intro m hm;simp[dN,uG]
   | cons x r ih=>
     intro m hm
     simp only[dN,List.cons_append,uG]
     rw[if_neg (by simp at hm ⊢;omega),ih (n+1) (i+1) m (by simp at hm;omega)]
     simp;omega
  rw[hb 0 0 kv kv.length (by omega)]
  simp only[Nat.zero_add,List.set_set]
  have e1:(dN 0 kv++[(Value.string ⟨⟨k⟩⟩,kv.length,I 0)]).set kv.length (.string ⟨⟨k⟩⟩,kv.length,I v)=dN 0 (kv++[(k,v)]):=by
   rw[List.set_append_right _ _ (by rw[yJ];omega),vc,yJ];simp[dN]
  rw[e1]
  have e2:AObj.amap (dN 0 (kv++[(k,v)])) (kv.length+1)=bF (putA k v kv):=by rw[JZ hn];simp
  rw[e2]
  exact q _ (s.turn u)
 ·rw[hn]at h3;cases h3⟩
abbrev KR (j:Nat) (kv:KV) (seen:List Nat):AObj:=.miter (some j) kv.length seen kv.length
theorem Ko {j:Nat}{kv:KV}(s:St h0 M h L) (e:h[j]?=some (bF kv)) (k:∀ i h',St h0 M h' ((i,true,KR j kv [])::L)→KH (.ptr i 0) h'):vm (.map j) h KH:=⟨by
 simp only[qd,e]
 exact k _ _ (s.push _)⟩
theorem QJ {j i:Nat}{kv:KV}{seen:List Nat}(s:St h0 M h ((i,true,KR j kv seen)::L)) (e:h[j]?=some (bF kv)) (k0:(∀ q,q<kv.length→q∈seen)→KH (.tup [B false]) h)
  (k1:∀ q (hq:q<kv.length),q∉seen→∀ h',St h0 M h' ((i,true,KR j kv (seen++[q]))::L)→KH (.tup [B true,T kv[q].1,I kv[q].2]) h'):AG (.ptr i 0) h KH:=⟨by
 have hm:∀ x∈dN 0 kv,∃ q,∃ hq:q<kv.length,x=(.string ⟨⟨kv[q].1⟩⟩,q,I kv[q].2):=by
  intro x hx
  obtain⟨q,hq⟩:=List.getElem?_of_mem hx
  have hlt:q<kv.length:=by rw[← yJ 0 kv];exact (List.getElem?_eq_some_iff.1 hq).1
  rw[CS 0 kv q hlt,Nat.zero_add]at hq
  exact⟨q,hlt,by cases hq;rfl⟩
 have hin:∀ q (hq:q<kv.length),(Value.string ⟨⟨kv[q].1⟩⟩,q,I kv[q].2)∈dN 0 kv:=fun q hq=>by
  have:=CS 0 kv q hq
  rw[Nat.zero_add]at this
  exact List.mem_of_getElem? this
 simp only[vO,s.get (.head _),e]
 refine⟨⟨Kd 0 kv,?_⟩,fun hall=>k0 fun q hq=>?_,fun x hx hn=>?_⟩
 ·cases kv with
  | nil=>simp[dN]
  | cons x r=>simp[dN]
 ·rcases hall _ (hin q hq) with h|h
  ·exact h
  ·simp at h;omega
 ·obtain⟨q,hq,rfl⟩:=hm x hx
  exact k1 q hq hn _ (s.turn .head)⟩
theorem Lh {j i:Nat}{b:Bool}{kv:KV}{seen:List Nat}{q:Nat}(s:St h0 M h L) (u:(i,b,KR j kv (seen++[q]))∈L) (e:h[j]?=some (bF kv)) (hq:q<kv.length) (k:K (.tup [T kv[q].1,I kv[q].2])):A7 (.ptr i 0) h K:=⟨by
 have hb:∀ (n:Nat) (kv:KV) (q:Nat) (hq:q<kv.length),o5 (n+q) (dN n kv)=some (.string ⟨⟨kv[q].1⟩⟩,I kv[q].2):=by
  intro n kv
  induction kv generalizing n with
  | nil=>intro q hq;simp at hq
  | cons x r ih=>
    intro q hq
    simp only[dN,o5]
    cases q with
    | zero=>simp
    | succ q=>
      rw[if_neg (by simp)]
      have:=ih (n+1) q (by simpa using hq)
      rw[show n+1+q=n+(q+1) by omega]at this
      simpa using this
 simp only[pm,s.get u,e,List.getLast?_concat]
 have:=hb 0 kv q hq
 rw[Nat.zero_add]at this
 rw[this]
 simp only
 rw[if_pos (by simp[Value.oneCell'])]
 exact k⟩
end
end
section
def bN (here:Int) (look:Str→Option Int):Ex→Ev
 | .none=>(0,6)
 | .num n=>iz n
 | .name s=>match look s with
   | some y=>iz y
   | none=>(0,4)
 | .here=>iz here
 | .neg e=>if (bN here look e).2≠0 then (0,(bN here look e).2) else iz (-(bN here look e).1)
 | .bin k a b=>if (bN here look a).2≠0 then (0,(bN here look a).2) else if (bN here look b).2≠0 then (0,(bN here look b).2) else HU k (bN here look a).1 (bN here look b).1
theorem ZR {o:List Str}{n x:Str}:x∈wr o n↔x∈o∨x=n:=by
 unfold wr
 split
 ·rename_i h
  simp only[List.any_eq_true,decide_eq_true_eq,exists_eq_right']at h
  constructor
  ·exact .inl
  ·rintro (h1|rfl)
   ·exact h1
   ·exact h
 ·simp
theorem DG {x:Str}:∀ {l o:List Str},x∈l.foldl wr o↔x∈o∨x∈l
 | [],o=>by simp
 | n::l,o=>by rw[List.foldl_cons,DG (l:=l),ZR];simp[or_assoc]
def inE (x:Str):Ex→Prop
 | .name s=>x=s
 | .neg e=>inE x e
 | .bin _ a b=>inE x a∨inE x b
 | _=>False
theorem mem_names {x:Str}:∀ {e:Ex},x∈cb e↔inE x e
 | .none=>by simp[cb,inE]
 | .num _=>by simp[cb,inE]
 | .here=>by simp[cb,inE]
 | .name s=>by simp[cb,inE]
 | .neg e=>by simp only[cb,DG,inE,mem_names (e:=e)];simp
 | .bin k a b=>by simp only[cb,DG,inE,mem_names (e:=a),mem_names (e:=b)];simp
theorem FN {here:Int}{syms:List Sy}{look:Str→Option Int}:∀ {e:Ex},(∀ s,inE s e→(syms.find? fun y=>decide (y.1=s)).map (·.2)=look s)→je here syms e=bN here look e
 | .none,_=>rfl
 | .num _,_=>rfl
 | .here,_=>rfl
 | .name s,h=>by
   unfold je bN
   rw[← h s rfl]
   cases syms.find? fun y=>decide (y.1=s)<;>rfl
 | .neg e,h=>by unfold je bN;rw[FN (e:=e) fun s hs=>h s hs]
 | .bin k a b,h=>by unfold je bN;rw[FN (e:=a) fun s hs=>h s (.inl hs),FN (e:=b) fun s hs=>h s (.inr hs)]
def wg (look:Str→Option Int) (l:List Str):List Sy:=l.filterMap fun n=>(look n).map fun v=>(n,v)
theorem HS (look:Str→Option Int) (s:Str):∀ l:List Str,s∈l→((wg look l).find? fun y=>decide (y.1=s)).map (·.2)=look s
 | [],h=>by simp at h
 | n::l,h=>by
   unfold wg
   rw[List.filterMap_cons]
   by_cases hs:n=s
   ·subst hs
    cases hl:look n with
    | some v=>simp
    | none=>
      simp only[Option.map_none]
      have hn:∀ y∈l.filterMap fun n=>(look n).map fun v=>(n,v),¬ (decide (y.1=n)=true):=by
       intro y hy hd
       rw[List.mem_filterMap]at hy
       obtain⟨m,_,hm⟩:=hy
       cases hlm:look m with
       | none=>rw[hlm]at hm;cases hm
       | some w=>rw[hlm]at hm;cases hm;simp at hd;subst hd;rw[hl]at hlm;cases hlm
      rw[List.find?_eq_none.2 hn];rfl
   ·have hm:s∈l:=by simpa [Ne.symm hs] using h
    have ih:=HS look s l hm
    unfold wg at ih
    cases hl:look n with
    | none=>simpa using ih
    | some v=>simp only[Option.map_some];rw[List.find?_cons_of_neg (by simpa using hs)];exact ih
theorem Lm (look:Str→Option Int) (l:List Str):(wg look l).length≤l.length:=List.length_filterMap_le _ _
theorem QX (look:Str→Option Int) (l:List Str) {j:Nat}(h:j<l.length):wg look (l.take (j+1))=wg look (l.take j)++(match look l[j] with|some v=>[(l[j],v)]|none=>[]):=by
 unfold wg
 rw[List.take_succ_eq_append_getElem h,List.filterMap_append]
 congr 1
 cases hl:look l[j]<;>simp[hl]
section
variable [Tabs]
def MapAt (h:ae) (j:Nat) (f:Str→Option Int):Prop:=∃ kv,h[j]?=some (bF kv)∧(bP kv).Nodup∧∀ k,bw k kv=f k
theorem MapAt.fr {h h':ae}{j:Nat}{f:Str→Option Int}(m:MapAt h j f) (g:Fr [] h h'):MapAt h' j f:=by
 obtain⟨kv,h1,h2⟩:=m
 exact⟨kv,g.get h1 (by simp),h2⟩
variable {h:ae}{Q:QT}{K:AV→Prop}
theorem MapAt.look {j:Nat}{f:Str→Option Int}(m:MapAt h j f) {k:Str}(q:K (.tup [I ((f k).getD 0),B (f k).isSome])):c6 .string true (I 0) (.map j) (T k) h K:=by
 obtain⟨kv,h1,_,h2⟩:=m
 exact UP h1 (by rw[h2];exact q)
theorem MapAt.look0 {j:Nat}{f:Str→Option Int}(m:MapAt h j f) {k:Str}(q:K (I ((f k).getD 0))):c6 .string false (I 0) (.map j) (T k) h K:=by
 obtain⟨kv,h1,_,h2⟩:=m
 exact RH h1 (by rw[h2];exact q)
theorem qB {e:Ex}(ho:okE e) (hz:bo e<1000000) (here:Int) {j:Nat}{f:Str→Option Int}(m:MapAt h j f) (k:∀ h',Fr [] h h'→Q (evV (bN here f e)) h'):C gg [.agg (br e),I here,.map j] h Q:=by
 refine N8 _ _ _ _ _ ?_
 unfold Qf
 refine bB (St.start h) rfl fun i h1 s1=>?_
 have s1:St h [] h1 [(i,true,.cells (br e))]:=s1
 refine aL s1 (aw _) (.head _) ?_
 refine GH (bo e) e ho (Nat.le_refl _) (by omega) h1 _ fun h2 f2=>?_
 have s2:=s1.call f2
 have hnl:=lC e
 have RN2:∀ h,Row sE 1 h (.snap (cb e).length ((cb e).flatMap sE)) (cb e):=fun h=>Row.snap (enc:=sE) (fun _=>rfl) _
 have hkn:je here (wg f (cb e)) e=bN here f e:=FN fun s hs=>HS f s _ (mem_names.2 hs)
 generalize cb e=ns at RN2 hnl hkn ⊢
 (repeat refine cz ?_)
 refine aQ (fun n vs h'=>∃ (q:Nat) (v:AV) (E:Own),vs=[v,I (q:Nat)]∧n+q=ns.length∧AccE 2 v (wg f (ns.take q)).length ((wg f (ns.take q)).flatMap syE) E∧St h [] h' (E++[(i,true,.cells (br e))])) ns.length ⟨0,.full 0 [],[],rfl,by omega,.none 2,s2⟩ ?_
 rintro n vs h3 ⟨q,v,E,rfl,hn,a,s3⟩
 have hle:=Lm f (ns.take q)
 rw[List.length_take]at hle
 unfold E9
 (repeat refine aJ ?_)
 refine ah (fun hb=>?_) (fun hb=>?_)<;>simp only[za,zb,zc,zd,ze,zf,zg,zh,zi,u8i,zj,zk,zl]at hb
 ·have hq:q<ns.length:=hb
  refine (RN2 h3).idx (fun _=>rfl) hq fun p t=>?_
  refine aK t ?_
  refine (m.fr s3.fr).look ?_
  (repeat refine aG rfl ?_)
  have hs:=QX f ns hq
  cases hf:f ns[q] with
  | none=>
    rw[hf,List.append_nil]at hs
    refine ah (fun h=>by cases h) (fun _=>?_)
    unfold sC x6
    refine aI (by omega) ?_
    exact⟨n-1,by omega,q+1,v,E,rfl,by omega,by rw[hs];exact a,s3⟩
  | some y=>
    rw[hf]at hs
    refine ah (fun _=>?_) (fun h=>by cases h)
    (repeat (first|refine aD rfl ?_|refine aB rfl rfl ?_))
    refine a.app s3 (xs:=syE (ns[q],y)) (m:=1) (Rd.full rfl) rfl (by omega) fun v3 E3 h8 a3 s8=>?_
    unfold sC x6
    refine aI (by omega) ?_
    exact⟨n-1,by omega,q+1,v3,E3,rfl,by omega,by rw[hs];simpa using a3,s8⟩
 ·rw[List.take_of_length_le (by omega)]at a
  refine aL (a.rest s3) (aw _) (.head _) ?_
  have hl2:=Lm f ns
  refine F0 here (wg f ns) (by omega) e ho h3 _ (a.rd s3) fun h4 f4=>?_
  have s4:=s3.call f4
  rw[hkn]
  (repeat refine aG rfl ?_)
  exact k h4 s4.fr
def qP:Ex→Bool
 | .here=>true
 | .neg e=>qP e
 | .bin _ a b=>qP a||qP b
 | _=>false
theorem aaV:∀ (e:Ex),okE e→∀ (h:ae) (Q:QT),(∀ h',Fr [] h h'→Q (B (qP e)) h')→C eY [.agg (br e)] h Q:=by
 have hind:∀ n (e:Ex),bo e≤n→okE e→∀ (h:ae) (Q:QT),(∀ h',Fr [] h h'→Q (B (qP e)) h')→C eY [.agg (br e)] h Q:=by
  intro n
  induction n with
  | zero=>intro e he;cases e<;>simp[bo]at he
  | succ n ih=>
    intro e he ho h Q k
    refine Qz _ _ _ ?_
    unfold Po
    refine bB (St.start h) rfl fun i h1 s1=>?_
    have s1:St h [] h1 [(i,true,.cells (br e))]:=s1
    have hcl:(dZ e).length≤2:=by cases e<;>simp[dZ]
    have rest:qP e=(dZ e).any qP→C bL [((br e)[3]'(by rw[aw];omega)),(.fn (.func eY) [] [])] h1 Q:=fun he2=>by
     refine tB aw _ qP (dZ e) (by omega) (IH e h1) (fun x hx h' Q f' k'=>?_) fun h2 f2=>?_
     ·show ACall Pg eY _ _ _
      have:=Cr hx
      exact ih x (by omega) (Gj ho hx) h' Q k'
     ·rw[← he2];exact k h2 (s1.call f2).fr
    cases e with
    | here=>
      refine aj (ag s1 (.head _) rfl (aA (ah (fun _=>?_) (fun h=>absurd h (by decide)))))
      exact k h1 s1.fr
    | none=>
      refine aj (ag s1 (.head _) rfl (aA (ah (fun h=>absurd h (by decide)) (fun _=>?_))))
      exact aj (ag s1 (.head _) rfl (rest rfl))
    | num m=>
      refine aj (ag s1 (.head _) rfl (aA (ah (fun h=>absurd h (by decide)) (fun _=>?_))))
      exact aj (ag s1 (.head _) rfl (rest rfl))
    | name s=>
      refine aj (ag s1 (.head _) rfl (aA (ah (fun h=>absurd h (by decide)) (fun _=>?_))))
      exact aj (ag s1 (.head _) rfl (rest rfl))
    | neg e=>
      refine aj (ag s1 (.head _) rfl (aA (ah (fun h=>absurd h (by decide)) (fun _=>?_))))
      exact aj (ag s1 (.head _) rfl (rest (by simp[qP,dZ])))
    | bin k a b=>
      have hk2:=ho.1
      refine aj (ag s1 (.head _) rfl (aA (ah (fun h=>absurd h (by simp;omega)) (fun _=>?_))))
      exact aj (ag s1 (.head _) rfl (rest (by simp[qP,dZ])))
 exact fun e=>hind _ e (Nat.le_refl _)
end
end
section
structure En where
 frag:Str
 x:Sm
 place:Int
 grown:Bool
def enE (e:En):List AV:=[T e.frag,I (e.x.1:Nat),T e.x.2.lab,I (e.x.2.kind:Nat),I (e.x.2.op:Nat),T e.x.2.text,.snap e.x.2.args.length (e.x.2.args.flatMap arE),I e.place,B e.grown]
abbrev iE (v:Int):List AV:=[I v]
def Iv (e:En):Ar:=e.x.2.args.getLast?.getD ⟨-1,.none⟩
abbrev bQ (e:En):Ex:=(Iv e).e
abbrev YZ (n:Nat):Str:=([[115,101,95,98],[115,101,95,98,108],[115,101,95,98,99]][n]?).getD []
abbrev Y3 (n:Nat):Str:=([[101,95,98],[101,95,98,108],[101,95,98,99]][n]?).getD []
def jZ (n:Nat):Nat:=(nV (YZ n)).getD 0
def rC (n:Nat):Nat:=(nV (Y3 n)).getD 0
def cy (e:En):Nat:=if e.x.2.kind=1 then e.x.2.op else if e.grown then rC e.x.2.op else jZ e.x.2.op
structure WfS (x:RS):Prop where
 inst:x.kind=1→x.op<tbl.length∧(cV (bp x.op)).length≤x.args.length
 grow:x.kind=2→x.op<3∧(cV (bp (jZ x.op))).length≤x.args.length∧(cV (bp (rC x.op))).length≤x.args.length
 data:3≤x.kind→x.kind≠6→x.args≠[]
 kind:x.kind≤9
 args:x.args.length<1000000000
 text:x.text.length<1000000000
 arg:∀ a∈x.args,okE a.e∧bo a.e<1000000∧a.reg<1000
theorem YS {e:En}(w:WfS e.x.2) (hk:e.x.2.kind=1∨e.x.2.kind=2):cy e<tbl.length∧(cV (bp (cy e))).length≤e.x.2.args.length:=by
 unfold cy
 rcases hk with hk|hk
 ·rw[if_pos hk];exact w.inst hk
 ·rw[if_neg (by omega)]
  obtain⟨h1,h2,h3⟩:=w.grow hk
  have hs:∀ n,n<3→rC n<tbl.length∧jZ n<tbl.length:=by decide
  split
  ·exact⟨(hs _ h1).1,h3⟩
  ·exact⟨(hs _ h1).2,h2⟩
theorem yT {e:En}(w:WfS e.x.2) (h:e.x.2.args≠[]):okE (bQ e)∧bo (bQ e)<1000000:=by
 have hl:Iv e∈e.x.2.args:=by
  unfold Iv
  rw[List.getLast?_eq_some_getLast h]
  exact List.getLast_mem h
 exact⟨(w.arg _ hl).1,(w.arg _ hl).2.1⟩
section
variable [Tabs]
variable {h:ae}{Q:QT}{K:AV→Prop}
theorem NG (e:En) (h:ae):Row arE 5 h (.snap e.x.2.args.length (e.x.2.args.flatMap arE)) e.x.2.args:=Row.snap bS _
theorem yR {e:En}{p:Nat}(hp:h[p]?=some (.cells (enE e))) (w:WfS e.x.2) (hn:e.x.2.args≠[]) (k:∀ h',Fr [] h h'→Q (.agg (br (bQ e))) h'):C bt [.ptr p 0] h Q:=by
 refine Bn _ _ _ ?_
 unfold wM
 refine aM (St.startr hp) fun i h1 s1=>?_
 unfold enE at s1
 have hl:0<e.x.2.args.length:=List.length_pos_iff.2 hn
 have hal:=w.args
 (repeat (first|refine au ?_|refine aj ?_|refine cz ?_|refine cD (by omega) ?_|refine ag ‹_› (by first|exact .head _|exact .tail _ (.head _)) rfl ?_))
 rw[show ((e.x.2.args.length:Nat):Int)-1=((e.x.2.args.length-1:Nat):Int) by omega]
 refine (NG e h1).idx bS (by omega) fun q t=>?_
 refine x5 t (by rw[bS];omega) fun q2 t2=>?_
 have ha:(arE (e.x.2.args[e.x.2.args.length-1]'(by omega))).drop 1=br (bQ e):=by
  unfold bQ Iv
  rw[List.getLast?_eq_getElem?,List.getElem?_eq_getElem (by omega)];rfl
 rw[ha]at t2
 refine bq t2 (aw _).symm ?_
 refine aN s1 rfl (aw _) (aV _) .head fun h5 s5=>?_
 refine aL s5 (aw _) (.head _) ?_
 exact k h5 s5.fr
theorem abC (s:Str) (k:∀ h',Fr [] h h'→Q (I (((nV s).getD 0:Nat):Int)) h'):C yM [T s] h Q:=by
 refine Vl _ _ _ ?_
 unfold ZB
 refine TB s fun h1 f1=>?_
 (repeat refine aG rfl ?_)
 exact k h1 f1
theorem Ou {n:Nat}(hn:n<3) (k:∀ h',Fr [] h h'→Q (I (jZ n:Nat)) h'):C p8 [I (n:Nat)] h Q:=by
 refine MA _ _ _ ?_
 unfold KN
 (repeat refine aB rfl rfl ?_)
 refine (Row.full (h:=h) (enc:=sE) (fun _=>rfl) [[115,101,95,98],[115,101,95,98,108],[115,101,95,98,99]]).idx (fun _=>rfl) hn fun q t=>?_
 refine aK t ?_
 refine abC _ fun h1 f1=>?_
 have:=k h1 f1
 unfold jZ YZ at this
 rw[List.getElem?_eq_getElem (by simpa using hn)]at this
 exact this
theorem XV {n:Nat}(hn:n<3) (k:∀ h',Fr [] h h'→Q (I (rC n:Nat)) h'):C vo [I (n:Nat)] h Q:=by
 refine Nc _ _ _ ?_
 unfold KO
 (repeat refine aB rfl rfl ?_)
 refine (Row.full (h:=h) (enc:=sE) (fun _=>rfl) [[101,95,98],[101,95,98,108],[101,95,98,99]]).idx (fun _=>rfl) hn fun q t=>?_
 refine aK t ?_
 refine abC _ fun h1 f1=>?_
 have:=k h1 f1
 unfold rC Y3 at this
 rw[List.getElem?_eq_getElem (by simpa using hn)]at this
 exact this
theorem aa2 {e:En}{p:Nat}(hp:h[p]?=some (.cells (enE e))) (w:WfS e.x.2) (hk:e.x.2.kind=1∨e.x.2.kind=2) (k:∀ h',Fr [] h h'→Q (.agg [I (cy e:Nat),.full 0 []]) h'):C m9 [.ptr p 0] h Q:=by
 refine Bx _ _ _ ?_
 unfold yg
 refine aM (St.startr hp) fun i h1 s1=>?_
 unfold enE at s1
 unfold cy at k
 (repeat (first|refine au ?_|refine aj ?_|refine aA ?_|refine ag ‹_› (by first|exact .head _|exact .tail _ (.head _)) rfl ?_))
 refine ah (fun hb=>?_) (fun hb=>?_)<;>simp only[za,zb,zc,zd,ze,zf,zg,zh,zi,u8i,zj,zk,zl]at hb
 ·rw[if_pos (by omega)]at k
  (repeat (first|refine au ?_|refine aj ?_|refine ag ‹_› (by first|exact .head _|exact .tail _ (.head _)) rfl ?_|refine aF ‹_› (.head _) (nle rfl) ?_|refine aD rfl ?_|refine ax ‹_› .head rfl rfl rfl (nle rfl) fun _ _=>?_))
  exact k _ (by assumption:St h _ _ _).fr
 ·have hk:e.x.2.kind=2:=by omega
  rw[if_neg (by omega)]at k
  have ho:=(w.grow hk).1
  (repeat (first|refine au ?_|refine aj ?_|refine ag ‹_› (by first|exact .head _|exact .tail _ (.head _)) rfl ?_))
  cases hg:e.grown with
  | true=>
    rw[hg]at k
    refine ah (fun _=>?_) (fun h=>by cases h)
    (repeat (first|refine au ?_|refine aj ?_|refine ag ‹_› (by first|exact .head _|exact .tail _ (.head _)) rfl ?_))
    refine XV ho fun h2 f2=>?_
    have s2:=s1.call f2
    (repeat (first|refine aF ‹_› (.head _) (nle rfl) ?_|refine aD rfl ?_|refine ax ‹_› .head rfl rfl rfl (nle rfl) fun _ _=>?_))
    exact k _ (by assumption:St h _ _ _).fr
  | false=>
    rw[hg]at k
    refine ah (fun h=>by cases h) (fun _=>?_)
    (repeat (first|refine au ?_|refine aj ?_|refine ag ‹_› (by first|exact .head _|exact .tail _ (.head _)) rfl ?_))
    refine Ou ho fun h2 f2=>?_
    have s2:=s1.call f2
    (repeat (first|refine aF ‹_› (.head _) (nle rfl) ?_|refine aD rfl ?_|refine ax ‹_› .head rfl rfl rfl (nle rfl) fun _ _=>?_))
    exact k _ (by assumption:St h _ _ _).fr
def F6 (place:Int) (k:Str) (v:Int):Int:=if k.head?=some 84 then v-place else v
def ii (place:Int) (ks:List Str) (vs:List Int):List Int:=List.zipWith (F6 place) ks vs
theorem IQ {place:Int}:∀ {ks:List Str}{vs:List Int}{q:Nat}(h1:q<ks.length) (h2:q<vs.length),ii place (ks.take (q+1)) vs=ii place (ks.take q) vs++[F6 place ks[q] vs[q]]
 | [],_,q,h1,_=>by simp at h1
 | _::_,[],q,_,h2=>by simp at h2
 | k::ks,v::vs,0,_,_=>by simp[ii]
 | k::ks,v::vs,q+1,h1,h2=>by
   have:=IQ (place:=place) (ks:=ks) (vs:=vs) (q:=q) (by simpa using h1) (by simpa using h2)
   simp only[ii,List.take_succ_cons,List.zipWith_cons_cons,List.cons_append,List.getElem_cons_succ]at this ⊢
   rw[this]
end
theorem Zg:∀ r∈tbl,∀ k∈cV r.kinds,k≠[]:=by decide
theorem Ux:∀ r∈tbl,(cV r.kinds).length<10:=by decide
section
variable [Tabs]
variable {h:ae}{Q:QT}{K:AV→Prop}
variable {M:List Nat}{h0:ae}{L L':Own}{KS:ae→Prop}
structure ac0 (v:AV):Prop where
 tup:v.isTup=false
 cells:v.cells=[v]
 one:v.one=true
theorem AccE.v1 {sz n:Nat}{v:AV}{cs:List AV}{E:Own}(a:AccE sz v n cs E):ac0 v:=by
 rcases a with ⟨_,_,rfl,_⟩|⟨_,j,rfl,_⟩<;>exact⟨rfl,rfl,rfl⟩
theorem Dh {i o:Nat}{cs:List AV}{v:AV}(hv:ac0 v) (s:St h0 M h L) (e:Sub L (i,true,.cells cs) L' (i,true,.cells (splice cs o [v]))) (e4:o+1≤cs.length) (q:∀ h',St h0 M h' L'→KS h'):ak 1 (.ptr i o) v h KS:=
 ax s (by rw[hv.cells];exact e) hv.tup (by rw[hv.cells];rfl) (by rw[hv.cells];simp[hv.one]) e4 q
theorem TU (hF:cB) {e:En}{p:Nat}(hp:h[p]?=some (.cells (enE e))) (w:WfS e.x.2) (hk:e.x.2.kind=1∨e.x.2.kind=2) (vs:List Int) (hv:vs.length=e.x.2.args.length) (hb:∀ v∈vs,-4503599627370496≤v-e.place∧v-e.place≤4503599627370496)
  {fv:AV} (r:Row iE 1 h fv vs)
  (k:∀ v E h',AccE 1 v (ii e.place (cV (bp (cy e))) vs).length ((ii e.place (cV (bp (cy e))) vs).flatMap iE) E→St h [] h' E→Q (.agg [I (cy e:Nat),v]) h'):C jg [.ptr p 0,fv] h Q:=by
 obtain⟨ho,hlen⟩:=YS w hk
 refine BE _ _ _ _ ?_
 unfold xG
 refine aM (St.start h) fun i0 h1 s1=>?_
 refine aa2 (s1.fr.get hp (by simp)) w hk fun h2 f2=>?_
 have s2:=s1.call f2
 refine aM s2 fun i1 h3 s3=>?_
 (repeat (first|refine aj ?_|refine ag ‹_› (.head _) rfl ?_|refine ax ‹_› .head rfl rfl rfl (nle rfl) fun _ _=>?_))
 rename_i h4 s4
 refine PP ho fun h5 f5=>?_
 have s5:=s4.call f5
 have hmem:tbl[cy e]∈tbl:=List.getElem_mem ho
 rw[jB ho]at k hlen ⊢
 refine DC hF hmem ?_
 have hne:=Zg _ hmem
 have hfew:=Ux _ hmem
 have RK:∀ h,Row sE 1 h (.snap (cV tbl[cy e].kinds).length ((cV tbl[cy e].kinds).flatMap fun x=>[T x])) (cV tbl[cy e].kinds):=fun h=>Row.snap (enc:=sE) (fun _=>rfl) _
 generalize cV tbl[cy e].kinds=ks at k hlen hne hfew RK ⊢
 (repeat refine cz ?_)
 refine aQ (fun n vs' h'=>∃ (q:Nat) (v:AV) (E:Own),vs'=[I (q:Nat)]∧n+q=ks.length∧AccE 1 v (ii e.place (ks.take q) vs).length ((ii e.place (ks.take q) vs).flatMap iE) E∧St h [] h' (E++([(i1,true,.cells [I (cy e:Nat),v]),(i0,true,.cells [I 0,.full 0 []])]++[]))) ks.length ⟨0,.full 0 [],[],rfl,by omega,.none 1,s5⟩ ?_
 rintro n vs' h6 ⟨q,v,E,rfl,hn,a,s6⟩
 unfold qS
 have hfl:(ii e.place (ks.take q) vs).length≤ks.length:=by simp[ii];omega
 (repeat refine aJ ?_)
 refine ah (fun hq=>?_) (fun hq=>?_)<;>simp only[za,zb,zc,zd,ze,zf,zg,zh,zi,u8i,zj,zk,zl]at hq
 ·have hq:q<ks.length:=hq
  refine (RK h6).idx (fun _=>rfl) hq fun p1 t=>?_
  refine aK t ?_
  have hqv:q<vs.length:=by omega
  refine (r.fr s6.fr).idx (fun _=>rfl) hqv fun p2 t2=>?_
  refine aK t2 ?_
  have hkn:=hne _ (List.getElem_mem hq)
  have hk0:0<ks[q].length:=List.length_pos_iff.2 hkn
  refine bR (i:=0) hk0 ?_
  have hs:ii e.place (ks.take (q+1)) vs=ii e.place (ks.take q) vs++[F6 e.place ks[q] vs[q]]:=IQ hq hqv
  have hfin:∀ x,x=F6 e.place ks[q] vs[q]→i5 (I x) (I (q:Nat)) (.ptr i1 0) h6 (fun vs' h'=>∃ m,m<n∧∃ (q:Nat) (v:AV) (E:Own),vs'=[I (q:Nat)]∧m+q=ks.length∧AccE 1 v (ii e.place (ks.take q) vs).length ((ii e.place (ks.take q) vs).flatMap iE) E∧St h [] h' (E++([(i1,true,.cells [I (cy e:Nat),v]),(i0,true,.cells [I 0,.full 0 []])]++[]))):=by
   rintro x rfl
   unfold i5
   (repeat refine aj ?_)
   refine ag (a.rest s6) (.head _) rfl ?_
   (repeat refine aB rfl rfl ?_)
   refine a.app s6 (xs:=[I (F6 e.place ks[q] vs[q])]) (m:=1) (Rd.full rfl) rfl (by omega) fun v3 E3 h8 a3 s8=>?_
   have s9:=s8.swap
   (repeat refine aj ?_)
   refine Dh a3.v1 s9 .head (nle rfl) fun h10 s10=>?_
   (repeat refine aI (by omega) ?_)
   exact⟨n-1,by omega,q+1,v3,E3,rfl,by omega,by rw[hs];simpa using a3,St.swap (A:=[_,_]) (B:=E3) (L:=[]) s10⟩
  have h84:(ks[q].head?=some 84)↔ks[q][0]=84:=by
   rw[List.head?_eq_getElem?,List.getElem?_eq_getElem hk0];simp
  have hpl:=(s6.fr.get hp (by simp))
  have sp:=St.startr hpl
  unfold enE at sp
  have hbv:=hb _ (List.getElem_mem hqv)
  unfold F6 at hfin
  simp only[h84]at hfin
  (repeat refine aA ?_)
  refine ah (fun hT=>?_) (fun hT=>?_)<;>simp only[za,zb,zc,zd,ze,zf,zg,zh,zi,u8i,zj,zk,zl]at hT
  ·have hT:ks[q][0]=84:=by
    apply UInt8.toNat_inj.1
    show _=84
    omega
   refine au (aj (ag sp (.head _) rfl (cD (by omega) ?_)))
   exact hfin _ (by rw[if_pos hT])
  ·exact hfin _ (by rw[if_neg (by intro h;rw[h]at hT;exact hT rfl)])
 ·rw[List.take_of_length_le (by omega)]at a
  have s7:=s6.swap
  (repeat refine aF ‹_› (.head _) (nle rfl) ?_)
  refine ax s7 (.tail .head) rfl rfl (by show ([I (cy e:Nat),v]:List AV).all AV.one=true;simp[a.v1.one];rfl) (nle rfl) fun h10 s10=>?_
  (repeat refine aF ‹_› (by first|exact .head _|exact .tail _ (.head _)) (nle rfl) ?_)
  exact k v E h10 a ((St.swap (A:=[_,_]) (B:=E) (L:=[]) s10).sub (List.sublist_append_left _ _))
end
end
section
def sK (here:Int) (f:Str→Option Int) (a:Ar):Ev:=if a.reg<0 then bN here f a.e else (a.reg,0)
def bf (here:Int) (f:Str→Option Int) (args:List Ar):List Int×Int:=
 match args.find? fun a=>decide ((sK here f a).2≠0) with
 | some a=>([],(sK here f a).2)
 | none=>(args.map fun a=>(sK here f a).1,0)
theorem OJ {here:Int}{f:Str→Option Int}{args:List Ar}{q:Nat}(hq:q<args.length) (hb:(sK here f args[q]).2≠0) (hn:∀ j (hj:j<q),(sK here f (args[j]'(by omega))).2=0):bf here f args=([],(sK here f args[q]).2):=by
 unfold bf
 have:args.find? (fun a=>decide ((sK here f a).2≠0))=some args[q]:=by
  rw[List.find?_eq_some_iff_getElem]
  exact⟨by simpa using hb,q,hq,rfl,fun j hj=>by simpa using hn j hj⟩
 rw[this]
theorem L2 {here:Int}{f:Str→Option Int}{args:List Ar}(hn:∀ j (hj:j<args.length),(sK here f args[j]).2=0):bf here f args=(args.map fun a=>(sK here f a).1,0):=by
 unfold bf
 have:args.find? (fun a=>decide ((sK here f a).2≠0))=none:=by
  rw[List.find?_eq_none]
  intro x hx
  obtain⟨j,hj,rfl⟩:=List.getElem_of_mem hx
  simpa using hn j hj
 rw[this]
def l7 (f:Str→Option Int) (es:List En) (e:Ex):Bool:=(cb e).all fun n=>(f n).isSome||es.any fun x=>decide (x.x.2.kind=9)&&decide (x.x.2.text=n)
def vl (kind:Nat):Int×Int:=if kind=3 then (-128,255) else if kind=4 then (-32768,65535) else (-2147483648,4294967295)
def pt (syms:Str→Option Int) (e:En):Int:=
 if e.x.2.kind=1 then (mh e.x.2.op:Nat)
 else if e.x.2.kind=2 then (if e.grown then 4 else 2)
 else if e.x.2.kind=3∨e.x.2.kind=4∨e.x.2.kind=5 then (e.x.2.args.length:Int)*2^(e.x.2.kind-3)
 else if e.x.2.kind=6 then (e.x.2.text.length:Nat)
 else if e.x.2.kind=7 then ((bN 0 syms (bQ e)).1-e.place.tmod (bN 0 syms (bQ e)).1).tmod (bN 0 syms (bQ e)).1
 else if e.x.2.kind=8 then (bN 0 syms (bQ e)).1
 else 0
abbrev eR (lv:AV) (js:Nat) (kn dv:AV) (sz:Int):AObj:=.cells [lv,.map js,kn,dv,I sz]
section
variable [Tabs]
theorem IM (here:Int) (f:Str→Option Int):∀ e:Ex,-1099511627776≤(bN here f e).1∧(bN here f e).1≤1099511627776
 | .none=>by simp[bN]
 | .num n=>iT _
 | .name s=>by
   unfold bN;split
   ·exact iT _
   ·simp
 | .here=>iT _
 | .neg e=>by
   unfold bN;split
   ·simp
   ·exact iT _
 | .bin k a b=>by
   unfold bN;split
   ·simp
   ·split
    ·simp
    ·exact NR _ _ _
variable {h:ae}{Q:QT}{K:AV→Prop}
theorem Lv {n:Nat}(k:Q (.tup [I (vl n).1,I (vl n).2]) h):C sQ [I (n:Nat)] h Q:=by
 refine Jq _ _ _ ?_
 unfold Il
 unfold vl at k
 (repeat refine aA ?_)
 refine ah (fun h3=>?_) (fun h3=>?_)<;>simp only[za,zb,zc,zd,ze,zf,zg,zh,zi,u8i,zj,zk,zl]at h3
 ·rw[if_pos (by omega)]at k;exact k
 ·rw[if_neg (by omega)]at k
  (repeat refine aA ?_)
  refine ah (fun h4=>?_) (fun h4=>?_)<;>simp only[za,zb,zc,zd,ze,zf,zg,zh,zi,u8i,zj,zk,zl]at h4
  ·rw[if_pos (by omega)]at k;exact k
  ·rw[if_neg (by omega)]at k;exact k
theorem adv {h0:ae}{M:List Nat}{L L':Own}{j:Nat}{cs zs:List AV}{K:ae→Prop}(s:St h0 M h L) (hz:zs.length=5) (hc:cs.length=5) (ho:cs.all AV.one=true) (u:Sub L (j,true,.cells zs) L' (j,true,.cells cs))
  (k:∀ h',St h0 M h' L'→K h'):ak 5 (.ptr j 0) (.agg cs) h K:=
 ax s (by
  have:splice zs 0 cs=cs:=by simp[splice];omega
  show Sub L _ L' (j,true,.cells (splice zs 0 (AV.agg cs).cells))
  rw[show (AV.agg cs).cells=cs from rfl,this];exact u) rfl hc ho (by omega) k
theorem BU {e:En}{p:Nat}(hp:h[p]?=some (.cells (enE e))) (w:WfS e.x.2) {i js jk:Nat}{lv dv:AV}{sz:Int}(hi:h[i]?=some (eR lv js (.map jk) dv sz)) {f:Str→Option Int}(m:MapAt h jk f)
  (k:∀ v E h',AccE 1 v (bf e.place f e.x.2.args).1.length ((bf e.place f e.x.2.args).1.flatMap iE) E→St h [] h' E→Q (.tup [v,I (bf e.place f e.x.2.args).2]) h'):C fT [.ptr i 0,.ptr p 0] h Q:=by
 refine wF _ _ _ _ ?_
 unfold rt
 have sp:=St.startr hp
 have hal:=w.args
 unfold enE at sp
 (repeat (first|refine au ?_|refine aj ?_|refine cz ?_|refine ag ‹_› (.head _) rfl ?_))
 clear sp
 refine aQ (fun n vs' h'=>∃ (q:Nat) (v:AV) (E:Own),vs'=[.full 0 [],I 0,v,I (q:Nat)]∧n+q=e.x.2.args.length∧AccE 1 v q (((e.x.2.args.take q).map fun a=>(sK e.place f a).1).flatMap iE) E∧St h [] h' E∧∀ j (hj:j<q) (hj2:j<e.x.2.args.length),(sK e.place f e.x.2.args[j]).2=0) e.x.2.args.length ⟨0,.full 0 [],[],rfl,by omega,.none 1,St.start h,fun j hj=>by omega⟩ ?_
 rintro n vs' h1 ⟨q,v,E,rfl,hn,a,s1,hz⟩
 unfold oP
 have s1:St h [] h1 (E++[]):=by simpa using s1
 (repeat refine aJ ?_)
 refine ah (fun hq=>?_) (fun hq=>?_)<;>simp only[za,zb,zc,zd,ze,zf,zg,zh,zi,u8i,zj,zk,zl]at hq
 ·have hq:q<e.x.2.args.length:=hq
  have ha:=w.arg _ (List.getElem_mem hq)
  refine (NG e h1).idx bS hq fun p1 t=>?_
  refine bq t (bS _).symm ?_
  refine aM s1 fun i1 h2 s2=>?_
  refine adv s2 rfl (bS _) (Ce _) .head fun h3 s3=>?_
  have hfin:∀ (r:Ev) h',r=sK e.place f e.x.2.args[q]→St h [] h' (E++[])→fZ (I r.2) (I r.1) (.full 0 []) (I 0) v (I (q:Nat)) h' (fun vs' h'=>∃ m,m<n∧∃ (q:Nat) (v:AV) (E:Own),vs'=[.full 0 [],I 0,v,I (q:Nat)]∧m+q=e.x.2.args.length∧AccE 1 v q (((e.x.2.args.take q).map fun a=>(sK e.place f a).1).flatMap iE) E∧St h [] h' E∧∀ j (hj:j<q) (hj2:j<e.x.2.args.length),(sK e.place f e.x.2.args[j]).2=0) Q:=by
   rintro r h4 rfl s4
   unfold fZ
   (repeat refine bU ?_)
   refine ah (fun hb=>?_) (fun hb=>?_)<;>simp only[za,zb,zc,zd,ze,zf,zg,zh,zi,u8i,zj,zk,zl]at hb
   ·have hv:=OJ hq hb fun j hj=>hz j hj (by omega)
    rw[hv]at k
    exact k _ [] _ (.none 1) (a.rest s4)
   ·(repeat refine aB rfl rfl ?_)
    refine a.app s4 (xs:=iE (sK e.place f e.x.2.args[q]).1) (m:=1) (Rd.full rfl) rfl (by omega) fun v3 E3 h8 a3 s8=>?_
    refine aI (by omega) ?_
    refine⟨n-1,by omega,q+1,v3,E3,rfl,by omega,?_,by simpa using s8,fun j hj hj2=>?_⟩
    ·rw[List.take_succ_eq_append_getElem hq,List.map_append,List.flatMap_append];exact a3
    ·by_cases hjq:j=q
     ·subst hjq;exact hb
     ·exact hz j (by omega) hj2
  have sp3:=St.startr (s3.fr.get hp (by simp))
  have si3:=St.startr (s3.fr.get hi (by simp))
  unfold enE at sp3
  unfold arE at s3
  refine aj (ag s3 (.head _) rfl (aJ ?_))
  refine ah (fun hb=>?_) (fun hb=>?_)<;>simp only[za,zb,zc,zd,ze,zf,zg,zh,zi,u8i,zj,zk,zl]at hb
  ·refine aj (aF s3 (.head _) (by simp[aw]) ?_)
   rw[show ((I e.x.2.args[q].reg::br e.x.2.args[q].e).drop (0+1)).take 4=br e.x.2.args[q].e by
    simp only[Nat.zero_add,List.drop_succ_cons,List.drop_zero];exact List.take_of_length_le (by simp[aw])]
   refine au (aj (ag sp3 (.head _) rfl ?_))
   refine au (aj (ag si3 (.head _) rfl ?_))
   refine qB ha.1 ha.2.1 e.place (m.fr s3.fr) fun h4 f4=>?_
   have s4:=(s3.call f4).drop1
   unfold evV
   refine aG rfl (aG rfl ?_)
   exact hfin _ h4 (by unfold sK;rw[if_pos hb]) s4
  ·exact hfin (e.x.2.args[q].reg,0) h3 (by unfold sK;rw[if_neg (by omega)]) s3.drop1
 ·have hqe:q=e.x.2.args.length:=by omega
  subst hqe
  rw[List.take_length]at a
  have hv:=L2 (fun j hj=>hz j hj hj)
  rw[hv]at k
  exact k v E h1 (by simpa using a) (by simpa using s1)
abbrev pE (x:Nat×En):List AV:=[.ptr x.1 0]
theorem O1 {i js jk:Nat}{lv dv:AV}{sz:Int}(hi:h[i]?=some (eR lv js (.map jk) dv sz)) {f:Str→Option Int}(m:MapAt h jk f) {l:List (Nat×En)}(hl:l.length<1000000000) (r:Row pE 1 h lv l) (he:∀ x∈l,h[x.1]?=some (.cells (enE x.2)))
  {e:Ex} (ho:okE e) (hz:bo e<1000000) (k:∀ h',Fr [] h h'→Q (B (l7 f (l.map (·.2)) e)) h'):C iq [.ptr i 0,.agg (br e)] h Q:=by
 refine uT _ _ _ _ ?_
 unfold pL
 refine bB (St.start h) rfl fun j h1 s1=>?_
 have s1:St h [] h1 [(j,true,.cells (br e))]:=s1
 refine aL s1 (aw _) (.head _) ?_
 refine GH (bo e) e ho (Nat.le_refl _) (by omega) h1 _ fun h2 f2=>?_
 have s2:=s1.call f2
 have hnl:=lC e
 have RN2:∀ h,Row sE 1 h (.snap (cb e).length ((cb e).flatMap sE)) (cb e):=fun h=>Row.snap (enc:=sE) (fun _=>rfl) _
 unfold l7 at k
 generalize cb e=ns at RN2 hnl k ⊢
 (repeat refine cz ?_)
 refine aQ (fun n vs h'=>∃ (q:Nat),vs=[B false,I (q:Nat)]∧n+q=ns.length∧Fr [] h h'∧∀ t (ht:t<q) (ht2:t<ns.length),((f ns[t]).isSome||(l.map (·.2)).any fun x=>decide (x.x.2.kind=9)&&decide (x.x.2.text=ns[t]))=true) ns.length ⟨0,rfl,by omega,s2.fr,fun t ht=>by omega⟩ ?_
 rintro n vs h3 ⟨q,rfl,hn,f3,hall⟩
 unfold mT
 (repeat refine aJ ?_)
 refine ah (fun hq=>?_) (fun hq=>?_)<;>simp only[za,zb,zc,zd,ze,zf,zg,zh,zi,u8i,zj,zk,zl]at hq
 ·have hq:q<ns.length:=hq
  refine (RN2 h3).idx (fun _=>rfl) hq fun p t=>?_
  refine aK t ?_
  refine aM (St.start h3) fun i4 h4 s4=>?_
  (repeat (first|refine au ?_|refine aj ?_|refine ax ‹_› .head rfl rfl rfl (nle rfl) fun _ _=>?_))
  rename_i h5 s5
  have f5:Fr [] h h5:=f3.trans s5.fr (by simp)
  have si:=St.startr (f5.get hi (by simp))
  refine ag si (.head _) rfl ?_
  clear si
  refine ag s5 (.head _) rfl ?_
  refine (m.fr f5).look ?_
  have hnext:∀ h',Fr [] h h'→((f ns[q]).isSome||(l.map (·.2)).any fun x=>decide (x.x.2.kind=9)&&decide (x.x.2.text=ns[q]))=true→ai .add (I (q:Nat)) (I 1) fun t36=>
   (fun vs' h'=>∃ m,m<n∧∃ (q:Nat),vs'=[B false,I (q:Nat)]∧m+q=ns.length∧Fr [] h h'∧∀ t (ht:t<q) (ht2:t<ns.length),((f ns[t]).isSome||(l.map (·.2)).any fun x=>decide (x.x.2.kind=9)&&decide (x.x.2.text=ns[t]))=true) [B false,t36] h':=by
   intro h' f' hh
   refine aI (by omega) ?_
   refine⟨n-1,by omega,q+1,rfl,by omega,f',fun t ht ht2=>?_⟩
   by_cases htq:t=q
   ·subst htq;exact hh
   ·exact hall t (by omega) ht2
  refine aG rfl (aG rfl (bm ?_))
  cases hf:f ns[q] with
  | some y=>
    refine ah (fun h=>by cases h) (fun _=>?_)
    exact hnext h5 f5 (by rw[hf];rfl)
  | none=>
    refine ah (fun _=>?_) (fun h=>by cases h)
    have si:=St.startr (f5.get hi (by simp))
    refine au (aj (ag si (.head _) rfl ?_))
    clear si
    refine ro (arg:=fun x:Nat×En=>.ptr x.1 0) _ (fun x=>decide (x.2.x.2.kind=9)&&decide (x.2.x.2.text=ns[q])) l (by omega) (r.fr f5) (fun x hx h6 Q6 f6 k6=>?_) fun h6 f6=>?_
    ·show ACall Pg gz _ _ _
     refine sX _ _ _ _ ?_
     unfold nr
     have sx:=St.startr (f6.get (f5.get (he x hx) (by simp)) (by simp))
     unfold enE at sx
     (repeat (first|refine au ?_|refine aj ?_|refine aA ?_|refine ag ‹_› (.head _) rfl ?_))
     refine ah (fun hb=>?_) (fun hb=>?_)<;>simp only[za,zb,zc,zd,ze,zf,zg,zh,zi,u8i,zj,zk,zl]at hb
     ·have hb:x.2.x.2.kind=9:=by omega
      (repeat (first|refine au ?_|refine aj ?_|refine ag ‹_› (.head _) rfl ?_))
      refine ag (s5.call f6) (.head _) rfl ?_
      (repeat refine aU ?_)
      rw[hb]at k6
      simpa using k6 h6 (Fr.refl _ _)
     ·have hb:¬ x.2.x.2.kind=9:=by omega
      have:=k6 h6 (Fr.refl _ _)
      simpa [hb] using this
    ·have hany:(l.any fun x=>decide (x.2.x.2.kind=9)&&decide (x.2.x.2.text=ns[q]))=(l.map (·.2)).any fun x=>decide (x.x.2.kind=9)&&decide (x.x.2.text=ns[q]):=by rw[List.any_map];rfl
     rw[hany]
     have f7:Fr [] h h6:=f5.trans f6 (by simp)
     refine bm ?_
     cases hc:(l.map (·.2)).any fun x=>decide (x.x.2.kind=9)&&decide (x.x.2.text=ns[q]) with
     | true=>
       refine ah (fun h=>by cases h) (fun _=>?_)
       exact hnext h6 f7 (by rw[hc];simp)
     | false=>
       refine ah (fun _=>?_) (fun h=>by cases h)
       have:(ns.all fun n=>(f n).isSome||(l.map (·.2)).any fun x=>decide (x.x.2.kind=9)&&decide (x.x.2.text=n))=false:=by
        rw[List.all_eq_false]
        exact⟨ns[q],List.getElem_mem hq,by rw[hf,hc];simp⟩
       rw[← this]
       exact k h6 f7
 ·have:(ns.all fun n=>(f n).isSome||(l.map (·.2)).any fun x=>decide (x.x.2.kind=9)&&decide (x.x.2.text=n))=true:=by
   rw[List.all_eq_true]
   intro x hx
   obtain⟨t,ht,rfl⟩:=List.getElem_of_mem hx
   exact hall t (by omega) ht
  rw[← this]
  exact k h3 f3
def SzOk (syms:Str→Option Int) (e:En):Prop:=
 (e.x.2.kind=7→1≤(bN 0 syms (bQ e)).1∧(bN 0 syms (bQ e)).1≤16)∧(e.x.2.kind=8→0≤(bN 0 syms (bQ e)).1∧(bN 0 syms (bQ e)).1≤1000)
theorem Th {e:En}{p:Nat}(hp:h[p]?=some (.cells (enE e))) (w:WfS e.x.2) {i js:Nat}{lv kn dv:AV}{sz:Int}(hi:h[i]?=some (eR lv js kn dv sz)) {f:Str→Option Int}(m:MapAt h js f) (hs:SzOk f e) (hpl:0≤e.place∧e.place≤1000000000000000)
  (k:∀ h',Fr [] h h'→Q (I (pt f e)) h'):C iu [.ptr i 0,.ptr p 0] h Q:=by
 refine AA _ _ _ _ ?_
 unfold wb
 have sp:=St.startr hp
 have hal:=w.args
 unfold enE at sp
 unfold pt at k
 (repeat (first|refine au ?_|refine aj ?_|refine aA ?_|refine ag ‹_› (.head _) rfl ?_))
 refine ah (fun h1=>?_) (fun h1=>?_)<;>simp only[za,zb,zc,zd,ze,zf,zg,zh,zi,u8i,zj,zk,zl]at h1
 ·have h1:e.x.2.kind=1:=by omega
  rw[if_pos h1]at k
  (repeat (first|refine au ?_|refine aj ?_|refine ag ‹_› (.head _) rfl ?_))
  exact Tl (w.inst h1).1 fun h2 f2=>k h2 f2
 ·have h1:¬ e.x.2.kind=1:=by omega
  rw[if_neg h1]at k
  (repeat refine aA ?_)
  refine ah (fun h2=>?_) (fun h2=>?_)<;>simp only[za,zb,zc,zd,ze,zf,zg,zh,zi,u8i,zj,zk,zl]at h2
  ·rw[if_pos (by omega)]at k
   (repeat (first|refine au ?_|refine aj ?_|refine ag ‹_› (.head _) rfl ?_))
   cases hg:e.grown with
   | true=>
     rw[hg]at k
     exact ah (fun _=>k h (Fr.refl _ _)) (fun h=>by cases h)
   | false=>
     rw[hg]at k
     exact ah (fun h=>by cases h) (fun _=>k h (Fr.refl _ _))
  ·have h2:¬ e.x.2.kind=2:=by omega
   rw[if_neg h2]at k
   have hdata:∀ b:Bool,(b=true↔e.x.2.kind=3∨e.x.2.kind=4∨e.x.2.kind=5)→fp (B b) (I (e.x.2.kind:Nat)) (.ptr i 0) (.ptr p 0) h Q:=by
    intro b hb
    unfold fp
    refine ah (fun hbt=>?_) (fun hbf=>?_)
    ·have hk:=hb.1 hbt
     rw[if_pos hk]at k
     (repeat (first|refine au ?_|refine aj ?_|refine cz ?_|refine cD (by omega) ?_|refine ag ‹_› (.head _) rfl ?_))
     refine kP (by omega) ?_
     have:IntKind.i64.wrap ((e.x.2.args.length:Int)*2^(min ((e.x.2.kind:Int)-3).toNat IntKind.i64.bits))=(e.x.2.args.length:Int)*2^(e.x.2.kind-3):=by
      have hb:IntKind.i64.bits=64:=rfl
      rw[hb]
      rcases hk with hk|hk|hk<;>rw[hk]<;>simp<;>exact tR (by omega)
     rw[this]
     exact k h (Fr.refl _ _)
    ·have hk:¬ (e.x.2.kind=3∨e.x.2.kind=4∨e.x.2.kind=5):=by rw[← hb,hbf];simp
     rw[if_neg hk]at k
     (repeat refine aA ?_)
     refine ah (fun h6=>?_) (fun h6=>?_)<;>simp only[za,zb,zc,zd,ze,zf,zg,zh,zi,u8i,zj,zk,zl]at h6
     ·rw[if_pos (by omega)]at k
      (repeat (first|refine au ?_|refine aj ?_|refine aZ ?_|refine ag ‹_› (.head _) rfl ?_))
      exact k h (Fr.refl _ _)
     ·rw[if_neg (by omega)]at k
      have hj4:∀ b:Bool,(b=true↔e.x.2.kind=7∨e.x.2.kind=8)→ix (B b) (.ptr i 0) (.ptr p 0) h Q:=by
       intro b hb
       unfold ix
       refine ah (fun hbt=>?_) (fun hbf=>?_)
       ·have hk78:=hb.1 hbt
        have hne:=w.data (by omega) (by omega)
        have si:=St.startr hi
        refine au (aj (ag si (.head _) rfl ?_))
        refine yR hp w hne fun h3 f3=>?_
        have si3:=si.call f3
        refine⟨ag si3 (.head _) rfl rfl,?_⟩
        have hlast:=yT w hne
        refine qB hlast.1 hlast.2 0 (m.fr f3) fun h4 f4=>?_
        have f5:Fr [] h h4:=f3.trans f4 (by simp)
        unfold evV
        refine aG rfl (aG rfl ?_)
        have sp4:=sp.call f5
        refine au (aj (aj (ag sp4 (.head _) rfl (aA ?_))))
        have hin:=IM 0 f (bQ e)
        refine ah (fun h7=>?_) (fun h7=>?_)<;>simp only[za,zb,zc,zd,ze,zf,zg,zh,zi,u8i,zj,zk,zl]at h7
        ·have h7:e.x.2.kind=7:=by omega
         rw[if_pos h7]at k
         have hv:=hs.1 h7
         unfold iK
         refine au (aj (ag sp4 (.head _) rfl ?_))
         refine mJ (by omega) ?_
         have hm1:=Int.tmod_nonneg (bN 0 f (bQ e)).1 hpl.1
         have hm2:=Int.tmod_lt_of_pos e.place (show 0<(bN 0 f (bQ e)).1 by omega)
         refine cD (by omega) ?_
         refine mJ (by omega) ?_
         exact k h4 f5
        ·have h7:¬ e.x.2.kind=7:=by omega
         rw[if_neg h7,if_pos (by omega)]at k
         unfold iK
         exact k h4 f5
       ·rw[hbf]at hb
        have h7:¬ e.x.2.kind=7:=fun h=>by simp at hb;omega
        have h8:¬ e.x.2.kind=8:=fun h=>by simp at hb;omega
        rw[if_neg h7,if_neg h8]at k
        exact k h (Fr.refl _ _)
      refine aA ?_
      refine ah (fun h7=>?_) (fun h7=>?_)<;>simp only[za,zb,zc,zd,ze,zf,zg,zh,zi,u8i,zj,zk,zl]at h7
      ·exact hj4 _ (by simp;omega)
      ·refine aA ?_
       exact hj4 _ (by simp;omega)
   refine aA ?_
   refine ah (fun h3=>?_) (fun h3=>?_)<;>simp only[za,zb,zc,zd,ze,zf,zg,zh,zi,u8i,zj,zk,zl]at h3
   ·exact hdata _ (by simp;omega)
   ·refine aA ?_
    refine ah (fun h4=>?_) (fun h4=>?_)<;>simp only[za,zb,zc,zd,ze,zf,zg,zh,zi,u8i,zj,zk,zl]at h4
    ·exact hdata _ (by simp;omega)
    ·refine aA ?_
     exact hdata _ (by simp;omega)
end
end
section
def dP (e:En):Prop:=e.x.2.kind=1∨e.x.2.kind=2
instance (e:En):Decidable (dP e):=inferInstanceAs (Decidable (_∨_))
def eV (e:En):Prop:=e.x.2.kind=3∨e.x.2.kind=4∨e.x.2.kind=5
instance (e:En):Decidable (eV e):=inferInstanceAs (Decidable (_∨_))
section
variable [Tabs]
def F5 (kind:Nat) (vs:List Int):Bool:=vs.any (fun v=>decide (v<(vl kind).1))||vs.any (fun v=>decide ((vl kind).2<v))
def Hk (f:Str→Option Int) (es:List En) (e:En):Int:=
 if dP e∧e.place.tmod 2≠0 then 7
 else if (bf e.place f e.x.2.args).2=4∧e.x.2.kind=9∧l7 f es (bQ e)=true then 5
 else if (bf e.place f e.x.2.args).2≠0 then (bf e.place f e.x.2.args).2
 else if dP e∧(nj (cy e) (ii e.place (cV (bp (cy e))) (bf e.place f e.x.2.args).1)).isSome=false then 6
 else if eV e∧F5 e.x.2.kind (bf e.place f e.x.2.args).1=true then 6
 else 0
variable {h:ae}{Q:QT}{K:AV→Prop}
theorem abh {vs:List Int}(hn:vs≠[]) (hl:vs.length<1000000000) {fv:AV}(r:Row iE 1 h fv vs) (k:∀ m,m∈vs→(∀ x∈vs,m≤x)→Q (I m) h):C ik [fv] h Q:=by
 refine uH _ _ _ ?_
 unfold pM
 have hp:0<vs.length:=List.length_pos_iff.2 hn
 refine r.len ?_
 refine aJ ?_
 refine ah (fun hb=>(by exfalso;first|(simp at hb;done)|(simp at hb;omega)|(revert hb;decide)|omega)) (fun _=>?_)
 unfold md
 refine r.idx (j:=0) (fun _=>rfl) hp fun p t=>?_
 refine aK t ?_
 refine aQ (fun n vs' h'=>∃ (q:Nat) (m:Int),vs'=[I m,I (q:Nat)]∧n+q=vs.length∧h'=h∧m∈vs∧∀ j (hj:j<q) (hj2:j<vs.length),m≤vs[j]) (vs.length-1) ⟨1,vs[0],rfl,by omega,rfl,List.getElem_mem hp,fun j hj hj2=>(by
  have hz:j=0:=by omega
  subst hz;exact Int.le_refl _)⟩ ?_
 rintro n vs' h1 ⟨q,m,rfl,hn,rfl,hm,hall⟩
 unfold ni
 refine r.len ?_
 (repeat refine aJ ?_)
 refine ah (fun hq=>?_) (fun hq=>?_)<;>simp only[za,zb,zc,zd,ze,zf,zg,zh,zi,u8i,zj,zk,zl]at hq
 ·have hq:q<vs.length:=hq
  refine r.idx (fun _=>rfl) hq fun p t=>?_
  refine aK t ?_
  (repeat (first|refine aI (by omega) ?_|refine Ss ?_))
  refine⟨n-1,by omega,q+1,min m vs[q],rfl,by omega,rfl,?_,fun j hj hj2=>?_⟩
  ·rw[Int.min_def]
   split
   ·exact hm
   ·exact List.getElem_mem hq
  ·by_cases hjq:j=q
   ·subst hjq;exact Int.min_le_right _ _
   ·exact Int.le_trans (Int.min_le_left _ _) (hall j (by omega) hj2)
 ·refine k m hm fun x hx=>?_
  obtain⟨j,hj,rfl⟩:=List.getElem_of_mem hx
  exact hall j (by omega) hj
theorem aa9 {vs:List Int}(hn:vs≠[]) (hl:vs.length<1000000000) {fv:AV}(r:Row iE 1 h fv vs) (k:∀ m,m∈vs→(∀ x∈vs,x≤m)→Q (I m) h):C iA [fv] h Q:=by
 refine uF _ _ _ ?_
 unfold pP
 have hp:0<vs.length:=List.length_pos_iff.2 hn
 refine r.len ?_
 refine aJ ?_
 refine ah (fun hb=>(by exfalso;first|(simp at hb;done)|(simp at hb;omega)|(revert hb;decide)|omega)) (fun _=>?_)
 unfold m4
 refine r.idx (j:=0) (fun _=>rfl) hp fun p t=>?_
 refine aK t ?_
 refine aQ (fun n vs' h'=>∃ (q:Nat) (m:Int),vs'=[I m,I (q:Nat)]∧n+q=vs.length∧h'=h∧m∈vs∧∀ j (hj:j<q) (hj2:j<vs.length),vs[j]≤m) (vs.length-1) ⟨1,vs[0],rfl,by omega,rfl,List.getElem_mem hp,fun j hj hj2=>(by
  have hz:j=0:=by omega
  subst hz;exact Int.le_refl _)⟩ ?_
 rintro n vs' h1 ⟨q,m,rfl,hn,rfl,hm,hall⟩
 unfold mN
 refine r.len ?_
 (repeat refine aJ ?_)
 refine ah (fun hq=>?_) (fun hq=>?_)<;>simp only[za,zb,zc,zd,ze,zf,zg,zh,zi,u8i,zj,zk,zl]at hq
 ·have hq:q<vs.length:=hq
  refine r.idx (fun _=>rfl) hq fun p t=>?_
  refine aK t ?_
  (repeat (first|refine aI (by omega) ?_|refine Ht ?_))
  refine⟨n-1,by omega,q+1,max m vs[q],rfl,by omega,rfl,?_,fun j hj hj2=>?_⟩
  ·rw[Int.max_def]
   split
   ·exact List.getElem_mem hq
   ·exact hm
  ·by_cases hjq:j=q
   ·subst hjq;exact Int.le_max_right _ _
   ·exact Int.le_trans (hall j (by omega) hj2) (Int.le_max_left _ _)
 ·refine k m hm fun x hx=>?_
  obtain⟨j,hj,rfl⟩:=List.getElem_of_mem hx
  exact hall j (by omega) hj
theorem Xt {e:En}{p:Nat}(hp:h[p]?=some (.cells (enE e))) {vs:List Int}(hn:vs≠[]) (hl:vs.length<1000000000) {fv:AV}(r:Row iE 1 h fv vs) (k:Q (I (if F5 e.x.2.kind vs=true then 6 else 0)) h):J8 (.ptr p 0) fv h Q:=by
 have sp:=St.startr hp
 unfold enE at sp
 unfold J8
 (repeat (first|refine au ?_|refine aj ?_|refine ag ‹_› (.head _) rfl ?_))
 refine Lv ?_
 unfold F5 at k
 (repeat refine aG rfl ?_)
 refine abh hn hl r fun m hm hall=>?_
 refine aJ ?_
 refine ah (fun hb=>?_) (fun hb=>?_)<;>simp only[za,zb,zc,zd,ze,zf,zg,zh,zi,u8i,zj,zk,zl]at hb
 ·rw[if_pos]at k
  ·exact k
  ·rw[Bool.or_eq_true];exact .inl (List.any_eq_true.2 ⟨m,hm,by simpa using hb⟩)
 ·have h1:(vs.any fun v=>decide (v<(vl e.x.2.kind).1))=false:=by
   rw[List.any_eq_false];intro x hx;have:=hall x hx;simp;omega
  rw[h1,Bool.false_or]at k
  refine aa9 hn hl r fun m hm hall=>?_
  refine bD ?_
  refine ah (fun hb=>?_) (fun hb=>?_)<;>simp only[za,zb,zc,zd,ze,zf,zg,zh,zi,u8i,zj,zk,zl]at hb
  ·rw[if_pos (List.any_eq_true.2 ⟨m,hm,by simpa using hb⟩)]at k;exact k
  ·have h1:(vs.any fun v=>decide ((vl e.x.2.kind).2<v))=false:=by
    rw[List.any_eq_false];intro x hx;have:=hall x hx;simp;omega
   rw[h1,if_neg (by simp)]at k
   exact k
theorem J3 {e:En}{p:Nat}(hp:h[p]?=some (.cells (enE e))) {vs:List Int}(hn:eV e→vs≠[]) (hl:vs.length<1000000000) {fv:AV}(r:Row iE 1 h fv vs) (k:Q (I (if eV e∧F5 e.x.2.kind vs=true then 6 else 0)) h):G6 (.ptr p 0) fv h Q:=by
 have sp:=St.startr hp
 unfold enE at sp
 unfold G6
 have one:eV e→J8 (.ptr p 0) fv h Q:=fun hd=>Xt hp (hn hd) hl r (by simpa [hd] using k)
 refine au (aj (aj (ag sp (.head _) rfl (aA ?_))))
 refine ah (fun h3=>?_) (fun h3=>?_)<;>simp only[za,zb,zc,zd,ze,zf,zg,zh,zi,u8i,zj,zk,zl]at h3
 ·exact one (.inl (by omega))
 ·refine au (aj (aj (ag sp (.head _) rfl (aA ?_))))
  refine ah (fun h4=>?_) (fun h4=>?_)<;>simp only[za,zb,zc,zd,ze,zf,zg,zh,zi,u8i,zj,zk,zl]at h4
  ·exact one (.inr (.inl (by omega)))
  ·refine au (aj (aj (ag sp (.head _) rfl (aA ?_))))
   refine ah (fun h5=>?_) (fun h5=>?_)<;>simp only[za,zb,zc,zd,ze,zf,zg,zh,zi,u8i,zj,zk,zl]at h5
   ·exact one (.inr (.inr (by omega)))
   ·have:¬ eV e:=by unfold eV;omega
    show Q (I 0) h
    simpa [this] using k
end
end
section
section
variable [Tabs]
variable {h:ae}{Q:QT}{K:AV→Prop}
theorem aaa {here:Int}{f:Str→Option Int}{a:Ar}(hr:a.reg<1000):-1099511627776≤(sK here f a).1∧(sK here f a).1≤1099511627776:=by
 unfold sK
 split
 ·exact IM _ _ _
 ·simp;omega
theorem A5 {here:Int}{f:Str→Option Int}{args:List Ar}(hr:∀ a∈args,a.reg<1000):∀ v∈(bf here f args).1,-1099511627776≤v∧v≤1099511627776:=by
 unfold bf
 split
 ·simp
 ·intro v hv
  simp only[List.mem_map]at hv
  obtain⟨a,ha,rfl⟩:=hv
  exact aaa (hr a ha)
theorem rJ {here:Int}{f:Str→Option Int}{args:List Ar}(hz:(bf here f args).2=0):(bf here f args).1.length=args.length:=by
 unfold bf at hz ⊢
 split
 ·rename_i a ha
  rw[ha]at hz
  have:=List.find?_some ha
  simp at this
  exact (this hz).elim
 ·simp
theorem S8 {here:Int}{f:Str→Option Int}{args:List Ar}:(bf here f args).1.length≤args.length:=by
 unfold bf
 split<;>simp
theorem Qy {place:Int}{ks:List Str}{vs:List Int}(hp:0≤place∧place≤1000000000000000) (hv:∀ v∈vs,-1099511627776≤v∧v≤1099511627776):∀ v∈ii place ks vs,dW v:=by
 intro v hm
 unfold ii at hm
 obtain⟨j,hj,rfl⟩:=List.getElem_of_mem hm
 simp only[List.length_zipWith]at hj
 rw[List.getElem_zipWith]
 have:=hv _ (List.getElem_mem (show j<vs.length by omega))
 unfold F6 dW
 split<;>omega
structure PlE (e:En):Prop where
 wf:WfS e.x.2
 lo:0≤e.place
 hi:e.place≤1000000000000000
theorem Vx (hF:cB) (hL:dz) {e:En}{p:Nat}(hp:h[p]?=some (.cells (enE e))) (w:PlE e) (hk:dP e) {f:Str→Option Int}(hz:(bf e.place f e.x.2.args).2=0) {fv:AV}(r:Row iE 1 h fv (bf e.place f e.x.2.args).1)
  (k:∀ h',Fr [] h h'→Q (I (if (nj (cy e) (ii e.place (cV (bp (cy e))) (bf e.place f e.x.2.args).1)).isSome=false then 6 else 0)) h'):GF (.ptr p 0) fv h Q:=by
 unfold GF
 have hin:=A5 (here:=e.place) (f:=f) fun a ha=>(w.wf.arg a ha).2.2
 have hlen:=rJ hz
 have hal:=w.wf.args
 generalize (bf e.place f e.x.2.args).1=vs at r k hin hlen ⊢
 have hlo:=w.lo
 have hhi:=w.hi
 obtain⟨ho,hkl⟩:=YS w.wf hk
 refine TU hF hp w.wf hk vs hlen (fun v hv=>by have:=hin v hv;omega) r fun v E h1 a s1=>?_
 have s1':St h [] h1 (E++[]):=by simpa using s1
 refine NL hF hL ho _ (Qy ⟨hlo,hhi⟩ hin) (a.rd s1') fun h2 f2=>?_
 have s2:=s1.call f2
 refine bm ?_
 cases hc:(nj (cy e) (ii e.place (cV (bp (cy e))) vs)).isSome with
 | false=>
   rw[hc]at k
   exact ah (fun _=>k h2 s2.fr) (fun h=>by cases h)
 | true=>
   rw[hc]at k
   refine ah (fun h=>by cases h) (fun _=>?_)
   have hnd:¬ eV e:=by unfold eV;unfold dP at hk;omega
   refine J3 (s2.fr.get hp (by simp)) (fun h=>(hnd h).elim) (by omega) (r.fr s2.fr) ?_
   rw[if_neg (fun h=>hnd h.1)]
   exact k h2 s2.fr
theorem Xz (hF:cB) (hL:dz) {e:En}{p:Nat}(hp:h[p]?=some (.cells (enE e))) (w:PlE e) {i js jk:Nat}{lv dv:AV}{sz:Int}(hi:h[i]?=some (eR lv js (.map jk) dv sz)) {f:Str→Option Int}(m:MapAt h jk f)
  {l:List (Nat×En)} (hl:l.length<1000000000) (rl:Row pE 1 h lv l) (he:∀ x∈l,h[x.1]?=some (.cells (enE x.2))) (k:∀ h',Fr [] h h'→Q (I (Hk f (l.map (·.2)) e)) h'):C kI [.ptr i 0,.ptr p 0] h Q:=by
 refine y1 _ _ _ _ ?_
 unfold ua
 have sp:=St.startr hp
 have hal:=w.wf.args
 have hlo:=w.lo
 have hhi:=w.hi
 unfold enE at sp
 unfold Hk at k
 have hin:=A5 (here:=e.place) (f:=f) fun a ha=>(w.wf.arg a ha).2.2
 have vals:(∀ tail:AV→QT,¬ (dP e∧e.place.tmod 2≠0)→
   (∀ fv h',Fr [] h h'→Row iE 1 h' fv (bf e.place f e.x.2.args).1→¬ ((bf e.place f e.x.2.args).2=4∧e.x.2.kind=9∧l7 f (l.map (·.2)) (bQ e)=true)→tail fv (I (bf e.place f e.x.2.args).2) h')→
   Hj (.ptr i 0) (.ptr p 0) tail h Q):=by
  intro tail hno ht
  rw[if_neg hno]at k
  unfold Hj
  refine BU hp w.wf hi m fun v E h1 a s1=>?_
  have s1':St h [] h1 (E++[]):=by simpa using s1
  have r1:Row iE 1 h1 v (bf e.place f e.x.2.args).1:=a.rd s1'
  refine aG rfl (aG rfl (aA ?_))
  refine ah (fun h4=>?_) (fun h4=>?_)<;>simp only[za,zb,zc,zd,ze,zf,zg,zh,zi,u8i,zj,zk,zl]at h4
  ·have sp1:=St.startr (s1.fr.get hp (by simp))
   unfold enE at sp1
   refine au (aj (aj (ag sp1 (.head _) rfl (aA ?_))))
   refine ah (fun h9=>?_) (fun h9=>?_)<;>simp only[za,zb,zc,zd,ze,zf,zg,zh,zi,u8i,zj,zk,zl]at h9
   ·have h9:e.x.2.kind=9:=by omega
    have hne:=w.wf.data (by omega) (by omega)
    have hlast:=yT w.wf hne
    refine yR (s1.fr.get hp (by simp)) w.wf hne fun h2 f2=>?_
    have f2':Fr [] h h2:=s1.fr.trans f2 (by simp)
    refine O1 (f2'.get hi (by simp)) (m.fr f2') hl (rl.fr f2') (fun x hx=>f2'.get (he x hx) (by simp)) hlast.1 hlast.2 fun h3 f3=>?_
    have f3':Fr [] h h3:=f2'.trans f3 (by simp)
    cases hd:l7 f (l.map (·.2)) (bQ e) with
    | true=>
      rw[if_pos ⟨h4,h9,hd⟩]at k
      exact ah (fun _=>k h3 f3') (fun h=>by cases h)
    | false=>exact ah (fun h=>by cases h) (fun _=>ht v h3 f3' (r1.fr (f2.trans f3 (by simp))) (by simp[hd]))
   ·exact ht v h1 s1.fr r1 (fun hh=>by omega)
  ·exact ht v h1 s1.fr r1 (fun hh=>by omega)
 have hA:¬ (dP e∧e.place.tmod 2≠0)→dP e→∀ fv h',Fr [] h h'→Row iE 1 h' fv (bf e.place f e.x.2.args).1→¬ ((bf e.place f e.x.2.args).2=4∧e.x.2.kind=9∧l7 f (l.map (·.2)) (bQ e)=true)→(bf e.place f e.x.2.args).2=0→GF (.ptr p 0) fv h' Q:=by
  intro hno hc fv h' f' r' hnd hz
  refine Vx hF hL (f'.get hp (by simp)) w hc hz r' fun h2 f2=>?_
  have:=k h2 (f'.trans f2 (by simp))
  rw[if_neg hno,if_neg hnd,if_neg (by omega)]at this
  by_cases hcode:(nj (cy e) (ii e.place (cV (bp (cy e))) (bf e.place f e.x.2.args).1)).isSome=false
  ·rw[if_pos ⟨hc,hcode⟩]at this
   rw[if_pos hcode];exact this
  ·rw[if_neg (fun h=>hcode h.2)]at this
   rw[if_neg hcode]
   have hnd:¬ eV e:=by unfold eV;unfold dP at hc;omega
   rw[if_neg (fun h=>hnd h.1)]at this
   exact this
 have hD:¬ dP e→∀ fv h',Fr [] h h'→Row iE 1 h' fv (bf e.place f e.x.2.args).1→¬ ((bf e.place f e.x.2.args).2=4∧e.x.2.kind=9∧l7 f (l.map (·.2)) (bQ e)=true)→(bf e.place f e.x.2.args).2=0→G6 (.ptr p 0) fv h' Q:=by
  intro hc fv h' f' r' hnd hz
  have hlen:=rJ hz
  refine J3 (f'.get hp (by simp)) (fun hd=>?_) (by omega) r' ?_
  ·have:e.x.2.args≠[]:=w.wf.data (by unfold eV at hd;omega) (by unfold eV at hd;omega)
   intro hv;rw[hv]at hlen;exact this (List.length_eq_zero_iff.1 hlen.symm)
  ·have:=k h' f'
   rw[if_neg (fun h=>hc h.1),if_neg hnd,if_neg (by omega),if_neg (fun h=>hc h.1)]at this
   exact this
 have hE:¬ (dP e∧e.place.tmod 2≠0)→∀ h',Fr [] h h'→¬ ((bf e.place f e.x.2.args).2=4∧e.x.2.kind=9∧l7 f (l.map (·.2)) (bQ e)=true)→(bf e.place f e.x.2.args).2≠0→Q (I (bf e.place f e.x.2.args).2) h':=by
  intro hno h' f' hnd hz
  have:=k h' f'
  rw[if_neg hno,if_neg hnd,if_pos hz]at this
  exact this
 have odd:dP e→e.place.tmod 2≠0→Q (I 7) h:=fun hc ho=>by
  have:=k h (Fr.refl _ _)
  rw[if_pos ⟨hc,ho⟩]at this;exact this
 refine au (aj (aj (ag sp (.head _) rfl (aA ?_))))
 refine ah (fun h1=>?_) (fun h1=>?_)<;>simp only[za,zb,zc,zd,ze,zf,zg,zh,zi,u8i,zj,zk,zl]at h1
 ·have hc:dP e:=.inl (by omega)
  refine au (aj (ag sp (.head _) rfl (mJ (by decide) (bU ?_))))
  refine ah (fun ho=>?_) (fun ho=>?_)<;>simp only[za,zb,zc,zd,ze,zf,zg,zh,zi,u8i,zj,zk,zl]at ho
  ·exact odd hc ho
  ·have hno:¬ (dP e∧e.place.tmod 2≠0):=fun h=>h.2 ho
   refine vals (fun t37 t38 h=>wrA (.ptr p 0) t37 t38 h Q) hno fun fv h' f' r' hnd=>?_
   unfold wrA
   refine bU ?_
   refine ah (fun hz=>?_) (fun hz=>?_)<;>simp only[za,zb,zc,zd,ze,zf,zg,zh,zi,u8i,zj,zk,zl]at hz
   ·exact hE hno h' f' hnd hz
   ·exact hA hno hc fv h' f' r' hnd hz
 ·refine au (aj (aj (ag sp (.head _) rfl (aA ?_))))
  refine ah (fun h2=>?_) (fun h2=>?_)<;>simp only[za,zb,zc,zd,ze,zf,zg,zh,zi,u8i,zj,zk,zl]at h2
  ·have hc:dP e:=.inr (by omega)
   refine au (aj (ag sp (.head _) rfl (mJ (by decide) (bU ?_))))
   refine ah (fun ho=>?_) (fun ho=>?_)<;>simp only[za,zb,zc,zd,ze,zf,zg,zh,zi,u8i,zj,zk,zl]at ho
   ·exact odd hc ho
   ·have hno:¬ (dP e∧e.place.tmod 2≠0):=fun h=>h.2 ho
    have hb2:decide ((e.x.2.kind:Int)=2)=true:=by simpa using h2
    refine vals (fun t37 t38 h=>wrB (B (decide ((e.x.2.kind:Int)=2))) (.ptr p 0) t37 t38 h Q) hno fun fv h' f' r' hnd=>?_
    unfold wrB
    refine bU ?_
    refine ah (fun hz=>?_) (fun hz=>?_)<;>simp only[za,zb,zc,zd,ze,zf,zg,zh,zi,u8i,zj,zk,zl]at hz
    ·exact hE hno h' f' hnd hz
    ·rw[hb2]
     exact ah (fun _=>hA hno hc fv h' f' r' hnd hz) (fun h=>by cases h)
  ·have hc:¬ dP e:=by unfold dP;omega
   have hno:¬ (dP e∧e.place.tmod 2≠0):=fun h=>hc h.1
   have hb2:decide ((e.x.2.kind:Int)=2)=false:=by simpa using h2
   refine vals (fun t37 t38 h=>wrB (B (decide ((e.x.2.kind:Int)=2))) (.ptr p 0) t37 t38 h Q) hno fun fv h' f' r' hnd=>?_
   unfold wrB
   refine bU ?_
   refine ah (fun hz=>?_) (fun hz=>?_)<;>simp only[za,zb,zc,zd,ze,zf,zg,zh,zi,u8i,zj,zk,zl]at hz
   ·exact hE hno h' f' hnd hz
   ·rw[hb2]
    exact ah (fun h=>by cases h) (fun _=>hD hc fv h' f' r' hnd hz)
end
end
section
def beB:Nat→Int→List Int
 | 0,_=>[]
 | n+1,v=>IntKind.u8.wrap (v.fdiv (2^(8*n)))::beB n v
theorem TA:∀ n v,(beB n v).length=n
 | 0,_=>rfl
 | n+1,v=>by simp[beB,TA]
section
variable [Tabs]
def po (syms f:Str→Option Int) (e:En):List Int:=
 if dP e then (JB (cy e) (ii e.place (cV (bp (cy e))) (bf e.place f e.x.2.args).1)).getD []
 else if eV e then (bf e.place f e.x.2.args).1.flatMap (beB (2^(e.x.2.kind-3)))
 else if e.x.2.kind=6 then e.x.2.text.map fun b=>(b.toNat:Int)
 else List.replicate (pt syms e).toNat 0
abbrev bE (v:Int):List AV:=[BI v]
variable {h:ae}{Q:QT}{K:AV→Prop}{h0:ae}{M:List Nat}{L:Own}{KH:QT}
theorem Of {l:Str}(s:St h0 M h L) (k:∀ i h',St h0 M h' ((i,true,.cells ((l.map fun b=>(b.toNat:Int)).flatMap bE))::L)→KH (.sl i 0 l.length 1) h'):qq (T l) h KH:=⟨by
 simp only[ky]
 have:((⟨⟨l⟩⟩:ByteArray).data.toList.map fun b=>AV.lit (.int .u8 b.toNat))=(l.map fun b=>(b.toNat:Int)).flatMap bE:=by
  clear k s
  induction l with
  | nil=>rfl
  | cons a r ih=>simpa using ih
 rw[this]
 exact k _ _ (s.push _)⟩
theorem x7 {f:Str→Option Int}{e:En}(w:WfS e.x.2) (hs:SzOk f e) (hp:0≤e.place):0≤pt f e∧pt f e≤4000000000:=by
 have hal:=w.args
 have htl:=w.text
 unfold pt
 split
 ·unfold mh;split<;>simp
 ·split
  ·split<;>simp
  ·split
   ·rename_i hk
    rcases hk with hk|hk|hk<;>rw[hk]<;>simp<;>omega
   ·split
    ·simp;omega
    ·split
     ·rename_i h7
      have hv:=hs.1 h7
      have hm1:=Int.tmod_nonneg (bN 0 f (bQ e)).1 hp
      have hm2:=Int.tmod_lt_of_pos e.place (show 0<(bN 0 f (bQ e)).1 by omega)
      have h3:=Int.tmod_nonneg (bN 0 f (bQ e)).1 (show 0≤(bN 0 f (bQ e)).1-e.place.tmod (bN 0 f (bQ e)).1 by omega)
      have h4:=Int.tmod_lt_of_pos ((bN 0 f (bQ e)).1-e.place.tmod (bN 0 f (bQ e)).1) (show 0<(bN 0 f (bQ e)).1 by omega)
      omega
     ·split
      ·rename_i h8
       have hv:=hs.2 h8
       omega
      ·simp
theorem Xu (hF:cB) (hL:dz) {e:En}{p:Nat}(hp:h[p]?=some (.cells (enE e))) (w:PlE e) {i js jk:Nat}{lv dv:AV}{sz:Int}(hi:h[i]?=some (eR lv js (.map jk) dv sz)) {f g:Str→Option Int}(m:MapAt h jk f) (mg:MapAt h js g) (hs:SzOk g e)
  (hc:dP e→(bf e.place f e.x.2.args).2=0∧(JB (cy e) (ii e.place (cV (bp (cy e))) (bf e.place f e.x.2.args).1)).isSome=true)
  (k:∀ v h',Fr [] h h'→Row bE 1 h' v (po g f e)→Q v h'):C kJ [.ptr i 0,.ptr p 0] h Q:=by
 refine y4 _ _ _ _ ?_
 unfold uf
 have hlo:=w.lo
 have hhi:=w.hi
 have hal:=w.wf.args
 refine BU hp w.wf hi m fun v E h1 a s1=>?_
 have s1':St h [] h1 (E++[]):=by simpa using s1
 have r1:Row iE 1 h1 v (bf e.place f e.x.2.args).1:=a.rd s1'
 have hin:=A5 (here:=e.place) (f:=f) fun a ha=>(w.wf.arg a ha).2.2
 have hlen:=rJ (here:=e.place) (f:=f) (args:=e.x.2.args)
 have hle:=S8 (here:=e.place) (f:=f) (args:=e.x.2.args)
 have sp:=St.startr (s1.fr.get hp (by simp))
 unfold enE at sp
 refine aG rfl (aG rfl (au (aj (aj (ag sp (.head _) rfl (aA ?_))))))
 unfold po at k
 have hj12:∀ b:Bool,(b=true↔dP e)→fX (B b) (I (e.x.2.kind:Nat)) v (.ptr i 0) (.ptr p 0) h1 Q:=by
  intro b hb
  unfold fX
  refine ah (fun hbt=>?_) (fun hbf=>?_)
  ·have hcode:=hb.1 hbt
   obtain⟨hz,he⟩:=hc hcode
   rw[if_pos hcode]at k
   have hlen:=hlen hz
   generalize (bf e.place f e.x.2.args).1=vs at r1 k hin hlen he ⊢
   obtain⟨ho,hkl⟩:=YS w.wf hcode
   refine TU hF (s1.fr.get hp (by simp)) w.wf hcode vs hlen (fun v hv=>by have:=hin v hv;omega) r1 fun v2 E2 h2 a2 s2=>?_
   have s2':St h1 [] h2 (E2++[]):=by simpa using s2
   cases hen:JB (cy e) (ii e.place (cV (bp (cy e))) vs) with
   | none=>rw[hen]at he;cases he
   | some bs=>
     rw[hen]at k
     refine V5 hF hL ho _ (Qy ⟨hlo,hhi⟩ hin) hen (a2.rd s2') fun h3 f3=>?_
     refine aG rfl (aG rfl ?_)
     exact k _ h3 (s1.fr.trans (s2.fr.trans f3 (by simp)) (by simp)) (Row.snap (enc:=bE) (fun _=>rfl) bs)
  ·have hcode:¬ dP e:=by rw[← hb,hbf];simp
   rw[if_neg hcode]at k
   have hj11:∀ b:Bool,(b=true↔eV e)→eb (B b) (I (e.x.2.kind:Nat)) v (.ptr i 0) (.ptr p 0) h1 Q:=by
    intro b hb
    unfold eb
    refine ah (fun hbt=>?_) (fun hbf=>?_)
    ·have hd:=hb.1 hbt
     rw[if_pos hd]at k
     have hkn:3≤e.x.2.kind∧e.x.2.kind≤5:=by unfold eV at hd;omega
     generalize (bf e.place f e.x.2.args).1=vs at r1 k hin hlen hle ⊢
     refine r1.len ?_
     have hw:2^(e.x.2.kind-3)≤4∧1≤2^(e.x.2.kind-3):=by unfold eV at hd;rcases hd with h|h|h<;>rw[h]<;>decide
     have hkind:(8:Int)*2^(min ((e.x.2.kind:Int)-3).toNat IntKind.i64.bits)=8*(2^(e.x.2.kind-3):Nat):=by
      have hb:IntKind.i64.bits=64:=rfl
      rw[hb]
      unfold eV at hd
      rcases hd with hk|hk|hk<;>rw[hk]<;>rfl
     generalize hW:2^(e.x.2.kind-3)=W at hw hkind k
     refine aQ (fun n vs' h'=>∃ (q:Nat) (u:AV) (E:Own) (bs:List Int),vs'=[u,I (q:Nat)]∧n+q=vs.length∧bs=(vs.take q).flatMap (beB W)∧bs.length=q*W∧AccE 1 u bs.length (bs.flatMap bE) E∧St h1 [] h' (E++[])) vs.length ⟨0,.full 0 [],[],[],rfl,by omega,rfl,by simp,.none 1,St.start h1⟩ ?_
     rintro n vs' h2 ⟨q,u,E2,bs,rfl,hn,hbs,hbl,a2,s2⟩
     unfold pD
     refine aJ ?_
     refine ah (fun hq=>?_) (fun hq=>?_)<;>simp only[za,zb,zc,zd,ze,zf,zg,zh,zi,u8i,zj,zk,zl]at hq
     ·have hq:q<vs.length:=hq
      refine (r1.fr s2.fr).idx (fun _=>rfl) hq fun p1 t=>?_
      refine aK t ?_
      have sp2:=sp.call s2.fr
      refine au (aj (aj (ag sp2 (.head _) rfl (cD (by omega) ?_))))
      refine kP (by omega) ?_
      rw[hkind]
      rw[show IntKind.i64.wrap (8*(W:Nat):Int)=8*(W:Nat) from tR (by omega)]
      refine cD (by omega) ?_
      have hqW:q*W≤vs.length*4:=Nat.mul_le_mul (by omega) hw.1
      refine aQ (fun n2 vs'' h''=>∃ (r:Nat) (u:AV) (E:Own) (cs:List Int),vs''=[u,I (8*(r:Nat)-8)]∧n2=r∧r≤W∧cs.length+r=bs.length+W∧cs++beB r vs[q]=bs++beB W vs[q]∧AccE 1 u cs.length (cs.flatMap bE) E∧St h1 [] h'' (E++[])) W ⟨W,u,E2,bs,rfl,rfl,Nat.le_refl _,rfl,rfl,a2,s2⟩ ?_
      rintro n2 vs'' h3 ⟨r,u3,E3,cs,rfl,rfl,hrW,hcl,hcs,a3,s3⟩
      unfold pN
      refine bz ?_
      refine ah (fun hr=>?_) (fun hr=>?_)<;>simp only[za,zb,zc,zd,ze,zf,zg,zh,zi,u8i,zj,zk,zl]at hr
      ·obtain⟨r',rfl⟩:∃ r',n2=r'+1:=⟨n2-1,by omega⟩
       refine ym (by omega) ?_
       have hmin:min ((8*((r'+1:Nat):Int)-8)).toNat IntKind.i64.bits=8*r':=by
        have hb:IntKind.i64.bits=64:=rfl
        rw[hb];omega
       rw[hmin]
       refine ew ?_
       refine aB rfl rfl ?_
       refine a3.app s3 (xs:=bE (IntKind.u8.wrap (vs[q].fdiv (2^(8*r'))))) (m:=1) (Rd.full rfl) rfl (by omega) fun v4 E4 h8 a4 s8=>?_
       refine cD (by omega) ?_
       refine⟨r',by omega,r',v4,E4,cs++[IntKind.u8.wrap (vs[q].fdiv (2^(8*r')))],by rw[show 8*((r'+1:Nat):Int)-8-8=8*(r':Nat)-8 by omega],rfl,by omega,by simp;omega,?_,by simpa using a4,s8⟩
       rw[← hcs];simp[beB]
      ·have hr0:n2=0:=by omega
       subst hr0
       refine aI (by omega) ?_
       simp only[beB,List.append_nil]at hcs
       refine⟨n-1,by omega,q+1,u3,E3,cs,rfl,by omega,?_,by rw[Nat.add_mul];omega,a3,s3⟩
       rw[hcs,hbs,List.take_succ_eq_append_getElem hq,List.flatMap_append,List.flatMap_cons,List.flatMap_nil,List.append_nil]
     ·rw[List.take_of_length_le (by omega)]at hbs
      subst hbs
      exact k u h2 (s1.fr.trans s2.fr (by simp)) (a2.rd s2)
    ·have hd:¬ eV e:=by rw[← hb,hbf];simp
     rw[if_neg hd]at k
     refine aA ?_
     refine ah (fun h6=>?_) (fun h6=>?_)<;>simp only[za,zb,zc,zd,ze,zf,zg,zh,zi,u8i,zj,zk,zl]at h6
     ·rw[if_pos (by omega)]at k
      refine au (aj (aj (ag sp (.head _) rfl ?_)))
      refine Of (St.start h1) fun j h2 s2=>?_
      refine k _ h2 (s1.fr.trans s2.fr (by simp)) ?_
      have:=Row.sl (enc:=bE) (sz:=1) (fun _=>rfl) (s2.get (.head _))
      simpa using this
     ·rw[if_neg (by omega)]at k
      refine Th (s1.fr.get hp (by simp)) w.wf (s1.fr.get hi (by simp)) (mg.fr s1.fr) hs ⟨hlo,hhi⟩ fun h2 f2=>?_
      have hli:=x7 w.wf hs hlo
      obtain⟨n,hn⟩:=Int.eq_ofNat_of_zero_le hli.1
      rw[hn]at hli k ⊢
      refine Co (s1.call f2) (Nat.le_refl _) (by simp at hli;omega) (by simp at hli;omega) fun j h3 s3=>?_
      refine k _ h3 s3.fr ?_
      have hrep:∀ n:Nat,List.replicate n (BI 0)=(List.replicate n (0:Int)).flatMap bE:=by
       intro n
       induction n with
       | zero=>rfl
       | succ n ih=>rw[List.replicate_succ,List.replicate_succ,List.flatMap_cons,← ih];rfl
      have e3:=s3.get (.head _)
      rw[hrep]at e3
      have:=Row.sl (enc:=bE) (sz:=1) (fun _=>rfl) e3
      simpa using this
   refine aA ?_
   refine ah (fun h3=>?_) (fun h3=>?_)<;>simp only[za,zb,zc,zd,ze,zf,zg,zh,zi,u8i,zj,zk,zl]at h3
   ·exact hj11 _ (by unfold eV;simp;omega)
   ·refine aA ?_
    refine ah (fun h4=>?_) (fun h4=>?_)<;>simp only[za,zb,zc,zd,ze,zf,zg,zh,zi,u8i,zj,zk,zl]at h4
    ·exact hj11 _ (by unfold eV;simp;omega)
    ·refine aA ?_
     exact hj11 _ (by unfold eV;simp;omega)
 refine ah (fun h1=>?_) (fun h1=>?_)<;>simp only[za,zb,zc,zd,ze,zf,zg,zh,zi,u8i,zj,zk,zl]at h1
 ·exact hj12 _ (by unfold dP;simp;omega)
 ·refine aA ?_
  exact hj12 _ (by unfold dP;simp;omega)
end
end
section
abbrev Dg:=Str×Nat×Int
def dE (d:Dg):List AV:=[T d.1,I (d.2.1:Nat),I d.2.2]
theorem Sub.pre {L L':Own}{e e':Nat×Bool×AObj}(s:Sub L e L' e'):∀ A:Own,Sub (A++L) e (A++L') e'
 | []=>s
 | _::A=>.tail (Sub.pre s A)
theorem Sub.post {L L':Own}{e e':Nat×Bool×AObj}(s:Sub L e L' e') (R:Own):Sub (L++R) e (L'++R) e':=by
 induction s with
 | head=>exact .head
 | tail _ ih=>exact .tail ih
def cA (l:List (Nat×En)):Own:=l.map fun x=>(x.1,true,.cells (enE x.2))
theorem Xw {l:List (Nat×En)}{x:Nat×En}(h:x∈l):(x.1,true,AObj.cells (enE x.2))∈cA l:=List.mem_map.2 ⟨x,h,rfl⟩
theorem P2:∀ {l:List (Nat×En)}{q:Nat}(hq:q<l.length) (e':En),Sub (cA l) (l[q].1,true,.cells (enE l[q].2)) (cA (l.set q (l[q].1,e'))) (l[q].1,true,.cells (enE e'))
 | [],q,hq,_=>by simp at hq
 | x::l,0,_,e'=>.head
 | x::l,q+1,hq,e'=>by
   have:=P2 (l:=l) (q:=q) (by simpa using hq) e'
   simpa [cA] using Sub.tail this
section
variable [Tabs]
variable {h0 h h':ae}{M:List Nat}{Q:QT}{K:AV→Prop}
structure SS (h0:ae) (M:List Nat) (h:ae) (i js:Nat) (l:List (Nat×En)) (ds:List Dg) (lv dv kn:AV) (sz:Int) (kvs:KV) (EL ED R:Own):Prop where
 al:AccE 1 lv l.length (l.flatMap pE) EL
 ad:AccE 3 dv ds.length (ds.flatMap dE) ED
 st:St h0 M h (ED++((i,true,eR lv js kn dv sz)::(js,true,bF kvs)::(EL++(cA l++R))))
variable {i js:Nat}{l:List (Nat×En)}{ds:List Dg}{lv dv kn:AV}{sz:Int}{kvs:KV}{EL ED R:Own}
theorem SS.src (s:SS h0 M h i js l ds lv dv kn sz kvs EL ED R):h[i]?=some (eR lv js kn dv sz):=s.st.get (b:=true) (by simp)
theorem SS.syms (s:SS h0 M h i js l ds lv dv kn sz kvs EL ED R):h[js]?=some (bF kvs):=s.st.get (b:=true) (by simp)
theorem SS.row (s:SS h0 M h i js l ds lv dv kn sz kvs EL ED R):Row pE 1 h lv l:=by
 have hp:(ED++((i,true,eR lv js kn dv sz)::(js,true,bF kvs)::(EL++(cA l++R)))).Perm (EL++(ED++((i,true,eR lv js kn dv sz)::(js,true,bF kvs)::(cA l++R)))):=by
  have h1:(ED++((i,true,eR lv js kn dv sz)::(js,true,bF kvs)::(EL++(cA l++R))))=(ED++[(i,true,eR lv js kn dv sz),(js,true,bF kvs)])++(EL++(cA l++R)):=by simp
  have h2:(ED++((i,true,eR lv js kn dv sz)::(js,true,bF kvs)::(cA l++R)))=(ED++[(i,true,eR lv js kn dv sz),(js,true,bF kvs)])++(cA l++R):=by simp
  rw[h1,h2,← List.append_assoc,← List.append_assoc EL]
  exact List.Perm.append_right _ List.perm_append_comm
 exact s.al.rd (s.st.perm hp)
theorem SS.ent (s:SS h0 M h i js l ds lv dv kn sz kvs EL ED R):∀ x∈l,h[x.1]?=some (.cells (enE x.2)):=fun x hx=>s.st.get (b:=true) (by
 have:=Xw hx
 simp[this])
theorem SS.rget (s:SS h0 M h i js l ds lv dv kn sz kvs EL ED R) {e:Nat×Bool×AObj}(he:e∈R):h[e.1]?=some e.2.2:=s.st.get (b:=e.2.1) (by
 show e∈_
 simp[he])
theorem SS.call (s:SS h0 M h i js l ds lv dv kn sz kvs EL ED R) (f:Fr [] h h'):SS h0 M h' i js l ds lv dv kn sz kvs EL ED R:=⟨s.al,s.ad,s.st.call f⟩
theorem SS.front {e:Nat×Bool×AObj}(s:SS h0 M h i js l ds lv dv kn sz kvs EL ED R) (s':St h0 M h' (e::(ED++((i,true,eR lv js kn dv sz)::(js,true,bF kvs)::(EL++(cA l++R)))))):SS h0 M h' i js l ds lv dv kn sz kvs EL ED (e::R):=⟨s.al,s.ad,s'.perm (by
 have hx:∀ R:Own,(ED++((i,true,eR lv js kn dv sz)::(js,true,bF kvs)::(EL++(cA l++R))))=(ED++((i,true,eR lv js kn dv sz)::(js,true,bF kvs)::(EL++cA l)))++R:=fun R=>by simp
 rw[hx R,hx (e::R)]
 exact List.perm_middle.symm)⟩
theorem SS.unR {R':Own}(s:SS h0 M h i js l ds lv dv kn sz kvs EL ED R) (hs:R'.Sublist R):SS h0 M h i js l ds lv dv kn sz kvs EL ED R':=⟨s.al,s.ad,s.st.sub (List.Sublist.append (List.Sublist.refl _) (((List.Sublist.append (List.Sublist.refl _) (List.Sublist.append (List.Sublist.refl _) hs)).cons₂ _).cons₂ _))⟩
theorem SS.subR {R':Own}{e e':Nat×Bool×AObj}(u:Sub R e R' e'):Sub (ED++((i,true,eR lv js kn dv sz)::(js,true,bF kvs)::(EL++(cA l++R)))) e (ED++((i,true,eR lv js kn dv sz)::(js,true,bF kvs)::(EL++(cA l++R')))) e':=
 Sub.pre (.tail (.tail (Sub.pre (Sub.pre u _) _))) _
theorem SS.subE {q:Nat}(hq:q<l.length) (e':En):Sub (ED++((i,true,eR lv js kn dv sz)::(js,true,bF kvs)::(EL++(cA l++R)))) (l[q].1,true,.cells (enE l[q].2)) (ED++((i,true,eR lv js kn dv sz)::(js,true,bF kvs)::(EL++(cA (l.set q (l[q].1,e'))++R)))) (l[q].1,true,.cells (enE e')):=
 Sub.pre (.tail (.tail (Sub.pre (Sub.post (P2 hq e') _) _))) _
theorem SS.subS {kn':AV}{sz':Int}{lv' dv':AV}:Sub (ED++((i,true,eR lv js kn dv sz)::(js,true,bF kvs)::(EL++(cA l++R)))) (i,true,eR lv js kn dv sz) (ED++((i,true,eR lv' js kn' dv' sz')::(js,true,bF kvs)::(EL++(cA l++R)))) (i,true,eR lv' js kn' dv' sz'):=Sub.pre .head _
theorem Ea:∀ {l:List (Nat×En)}{q:Nat}(hq:q<l.length) (e':En),(l.set q (l[q].1,e')).flatMap pE=l.flatMap pE
 | [],q,hq,_=>by simp at hq
 | x::l,0,_,e'=>rfl
 | x::l,q+1,hq,e'=>by
   have:=Ea (l:=l) (q:=q) (by simpa using hq) e'
   simp only[List.set_cons_succ,List.flatMap_cons,List.getElem_cons_succ]
   rw[this]
theorem SS.setE {q:Nat}{e':En}(s:SS h0 M h i js l ds lv dv kn sz kvs EL ED R) (hq:q<l.length) (s':St h0 M h' (ED++((i,true,eR lv js kn dv sz)::(js,true,bF kvs)::(EL++(cA (l.set q (l[q].1,e'))++R))))):SS h0 M h' i js (l.set q (l[q].1,e')) ds lv dv kn sz kvs EL ED R:=
 ⟨by rw[Ea hq,List.length_set];exact s.al,s.ad,s'⟩
theorem BD {f:Str}{n:Nat}{er:Int}(hd:ds.length<1000000000) (s:SS h0 M h i js l ds lv dv kn sz kvs EL ED R)
  (k:∀ dv' ED' h',SS h0 M h' i js l (ds++[(f,n,er)]) lv dv' kn sz kvs EL ED' R→Q (.tup []) h'):C aR [.ptr i 0,T f,I (n:Nat),I er] h Q:=by
 refine Ap _ _ _ _ _ _ ?_
 unfold vQ
 have si:=St.startr s.src
 (repeat (first|refine au ?_|refine aj ?_|refine ag ‹_› (.head _) rfl ?_|refine aD rfl ?_|refine aB rfl rfl ?_))
 refine s.ad.app s.st (xs:=dE (f,n,er)) (m:=1) (Rd.full rfl) rfl (by omega) fun dv' ED' h1 a1 s1=>?_
 refine au (aj ?_)
 refine Dh (L':=ED'++((i,true,eR lv js kn dv' sz)::(js,true,bF kvs)::(EL++(cA l++R)))) a1.v1 s1 (Sub.pre .head _) (nle rfl) fun h2 s2=>?_
 exact k dv' ED' h2 ⟨s.al,by simpa using a1,s2⟩
def JS (syms:Str→Option Int) (e:En):Bool:=if e.x.2.kind=7 then [1,2,4,8,16].any (fun y=>decide ((bN 0 syms (bQ e)).1=y)) else decide (0≤(bN 0 syms (bQ e)).1)&&decide ((bN 0 syms (bQ e)).1≤1000)
def Ov (syms:Str→Option Int) (e:En):Bool:=(decide (e.x.2.kind=7)||decide (e.x.2.kind=8))&&(qP (bQ e)||decide ((bN 0 syms (bQ e)).2≠0)||!JS syms e)
def szD (syms:Str→Option Int) (e:En):List Dg:=if Ov syms e=true then [(e.frag,e.x.1,3)] else []
theorem acb {syms:Str→Option Int}{e:En}(h:szD syms e=[]):SzOk syms e:=by
 unfold szD at h
 split at h
 ·cases h
 ·rename_i hb
  unfold Ov JS at hb
  unfold SzOk
  constructor
  ·intro h7
   rw[h7]at hb
   simp only[decide_true,Bool.true_or,Bool.true_and,Bool.or_eq_true,not_or,if_true,Bool.not_eq_true',Bool.not_eq_false,List.any_eq_true,decide_eq_true_eq]at hb
   obtain⟨x,hx,he⟩:=hb.2
   simp at hx
   omega
  ·intro h8
   rw[h8]at hb
   simp at hb
   obtain⟨_,h⟩:=hb
   omega
theorem tJ {α:Type}{g:α→List Dg}(hg:∀ x,(g x).length≤1):∀ l:List α,(l.flatMap g).length≤l.length
 | []=>by simp
 | x::l=>by
   have:=tJ hg l
   have:=hg x
   simp only[List.flatMap_cons,List.length_append,List.length_cons];omega
theorem Ud (syms:Str→Option Int) (e:En):(szD syms e).length≤1:=by unfold szD;split<;>simp
def Xs (s0 s3 s12:AV) (h7:ae) (next0:NT):Prop:=
 aE s3 fun t68=>
 ab 0 t68 fun t69=>
 af t69 h7 fun t70=>
 aE s3 fun t72=>
 ab 1 t72 fun t73=>
 ab 0 t73 fun t74=>
 af t74 h7 fun t75=>
 C aR [s0,t70,t75,(I 3)] h7 fun t76 h8=>
 aO s12 h8 next0
def acK (t38 t39 t15 s12 s0:AV) (h4:ae) (next0:NT):Prop:=
 ai .geq t38 (I 0) fun t41=>
 ifB t41 (ai .leq t38 (I 1000) fun t44=>
 aE t15 fun t47=>
 ab 1 t47 fun t48=>
 ab 2 t48 fun t49=>
 af t49 h4 fun t50=>
 ai .eql t50 (I 7) fun t51=>
 ifB t51 (
 ao 5 1 [(I 1),(I 2),(I 4),(I 8),(I 16)] fun t52=>
 C be [t52,t38] h4 fun t54 h5=>
 bG t54 t39 t15 s12 s0 h5 next0) (
 bG t44 t39 t15 s12 s0 h4 next0)) (
 aE t15 fun t47=>
 ab 1 t47 fun t48=>
 ab 2 t48 fun t49=>
 af t49 h4 fun t50=>
 ai .eql t50 (I 7) fun t51=>
 ifB t51 (
 ao 5 1 [(I 1),(I 2),(I 4),(I 8),(I 16)] fun t52=>
 C be [t52,t38] h4 fun t54 h12=>
 bG t54 t39 t15 s12 s0 h12 next0) (
 bG (B false) t39 t15 s12 s0 h4 next0))
def acF (s0 t15:AV) (h:ae) (KK:AV→QT):Prop:=
 aE s0 fun t34=>
 ab 1 t34 fun t35=>
 af t35 h fun t36=>
 C bt [t15] h fun t32 h3=>
 (af t35 h3 fun _t=>
 _t=t36)∧
 C gg [t32,(I 0),t36] h3 fun t37 h4=>
 am 0 t37 fun t38=>
 am 1 t37 fun t39=>KK t38 t39 h4
theorem acn {f:Str→Option Int}{e:En}{p:Nat}{may:Bool}{er:Int}{q:Nat}{next:NT}(hd:ds.length<100000000) (s:SS h0 M h i js l ds lv dv kn sz kvs EL ED R) (hm:(p,e)∈l) (w:WfS e.x.2) (hne:e.x.2.args≠[]) (hq:q<1000000000)
  (k0:(qP (bQ e)||decide (er≠0)||!may)=false→∀ h',SS h0 M h' i js l ds lv dv kn sz kvs EL ED R→next [I ((q+1:Nat):Int)] h')
  (k1:(qP (bQ e)||decide (er≠0)||!may)=true→∀ dv' ED' h',SS h0 M h' i js l (ds++[(e.frag,e.x.1,3)]) lv dv' kn sz kvs EL ED' R→next [I ((q+1:Nat):Int)] h'):bG (B may) (I er) (.ptr p 0) (I (q:Nat)) (.ptr i 0) h next:=by
 unfold bG
 have hp:=s.ent _ hm
 refine yR hp w hne fun h1 f1=>?_
 have hlast:=yT w hne
 refine aaV _ hlast.1 _ _ fun h2 f2=>?_
 have s2:=(s.call f1).call f2
 have told:(qP (bQ e)||decide (er≠0)||!may)=true→Xs (.ptr i 0) (.ptr p 0) (I (q:Nat)) h2 next:=by
  unfold Xs
  intro hb
  have sp:=St.startr (s2.ent _ hm)
  unfold enE at sp
  (repeat (first|refine au ?_|refine aj ?_|refine ag ‹_› (.head _) rfl ?_))
  refine BD (by omega) s2 fun dv' ED' h3 s3=>?_
  unfold aO gC
  refine aI (by omega) ?_
  exact k1 hb dv' ED' h3 s3
 cases hh:qP (bQ e) with
 | true=>exact ah (fun _=>told (by rw[hh];rfl)) (fun h=>by cases h)
 | false=>
   refine ah (fun h=>by cases h) (fun _=>?_)
   refine bU ?_
   refine ah (fun he=>told (by rw[hh,he];rfl)) (fun he=>?_)
   refine bm ?_
   refine ah (fun hn=>told (by rw[hn];simp)) (fun hn=>?_)
   unfold aO gC
   refine aI (by omega) ?_
   exact k0 (by rw[hh,he,hn];rfl) h2 s2
theorem Xk {f:Str→Option Int}(hl:l.length<10000000) (hd:ds=[]) (s:SS h0 M h i js l ds lv dv kn sz kvs EL ED R) (nd:(bP kvs).Nodup) (hf:∀ k,bw k kvs=f k) (w:∀ x∈l,WfS x.2.x.2)
  (k:∀ dv' ED' h',SS h0 M h' i js l ((l.map (·.2)).flatMap (szD f)) lv dv' kn sz kvs EL ED' R→Q (.tup []) h'):C co [.ptr i 0] h Q:=by
 subst hd
 refine zm _ _ _ ?_
 unfold uk
 have si:=St.startr s.src
 (repeat (first|refine au ?_|refine aj ?_|refine ag ‹_› (.head _) rfl ?_))
 refine s.row.len ?_
 clear si
 refine aQ (fun n vs h'=>∃ (q:Nat) (dv':AV) (ED':Own),vs=[I (q:Nat)]∧n+q=l.length∧SS h0 M h' i js l (((l.take q).map (·.2)).flatMap (szD f)) lv dv' kn sz kvs EL ED' R) l.length ⟨0,dv,ED,rfl,by omega,s⟩ ?_
 rintro n vs h1 ⟨q,dv1,ED1,rfl,hn,s1⟩
 have hdl:=tJ (Ud f) ((l.take q).map (·.2))
 rw[List.length_map,List.length_take]at hdl
 unfold oS
 (repeat refine aJ ?_)
 refine ah (fun hq=>?_) (fun hq=>?_)<;>simp only[za,zb,zc,zd,ze,zf,zg,zh,zi,u8i,zj,zk,zl]at hq
 ·have hq:q<l.length:=hq
  have hm:=List.getElem_mem hq
  have hsucc:((l.take (q+1)).map (·.2)).flatMap (szD f)=((l.take q).map (·.2)).flatMap (szD f)++szD f l[q].2:=by
   rw[List.take_succ_eq_append_getElem hq,List.map_append,List.flatMap_append,List.map_cons,List.map_nil,List.flatMap_cons,List.flatMap_nil,List.append_nil]
  refine s1.row.idx (fun _=>rfl) hq fun p t=>?_
  refine aK t ?_
  have hp:=s1.ent _ hm
  have sp:=St.startr hp
  unfold enE at sp
  refine au (aj (aj (ag sp (.head _) rfl (bU ?_))))
  have body:∀ (h2:ae),(l[q].2.x.2.kind=7∨l[q].2.x.2.kind=8)→SS h0 M h2 i js l (((l.take q).map (·.2)).flatMap (szD f)) lv dv1 kn sz kvs EL ED1 R→∀ may,may=JS f l[q].2→bG (B may) (I (bN 0 f (bQ l[q].2)).2) (.ptr l[q].1 0) (I (q:Nat)) (.ptr i 0) h2 (fun vs' h'=>∃ m,m<n∧∃ (q:Nat) (dv':AV) (ED':Own),vs'=[I (q:Nat)]∧m+q=l.length∧SS h0 M h' i js l (((l.take q).map (·.2)).flatMap (szD f)) lv dv' kn sz kvs EL ED' R):=by
   intro h2 h78 s2 may hmay
   have hdec:(decide (l[q].2.x.2.kind=7)||decide (l[q].2.x.2.kind=8))=true:=by simpa using h78
   refine acn (f:=f) (e:=l[q].2) (p:=l[q].1) (by omega) s2 hm (w _ hm) ((w _ hm).data (by omega) (by omega)) (by omega) (fun hb h3 s3=>?_) (fun hb dv3 ED3 h3 s3=>?_)
   ·refine⟨n-1,by omega,q+1,dv1,ED1,rfl,by omega,?_⟩
    rw[hsucc,szD,Ov,hdec,← hmay,hb];simpa using s3
   ·refine⟨n-1,by omega,q+1,dv3,ED3,rfl,by omega,?_⟩
    rw[hsucc,szD,Ov,hdec,← hmay,hb];simpa using s3
  have ev:∀ (KK:AV→QT),(l[q].2.x.2.kind=7∨l[q].2.x.2.kind=8)→(∀ h2,Fr [] h1 h2→KK (I (bN 0 f (bQ l[q].2)).1) (I (bN 0 f (bQ l[q].2)).2) h2)→acF (.ptr i 0) (.ptr l[q].1 0) h1 KK:=by
   unfold acF
   intro KK h78 hk
   have hne:=(w _ hm).data (by omega) (by omega)
   have hlast:=yT (w _ hm) hne
   have si:=St.startr s1.src
   refine au (aj (ag si (.head _) rfl ?_))
   refine yR hp (w _ hm) hne fun h2 f2=>?_
   refine⟨ag (si.call f2) (.head _) rfl rfl,?_⟩
   refine qB hlast.1 hlast.2 0 (MapAt.fr ⟨kvs,s1.syms,nd,hf⟩ f2) fun h3 f3=>?_
   exact aG rfl (aG rfl (hk h3 (f2.trans f3 (by simp))))
  have fin:(l[q].2.x.2.kind=7∨l[q].2.x.2.kind=8)→acF (.ptr i 0) (.ptr l[q].1 0) h1 fun t38 t39 h4=>acK t38 t39 (.ptr l[q].1 0) (I (q:Nat)) (.ptr i 0) h4 (fun vs' h'=>∃ m,m<n∧∃ (q:Nat) (dv':AV) (ED':Own),vs'=[I (q:Nat)]∧m+q=l.length∧SS h0 M h' i js l (((l.take q).map (·.2)).flatMap (szD f)) lv dv' kn sz kvs EL ED' R):=by
   intro h78
   refine ev _ h78 fun h2 f2=>?_
   unfold acK
   have s2:=s1.call f2
   have sp2:=St.startr (s2.ent _ hm)
   unfold enE at sp2
   have cont:∀ h7:l[q].2.x.2.kind=7,C be [.full 5 [I 1,I 2,I 4,I 8,I 16],I (bN 0 f (bQ l[q].2)).1] h2 fun t54 h5=>bG t54 (I (bN 0 f (bQ l[q].2)).2) (.ptr l[q].1 0) (I (q:Nat)) (.ptr i 0) h5 (fun vs' h'=>∃ m,m<n∧∃ (q:Nat) (dv':AV) (ED':Own),vs'=[I (q:Nat)]∧m+q=l.length∧SS h0 M h' i js l (((l.take q).map (·.2)).flatMap (szD f)) lv dv' kn sz kvs EL ED' R):=by
    intro h7
    refine Fe (bN 0 f (bQ l[q].2)).1 [1,2,4,8,16] (by decide) (Row.full (enc:=iE) (fun _=>rfl) [1,2,4,8,16]) ?_
    exact body h2 h78 s2 _ (by rw[JS,if_pos h7])
   refine bz ?_
   refine ah (fun hg=>?_) (fun hg=>?_)<;>simp only[za,zb,zc,zd,ze,zf,zg,zh,zi,u8i,zj,zk,zl]at hg
   ·refine fK ?_
    refine au (aj (aj (ag sp2 (.head _) rfl (aA ?_))))
    refine ah (fun h7=>?_) (fun h7=>?_)<;>simp only[za,zb,zc,zd,ze,zf,zg,zh,zi,u8i,zj,zk,zl]at h7
    ·exact aB rfl rfl (cont (by omega))
    ·refine body h2 h78 s2 _ ?_
     rw[JS,if_neg (by omega),show decide (0≤(bN 0 f (bQ l[q].2)).1)=true by simpa using hg];rfl
   ·refine au (aj (aj (ag sp2 (.head _) rfl (aA ?_))))
    refine ah (fun h7=>?_) (fun h7=>?_)<;>simp only[za,zb,zc,zd,ze,zf,zg,zh,zi,u8i,zj,zk,zl]at h7
    ·exact aB rfl rfl (cont (by omega))
    ·refine body h2 h78 s2 _ ?_
     rw[JS,if_neg (by omega),show decide (0≤(bN 0 f (bQ l[q].2)).1)=false by simp;omega];rfl
  refine ah (fun h7=>?_) (fun h7=>?_)<;>simp only[za,zb,zc,zd,ze,zf,zg,zh,zi,u8i,zj,zk,zl]at h7
  ·refine au (aj (aj (ag sp (.head _) rfl (bU ?_))))
   refine ah (fun h8=>?_) (fun h8=>?_)<;>simp only[za,zb,zc,zd,ze,zf,zg,zh,zi,u8i,zj,zk,zl]at h8
   ·unfold aO gC
    refine aI (by omega) ?_
    refine⟨n-1,by omega,q+1,dv1,ED1,rfl,by omega,?_⟩
    have hdec:(decide (l[q].2.x.2.kind=7)||decide (l[q].2.x.2.kind=8))=false:=by simp;omega
    rw[hsucc,szD,Ov,hdec];simpa using s1
   ·exact fin (.inr (by omega))
  ·exact fin (.inl (by omega))
 ·have hq:q=l.length:=by omega
  subst hq
  rw[List.take_length]at s1
  exact k dv1 ED1 h1 s1
