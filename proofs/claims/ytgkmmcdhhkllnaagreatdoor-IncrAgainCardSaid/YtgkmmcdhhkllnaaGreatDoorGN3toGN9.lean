import Derived.Test.YtgkmmcdhhkllnaaGreatDoorAR1toGN2
import Derived.Test.YtgkmmcdhhkllnaaGreatDoorAI4toAE4
import Derived.KernelRfl
import Derived.Test.YtgkmmcdhhkllnaaGreatDoorAE5toAN4
import Derived.Test.YtgkmmcdhhkllnaaGreatDoorF9
set_option linter.all false
set_option autoImplicit true
set_option relaxedAutoImplicit true
set_option maxRecDepth 100000
namespace Go.Proofs.YtgkmmcdhhkllnaaGreatDoor.AL
section
noncomputable section
theorem zX:∀ f n,∀ c∈mM f n,48≤c.toNat∧c.toNat≤57
 | 0,n,c,hc=>by simp[mM]at hc
 | f+1,n,c,hc=>by
   unfold mM at hc
   split at hc
   ·rename_i h
    simp at hc
    subst hc
    have:n=0∨n=1∨n=2∨n=3∨n=4∨n=5∨n=6∨n=7∨n=8∨n=9:=by omega
    rcases this with h|h|h|h|h|h|h|h|h|h<;>subst h<;>decide
   ·rcases List.mem_append.1 hc with hc|hc
    ·exact zX f _ c hc
    ·exact zX f _ c hc
theorem El (b:Nat):∀ (l m:Str) (n:Nat),qA b (l++m) n=(qA b l n).bind (qA b m)
 | [],m,n=>rfl
 | c::l,m,n=>by
   simp only[List.cons_append,qA]
   split
   ·rfl
   ·exact El b l m _
theorem O6:∀ f n,n<10^(f+1)→n<4294967296→qA 10 (mM (f+1) n) 0=some n
 | f,n,hf,hn=>by
   unfold mM
   split
   ·have:n=0∨n=1∨n=2∨n=3∨n=4∨n=5∨n=6∨n=7∨n=8∨n=9:=by omega
    rcases this with h|h|h|h|h|h|h|h|h|h<;>subst h<;>decide
   ·rename_i h
    obtain⟨f,rfl⟩:∃ g,f=g+1:=by
     cases f with
     | zero=>simp at hf;omega
     | succ g=>exact⟨g,rfl⟩
    have hpw:(10:Nat)^(f+1+1)=10^(f+1)*10:=Nat.pow_succ ..
    rw[El,O6 f (n / 10) (by omega) (by omega)]
    have hd:n%10<10:=Nat.mod_lt _ (by decide)
    have hm:n / 10*10+n%10=n:=by omega
    show qA 10 (mM (f+1) (n%10)) (n / 10)=some n
    unfold mM
    rw[if_pos hd]
    have hv:oU (UInt8.ofNat (48+n%10))=n%10:=by
     generalize n%10=q at hd
     have:q=0∨q=1∨q=2∨q=3∨q=4∨q=5∨q=6∨q=7∨q=8∨q=9:=by omega
     rcases this with h|h|h|h|h|h|h|h|h|h<;>subst h<;>decide
    simp only[qA,hv,hm]
    rw[if_neg (by omega)]
theorem SF:∀ f n,n<10^(f+1)→mM (f+1) n≠[]
 | 0,n,h=>by
   unfold mM
   rw[if_pos (by simpa using h)];simp
 | f+1,n,h=>by
   have hpw:(10:Nat)^(f+1+1)=10^(f+1)*10:=Nat.pow_succ ..
   unfold mM
   split
   ·simp
   ·simp[SF f (n / 10) (by omega)]
theorem Jq {p:UInt8→Bool}:∀ {l:Str},(∀ x∈l,p x=true)→l.takeWhile p=l
 | [],_=>rfl
 | c::l,h=>by rw[List.takeWhile_cons,if_pos (h c (.head _)),Jq fun x hx=>h x (.tail _ hx)]
theorem V5 (sub:PF) (j:Nat) (x:Ex):∀ n,eO sub ((levelsL[4-j]?).getD []) n x []=some (x,[]):=by
 have hk:dA ((levelsL[4-j]?).getD []) []=(0,[]):=by
  have:4-j=0∨4-j=1∨4-j=2∨4-j=3∨4-j=4:=by omega
  rcases this with h|h|h|h|h<;>rw[h]<;>decide
 intro n
 cases n<;>simp[eO,hk]
theorem LL {one:PF}{s:Str}{x:Ex}(h:one s=some (x,[])):∀ r,gD one r s=some (x,[])
 | 0=>h
 | r+1=>by
   unfold gD
   rw[LL h r]
   exact V5 _ _ _ _
theorem OU {f n:Nat}(hf:n<10^(f+1)) (hn:n<4294967296) (g m:PF):ra g m (mM (f+1) n)=some (.num n,[]):=by
 have hp:=zX (f+1) n
 have hne:=SF f n hf
 have hnum:=O6 f n hf hn
 generalize mM (f+1) n=s at hp hne hnum
 match s,hne with
 | c::s,_=>
   have hc:=hp c (.head _)
   have hall:∀ x∈c::s,bt x.toNat=true:=fun x hx=>by
    have:=hp x hx;simp[bt];omega
   have hb:blk (c::s)=c::s:=by
    have:c≠32:=fun e=>by subst e;revert hc;decide
    simp[blk,iC,this]
   have hn:∀ (q:UInt8) (l:Str),q.toNat<48→(q::l).isPrefixOf (c::s)=false:=fun q l hq=>by
    have:q≠c:=fun e=>by subst e;omega
    simp[List.isPrefixOf,this]
   have h2:([48,120]:Str).isPrefixOf (c::s)=false:=by
    cases s with
    | nil=>simp[List.isPrefixOf]
    | cons d s=>
      have hd:=hp d (.tail _ (.head _))
      have:(120:UInt8)≠d:=fun e=>by subst e;revert hd;decide
      simp[List.isPrefixOf,this]
   have hw:H0 (c::s)=c::s:=by
    unfold H0
    exact Jq hall
   unfold ra
   rw[hb,hn 40 [] (by decide),hn 45 [] (by decide),hn 46 [] (by decide)]
   unfold Bu GN
   rw[h2,hw]
   unfold eV
   rw[hnum]
   simp[gc]
theorem VD {f n:Nat}(hf:n<10^(f+1)) (hn:n<4294967296):gI (mM (f+1) n)=some (.num n):=by
 unfold gI
 rw[LL (one:=Br 12) (OU hf hn _ _)]
 simp[blk,iC]
theorem Us {f n:Nat}(hf:n<10^(f+1)) (hn:n<4294967296):gI (45::mM (f+1) n)=some (.neg (.num n)):=by
 unfold gI
 have h1:Br 12 (45::mM (f+1) n)=some (.neg (.num n),[]):=by
  show ra (gS (gD (Br 11) 5)) (eJ (Br 11)) _=_
  unfold ra
  have hb:blk (45::mM (f+1) n)=45::mM (f+1) n:=by simp[blk,iC]
  rw[hb]
  have h40:([40]:Str).isPrefixOf (45::mM (f+1) n)=false:=by simp[List.isPrefixOf]
  have h45:([45]:Str).isPrefixOf (45::mM (f+1) n)=true:=by simp[List.isPrefixOf]
  rw[h40,h45]
  simp only[Bool.false_eq_true,if_false,if_true]
  show eJ (Br 11) (mM (f+1) n)=_
  unfold eJ
  rw[show Br 11 (mM (f+1) n)=_ from OU hf hn _ _]
 rw[LL h1]
 simp[blk,iC]
section
variable [Tabs]
variable {h h0:ae}{Q:QT}{K:AV→Prop}
theorem Ms {x:Int}(hx:-4294967295≤x∧x≤4294967295) (q:∀ s h',s.length≤2000→(∃ e,gI s=some e∧okX e∧bn e≤2)→Fr [] h h'→Q (T s) h'):C dy [I x] h Q:=by
 by_cases h0:0≤x
 ·obtain⟨n,rfl⟩:=Int.eq_ofNat_of_zero_le h0
  refine yy 9 n (by omega) (by decide) h Q fun h1 f1=>?_
  refine q _ _ (by have:=tM 10 n;show (mM 10 n).length≤2000;omega) ⟨_,VD (f:=9) (by omega) (by omega),by show n<_;omega,by simp[bn]⟩ f1
 ·obtain⟨n,hn⟩:=Int.eq_ofNat_of_zero_le (show 0≤-x by omega)
  refine xj _ _ _ ?_
  unfold xx
  refine aJ (ah (fun _=>?_) (fun hb=>?_))
  ·refine cH (by omega) ?_
   rw[show 0-x=((n:Nat):Int) by omega]
   refine yy 9 n (by omega) (by decide) h _ fun h1 f1=>?_
   have:=tM 10 n
   refine dU (by simp;omega) ?_
   exact q _ _ (by simp;omega) ⟨_,Us (f:=9) (n:=n) (by omega) (by omega),by show n<_;omega,by simp[bn]⟩ f1
  ·have:=of_decide_eq_false hb;omega
def WU (N:Nat):Prop:=∀ (e:Ex),bn e≤N→okX e→∀ (h:ae) (Q:QT),(∀ s h',s.length≤2000*bn e→Fr [] h h'→Q (T s) h')→C mK [.agg (bq e)] h Q
theorem GC {N:Nat}(hT:WU N) {e:Ex}(hs:bn e≤N) (hN:N≤1000000) (he:okX e) (q:∀ s h',s.length≤2000*bn e+2→Fr [] h h'→Q (T s) h'):C dx [.agg (bq e)] h Q:=by
 refine Cg _ _ _ ?_
 unfold xK
 refine bR (St.start h) rfl fun i h1 s1=>?_
 have s1:St h [] h1 [(i,true,.cells (bq e))]:=s1
 obtain⟨n,cs,hl⟩:∃ n cs,(bq e)[3]?=some (.full n cs):=by cases e<;>exact⟨_,_,rfl⟩
 refine aj (af s1 (.head _) hl (iy ?_))
 refine aA (ah (fun _=>?_) (fun _=>?_))
 ·refine aL s1 (aq e) (.head _) ?_
  refine hT e hs he _ _ fun s h2 hl f2=>?_
  refine dU (by simp;omega) (dU (by simp;omega) ?_)
  exact q _ _ (by simp;omega) (s1.call f2).fr
 ·refine aL s1 (aq e) (.head _) ?_
  refine hT e hs he _ _ fun s h2 hl f2=>?_
  exact q _ _ (by omega) (s1.call f2).fr
theorem PK:∀ N,N≤1000000→WU N
 | 0,_,e,hs,_,_,_,_=>by cases e<;>simp[bn]at hs
 | N+1,hN,e,hs,he,h,Q,q=>by
   have hT:=PK N (by omega)
   refine LS _ _ _ ?_
   unfold I5
   refine bR (St.start h) rfl fun i h1 s1=>?_
   have s1:St h [] h1 [(i,true,.cells (bq e))]:=s1
   cases e with
   | none=>exact he.elim
   | num n=>
     have hn:n<4294967296:=he
     refine aj (af s1 (.head _) (a:=I 1) rfl (aA (ah (fun _=>?_) (fun h=>by cases h))))
     refine aj (af s1 (.head _) (a:=I (n:Nat)) rfl ?_)
     refine Ms (by omega) fun s h2 hl _ f2=>?_
     exact q _ _ (by simp[bn];omega) (s1.call f2).fr
   | name s=>
     have hn:s.length≤12:=he
     refine aj (af s1 (.head _) (a:=I 2) rfl (aA (ah (fun h=>by cases h) (fun _=>?_))))
     refine aA (ah (fun _=>?_) (fun h=>by cases h))
     refine aj (af s1 (.head _) (a:=T s) rfl ?_)
     exact q _ _ (by simp[bn];omega) s1.fr
   | here=>
     refine aj (af s1 (.head _) (a:=I 3) rfl (aA (ah (fun h=>by cases h) (fun _=>?_))))
     refine aA (ah (fun h=>by cases h) (fun _=>?_))
     refine aA (ah (fun _=>?_) (fun h=>by cases h))
     exact q _ _ (by simp[bn]) s1.fr
   | neg e=>
     simp only[bn]at hs q
     have he:okX e:=he
     refine aj (af s1 (.head _) (a:=I 4) rfl (aA (ah (fun h=>by cases h) (fun _=>?_))))
     refine aA (ah (fun h=>by cases h) (fun _=>?_))
     refine aA (ah (fun h=>by cases h) (fun _=>?_))
     refine aA (ah (fun _=>?_) (fun h=>by cases h))
     refine aj (af s1 (.head _) (a:=.full 1 (bq e)) rfl ?_)
     have r:Row bq 4 h1 (.full 1 (bq e)) [e]:=by simpa using Row.full (h:=h1) (enc:=bq) (sz:=4) aq [e]
     refine r.idx aq (j:=0) (by simp) fun p t=>?_
     refine bk t (aq _).symm ?_
     refine GC (e:=e) hT (show bn e≤N by omega) (by omega) he fun s h2 hl f2=>?_
     refine dU (by simp;omega) ?_
     exact q _ _ (by simp;omega) (s1.call f2).fr
   | bin k a b=>
     simp only[bn]at hs q
     obtain⟨hk,ha,hb⟩:=he
     refine aj (af s1 (.head _) (a:=I (k:Nat)) rfl (aA (ah (fun h=>by simp at h;omega) (fun _=>?_))))
     refine aA (ah (fun h=>by simp at h;omega) (fun _=>?_))
     refine aA (ah (fun h=>by simp at h;omega) (fun _=>?_))
     refine aA (ah (fun h=>by simp at h;omega) (fun _=>?_))
     refine aj (af s1 (.head _) (a:=I (k:Nat)) rfl ?_)
     refine Bb _ _ _ ?_
     unfold Du
     have r:∀ h,Row bq 4 h (.full 2 (bq a++bq b)) [a,b]:=fun h=>by simpa using Row.full (h:=h) (enc:=bq) (sz:=4) aq [a,b]
     have go:∀ (sgn:Str) (u:AV),sgn.length≤2→an 0 (.tup [T sgn,u]) fun t30=>an 1 (.tup [T sgn,u]) fun t31=>ab 3 (.ptr i 0) fun t32=>ag t32 h1 fun t33=>am 4 t33 (I 0) fun t34=>aw 4 t34 h1 fun t35=>
       ab 3 (.ptr i 0) fun t41=>ag t41 h1 fun t42=>am 4 t42 (I 1) fun t43=>aw 4 t43 h1 fun t44=>C dx [t35] h1 fun t36 h4=>(aw 4 t43 h4 fun _t=>_t=t44)∧(ag t41 h4 fun _t=>_t=t42)∧
       ai .add t36 (S ⟨#[32]⟩) fun t37=>ai .add t37 t30 fun t39=>ai .add t39 (S ⟨#[32]⟩) fun t40=>C dx [t44] h4 fun t45 h5=>ai .add t40 t45 fun t46=>Q t46 h5:=fun sgn u hsg=>by
      refine aF rfl (aF rfl ?_)
      refine aj (af s1 (.head _) (a:=.full 2 (bq a++bq b)) rfl ?_)
      refine (r h1).idx aq (j:=0) (by simp) fun p t=>?_
      refine bk t (aq _).symm ?_
      refine aj (af s1 (.head _) (a:=.full 2 (bq a++bq b)) rfl ?_)
      refine (r h1).idx aq (j:=1) (by simp) fun p2 t2=>?_
      refine bk t2 (aq _).symm ?_
      refine GC (e:=a) hT (show bn a≤N by omega) (by omega) ha fun s h2 hl f2=>?_
      have s2:=s1.call f2
      refine⟨bk (t2.fr f2) (aq _).symm rfl,af s2 (.head _) rfl rfl,?_⟩
      refine dU (by simp;omega) (dU (by simp;omega) (dU (by simp;omega) ?_))
      refine GC (e:=b) hT (show bn b≤N by omega) (by omega) hb fun s' h3 hl' f3=>?_
      refine dU (by simp;omega) ?_
      exact q _ _ (by simp;omega) (s2.call f3).fr
     refine aA (ah (fun _=>go [43] _ (by simp)) (fun _=>?_))
     refine aA (ah (fun _=>go [45] _ (by simp)) (fun _=>?_))
     refine aA (ah (fun _=>go [42] _ (by simp)) (fun _=>?_))
     refine aA (ah (fun _=>go [38] _ (by simp)) (fun _=>?_))
     refine aA (ah (fun _=>go [124] _ (by simp)) (fun _=>?_))
     refine aA (ah (fun _=>go [60,60] _ (by simp)) (fun _=>?_))
     exact go [62,62] _ (by simp)
end
end
end
section
noncomputable section
section
variable [Tabs]
variable {h h0:ae}{Q:QT}{i D p:Nat}{s:Str}{b:Bool}
def tS:Str:=ref2_find_k1.data.toList
structure R3 where
 name:Str
 bits:Str
 kinds:Str
def R3.enc (r:R3):Str:=r.name++(58::(r.bits++(58::(r.kinds++[124]))))
def acq (n:Nat):UInt8:=if n<10 then UInt8.ofNat (48+n) else UInt8.ofNat (87+n)
def ab9:Nat→Nat→Str
 | 0,_=>[]
 | k+1,n=>ab9 k (n / 16)++[acq (n%16)]
def aaS (op:Nat) (r:Rw):R3:=⟨r.name,ab9 (2*mq op) r.bits,r.kinds⟩
def PT:Nat→List Rw→List R3
 | _,[]=>[]
 | n,r::l=>aaS n r::PT (n+1) l
def rowsR:List R3:=PT 0 tbl
theorem abR:tS=rowsR.flatMap R3.enc:=by kernel_rfl
theorem Qn:tS.length=1212:=by kernel_rfl
def oX (w:Str):Bool:=w.all fun c=>!(c==58)&&!(c==124)
theorem Ru:(rowsR.all fun r=>oX r.name&&(oX r.bits&&oX r.kinds))=true:=by kernel_rfl
theorem hT:(S ref2_find_k1)=T tS:=rfl
theorem B5 {p j:Nat}{K:AV→Prop}(hj:j<3) (k:K (.ptr p (0+j*1))):cd 3 1 (.ptr p 0) (I (j:Nat)) K:=⟨by
 simp only[cR,asI,Int.toNat_natCast]
 exact⟨⟨by omega,by omega⟩,k⟩⟩
abbrev FB (q9 q4:Nat) (op:Int) (name:Str) (Q:QT):List AV→ae→(NT)→Prop:=fun vs h nx=>kY (.ptr q9 0) (.ptr q4 0) (I op) (T name) Q vs h nx
abbrev fvs (n a k i:Nat):List AV:=[I 0,B false,I (n:Nat),I (a:Nat),I (k:Nat),I (i:Nat)]
variable {q9 q4:Nat}{op:Int}{name:Str}
theorem yn {n a k m:Nat}:∀ (w rest:Str) (i:Nat),oX w=true→tS.drop i=w++rest→LX (FB q9 q4 op name Q) m (fvs n a k (i+w.length)) h→LX (FB q9 q4 op name Q) (m+w.length) (fvs n a k i) h
 | [],rest,i,_,_,K=>K
 | c::w,rest,i,hw,hd,K=>by
   have hi:i<tS.length:=by
    rcases Nat.lt_or_ge i tS.length with h|h
    ·exact h
    ·rw[List.drop_of_length_le h]at hd;cases hd
   have hc:tS[i]=c∧tS.drop (i+1)=w++rest:=by
    rw[BQ hi]at hd
    injection hd with h1 h2
    exact⟨h1,h2⟩
   have hp:c≠58∧c≠124:=by
    have:=List.all_eq_true.1 hw c (.head _)
    simpa using this
   have hw2:oX w=true:=by
    unfold oX at hw ⊢
    rw[List.all_cons,Bool.and_eq_true]at hw
    exact hw.2
   have hl:=Qn
   refine rC ?_
   unfold FB kY
   rw[hT]
   refine aJ (ah (fun _=>?_) (fun h=>by simp at h;omega))
   refine bO hi ?_
   rw[hc.1]
   refine bT (ah (fun _=>?_) (fun h=>by
    simp only[decide_eq_false_iff_not,Classical.not_not]at h
    exact absurd ((Tj (n:=58) (by decide)).1 h) hp.1))
   refine bO hi ?_
   rw[hc.1]
   refine bT (ah (fun _=>?_) (fun h=>by
    simp only[decide_eq_false_iff_not,Classical.not_not]at h
    exact absurd ((Tj (n:=124) (by decide)).1 h) hp.2))
   unfold jX pK
   refine aH (by omega) ?_
   refine⟨m+w.length,by simp,?_⟩
   have:=yn (m:=m) w rest (i+1) hw2 hc.2 (by rw[show i+1+w.length=i+(c::w).length by simp;omega];exact K)
   exact this
theorem HX {n a k m i:Nat}{c:UInt8}{xs:List AV}(hn:n<100000) (hx:xs.length=3) (ho:xs.all AV.one=true) (hk:k<3) (hc:c=58∨c=124) (hi:i<tS.length) (hci:tS[i]=c) (hai:a≤i) (s:St h0 [] h [(q9,true,.cells xs),(q4,true,.cells [T [],T [],T []])])
  (K:∀ h',St h0 [] h' [(q9,true,.cells (xs.set k (T ((tS.drop a).take (i-a))))),(q4,true,.cells [T [],T [],T []])]→(c=58→LX (FB q9 q4 op name Q) m (fvs n (i+1) (k+1) (i+1)) h')∧
   (c=124→(∀ A B' C',xs.set k (T ((tS.drop a).take (i-a)))=[T A,T B',T C']→((n:Int)=op∨A=name→∀ h2,Fr [] h0 h2→Q (.tup [.agg [T A,T B',T C'],I (n:Nat),B true]) h2)∧(¬ ((n:Int)=op∨A=name)→LX (FB q9 q4 op name Q) m (fvs (n+1) (i+1) 0 (i+1)) h'))∧∃ A B' C',xs.set k (T ((tS.drop a).take (i-a)))=[T A,T B',T C'])):
  LX (FB q9 q4 op name Q) (m+1) (fvs n a k i) h:=by
 have hl:=Qn
 refine rC ?_
 unfold FB kY
 rw[hT]
 refine aJ (ah (fun _=>?_) (fun h=>by simp at h;omega))
 refine bO hi ?_
 rw[hci]
 have c1:pV (fvs n a k i) (.ptr q9 0) h (I op) (.ptr q4 0) Q (T name) (fun vs' h'=>∃ m_1,∃ _:m_1<m+1,LX (FB q9 q4 op name Q) m_1 vs' h'):=by
  unfold pV
  rw[hT]
  refine Hx (by omega) (by omega) (by omega) ?_
  simp only[Int.toNat_natCast]
  refine B5 hk ?_
  refine ay (cs:=xs) (o:=0+k*1) (L':=[(q9,true,.cells (xs.set k (T ((tS.drop a).take (i-a))))),(q4,true,.cells [T [],T [],T []])]) s ?_ rfl rfl rfl (by omega) fun h2 s2=>?_
  ·have e:splice xs (0+k*1) (T ((tS.drop a).take (i-a))).cells=xs.set k (T ((tS.drop a).take (i-a))):=by
    rcases xs with _|⟨x0,_|⟨x1,_|⟨x2,_|⟨x3,xs⟩⟩⟩⟩<;>simp at hx
    rcases (show k=0∨k=1∨k=2 by omega) with e|e|e<;>subst e<;>rfl
   rw[e];exact .head
  obtain⟨k1,k2⟩:=K h2 s2
  refine aH (by omega) (aH (by omega) ?_)
  refine bO hi ?_
  rw[hci]
  refine aA ?_
  rcases hc with rfl|rfl
  ·refine ah (fun h=>by simp at h) (fun _=>?_)
   unfold jX pK
   refine aH (by omega) ?_
   exact⟨m,by omega,k1 rfl⟩
  ·refine ah (fun _=>?_) (fun h=>by simp at h)
   obtain⟨k2,A,B',C',hA⟩:=k2 rfl
   obtain⟨k2,k3⟩:=k2 A B' C' hA
   rw[hA]at s2
   have c2:(n:Int)=op∨A=name→pH (.ptr q9 0) h2 (.ptr q4 0) Q (fvs n a k i):=fun hh=>by
    unfold pH
    refine B5 (j:=0) (by decide) (af s2 (.head _) (a:=T A) rfl ?_)
    refine B5 (j:=1) (by decide) (af s2 (.head _) (a:=T B') rfl ?_)
    refine B5 (j:=2) (by decide) (af s2 (.head _) (a:=T C') rfl ?_)
    refine aD rfl ?_
    refine ay (o:=0) s2 (.tail .head) rfl rfl rfl (nle rfl) fun h3 s3=>?_
    refine aK s3 (.tail _ (.head _)) (nle rfl) ?_
    exact k2 hh h3 s3.fr
   refine aA ?_
   refine ah (fun h=>c2 (.inl (of_decide_eq_true h))) (fun hno=>?_)
   refine B5 (j:=0) (by decide) (af s2 (.head _) (a:=T A) rfl ?_)
   refine aU ?_
   refine ah (fun h=>c2 (.inr (by simpa using h))) (fun hno2=>?_)
   refine aH (by omega) ?_
   unfold jX pK
   refine aH (by omega) ?_
   exact⟨m,by omega,k3 (by rintro (h|h);exact of_decide_eq_false hno h;simp[h]at hno2)⟩
 refine bT (ah (fun _=>?_) (fun _=>c1))
 refine bO hi ?_
 rw[hci]
 refine bT (ah (fun hh=>?_) (fun _=>c1))
 rename_i hh0
 rcases hc with rfl|rfl
 ·simp at hh0
 ·simp at hh
theorem acr {xs:List AV}(hx:xs.length=3) (x y z:AV):((xs.set 0 x).set 1 y).set 2 z=[x,y,z]:=by
 rcases xs with _|⟨x0,_|⟨x1,_|⟨x2,_|⟨x3,xs⟩⟩⟩⟩<;>simp at hx
 rfl
theorem HO {a:Nat}{w rest:Str}(h:tS.drop a=w++rest):(tS.drop a).take (a+w.length-a)=w:=by
 rw[h,show a+w.length-a=w.length by omega,List.take_left'];rfl
theorem Lr {i:Nat}{c:UInt8}{rest:Str}(h:tS.drop i=c::rest):∃ hi:i<tS.length,tS[i]=c∧tS.drop (i+1)=rest:=by
 have hi:i<tS.length:=by
  rcases Nat.lt_or_ge i tS.length with h'|h'
  ·exact h'
  ·rw[List.drop_of_length_le h']at h;cases h
 rw[BQ hi]at h
 injection h with h1 h2
 exact⟨hi,h1,h2⟩
theorem YD {r:R3}{n p m:Nat}{rest:Str}{xs:List AV}(hn:n<100000) (h1:oX r.name=true) (h2:oX r.bits=true) (h3:oX r.kinds=true) (hd:tS.drop p=r.enc++rest) (hx:xs.length=3) (ho:xs.all AV.one=true)
  (s:St h0 [] h [(q9,true,.cells xs),(q4,true,.cells [T [],T [],T []])])
  (kf:(n:Int)=op∨r.name=name→∀ h2,Fr [] h0 h2→Q (.tup [.agg [T r.name,T r.bits,T r.kinds],I (n:Nat),B true]) h2)
  (kn:¬ ((n:Int)=op∨r.name=name)→∀ h' xs',xs'.length=3→xs'.all AV.one=true→St h0 [] h' [(q9,true,.cells xs'),(q4,true,.cells [T [],T [],T []])]→LX (FB q9 q4 op name Q) m (fvs (n+1) (p+r.enc.length) 0 (p+r.enc.length)) h'):
  LX (FB q9 q4 op name Q) (m+r.enc.length) (fvs n p 0 p) h:=by
 have hl:r.enc.length=r.name.length+(1+(r.bits.length+(1+(r.kinds.length+1)))):=by unfold R3.enc;simp;omega
 have e1:tS.drop p=r.name++(58::(r.bits++(58::(r.kinds++(124::rest))))):=by rw[hd];unfold R3.enc;simp
 have e2:tS.drop (p+r.name.length)=58::(r.bits++(58::(r.kinds++(124::rest)))):=by rw[← List.drop_drop,e1,List.drop_left'];rfl
 obtain⟨i1,c1,e3⟩:=Lr e2
 have e4:tS.drop (p+r.name.length+1+r.bits.length)=58::(r.kinds++(124::rest)):=by rw[← List.drop_drop,e3,List.drop_left'];rfl
 obtain⟨i2,c2,e5⟩:=Lr e4
 have e6:tS.drop (p+r.name.length+1+r.bits.length+1+r.kinds.length)=124::rest:=by rw[← List.drop_drop,e5,List.drop_left'];rfl
 obtain⟨i3,c3,e7⟩:=Lr e6
 rw[show m+r.enc.length=(((((m+1)+r.kinds.length)+1)+r.bits.length)+1)+r.name.length by omega]
 refine yn r.name _ p h1 e1 ?_
 refine HX hn hx ho (by decide) (.inl rfl) i1 c1 (by omega) s fun h5 s5=>⟨fun _=>?_,fun h=>by cases h⟩
 rw[HO e1]at s5
 refine yn r.bits _ _ h2 e3 ?_
 refine HX (xs:=xs.set 0 (T r.name)) hn (by simpa using hx) (by
  rcases xs with _|⟨x0,_|⟨x1,_|⟨x2,_|⟨x3,xs⟩⟩⟩⟩<;>simp at hx ho ⊢
  exact⟨rfl,ho.2.1,ho.2.2⟩) (by decide) (.inl rfl) i2 c2 (by omega) s5 fun h6 s6=>⟨fun _=>?_,fun h=>by cases h⟩
 rw[HO e3]at s6
 refine yn r.kinds _ _ h3 e5 ?_
 refine HX (xs:=(xs.set 0 (T r.name)).set 1 (T r.bits)) hn (by simpa using hx) (by
  rcases xs with _|⟨x0,_|⟨x1,_|⟨x2,_|⟨x3,xs⟩⟩⟩⟩<;>simp at hx ho ⊢
  exact⟨rfl,rfl,ho.2.2⟩) (by decide) (.inr rfl) i3 c3 (by omega) s6 fun h7 s7=>⟨fun h=>(by cases h),fun _=>?_⟩
 rw[HO e5,acr hx]at s7 ⊢
 refine⟨fun A B' C' hA=>?_,r.name,r.bits,r.kinds,rfl⟩
 have hA:r.name=A∧r.bits=B'∧r.kinds=C':=by simpa using hA
 obtain⟨rfl,rfl,rfl⟩:=hA
 refine⟨kf,fun hno=>?_⟩
 have:=kn hno h7 _ rfl rfl s7
 rw[hl,show p+(r.name.length+(1+(r.bits.length+(1+(r.kinds.length+1)))))=p+r.name.length+1+r.bits.length+1+r.kinds.length+1 by omega]at this
 exact this
def Bo (op:Int) (name:Str):Nat→List R3→Option (Nat×R3)
 | _,[]=>none
 | n,r::l=>if (n:Int)=op∨r.name=name then some (n,r) else Bo op name (n+1) l
def aaE:Option (Nat×R3)→AV
 | some (n,r)=>.tup [.agg [T r.name,T r.bits,T r.kinds],I (n:Nat),B true]
 | none=>.tup [.agg [T [],T [],T []],I 0,B false]
theorem M8:∀ (l:List R3) (n p:Nat) (xs:List AV) (h:ae),n+l.length<100000→(l.all fun r=>oX r.name&&(oX r.bits&&oX r.kinds))=true→tS.drop p=l.flatMap R3.enc→xs.length=3→xs.all AV.one=true→
  St h0 [] h [(q9,true,.cells xs),(q4,true,.cells [T [],T [],T []])]→(∀ h2,Fr [] h0 h2→Q (aaE (Bo op name n l)) h2)→LX (FB q9 q4 op name Q) (1+(l.flatMap R3.enc).length) (fvs n p 0 p) h
 | [],n,p,xs,h,hn,_,hd,hx,ho,s,k=>by
   have hl:=Qn
   have hp:1212≤p:=by
    have:=congrArg List.length hd
    simp at this;omega
   refine rC ?_
   unfold FB kY
   refine aJ (ah (fun h=>by simp at h;omega) (fun _=>?_))
   refine aD rfl ?_
   refine ay (o:=0) s (.tail .head) rfl rfl rfl (nle rfl) fun h2 s2=>?_
   refine aK s2 (.tail _ (.head _)) (nle rfl) ?_
   exact k h2 s2.fr
 | r::l,n,p,xs,h,hn,hp,hd,hx,ho,s,k=>by
   rw[List.all_cons,Bool.and_eq_true,Bool.and_eq_true,Bool.and_eq_true]at hp
   obtain⟨⟨h1,h2,h3⟩,hp⟩:=hp
   rw[List.flatMap_cons]at hd
   rw[List.flatMap_cons,List.length_append,show 1+(r.enc.length+(l.flatMap R3.enc).length)=(1+(l.flatMap R3.enc).length)+r.enc.length by omega]
   have hd2:tS.drop (p+r.enc.length)=l.flatMap R3.enc:=by rw[← List.drop_drop,hd,List.drop_left'];rfl
   refine YD (by simp at hn;omega) h1 h2 h3 hd hx ho s (fun hh h2 f2=>?_) (fun hh h' xs' hx' ho' s'=>?_)
   ·have:=k h2 f2
    unfold Bo at this
    rw[if_pos hh]at this
    exact this
   ·refine M8 l (n+1) (p+r.enc.length) xs' h' (by simp at hn;omega) hp hd2 hx' ho' s' fun h2 f2=>?_
    have:=k h2 f2
    unfold Bo at this
    rw[if_neg hh]at this
    exact this
theorem TP:rowsR.length<1000:=of_decide_eq_true (by kernel_rfl)
theorem Jw (op:Int) (name:Str) (k:∀ h',Fr [] h h'→Q (aaE (Bo op name 0 rowsR)) h'):C pJ [I op,T name] h Q:=by
 refine MC _ _ _ _ ?_
 unfold J2
 refine aQ (St.start h) fun q4 h1 s1=>?_
 refine aQ s1 fun q9 h2 s2=>?_
 refine A7 _ (M8 rowsR 0 0 _ h2 (by have:=TP;omega) Ru (by rw[List.drop_zero];exact abR) rfl rfl s2 k)
end
end
end
section
noncomputable section
variable [Tabs]
def Kg:Way→Bool
 | .reg=>true
 | _=>false
def abb (kinds:List Str):Prop:=∀ k∈kinds,∀ (h:ae) (Q:QT),Q (B (Kg (lA k))) h→C jM [T k] h Q
end
end
section
noncomputable section
section
variable [Tabs]
variable {h h0:ae}{Q:QT}{i D p:Nat}{s:Str}{b:Bool}
theorem HF:∀ (l:List Rw) (n j:Nat) (hj:j<l.length),(∀ r∈l,r.name≠[32])→Bo ((n+j:Nat):Int) [32] n (PT n l)=some (n+j,aaS (n+j) l[j])
 | r::l,n,0,hj,hn=>by
   unfold PT Bo
   rw[if_pos (.inl (by simp))];rfl
 | r::l,n,j+1,hj,hn=>by
   unfold PT Bo
   rw[if_neg (by
    rintro (h|h)
    ·omega
    ·exact hn r (.head _) h)]
   have:=HF l (n+1) j (by simpa using hj) fun x hx=>hn x (.tail _ hx)
   rw[show n+1+j=n+(j+1) by omega]at this
   simpa using this
theorem Ud:∀ r∈tbl,r.name≠[32]:=by decide
theorem Sl {op:Nat}(ho:op<tbl.length):Bo (op:Int) [32] 0 rowsR=some (op,aaS op tbl[op]):=by
 have:=HF tbl 0 op ho Ud
 simp only[Nat.zero_add]at this
 exact this
theorem Mh {op:Nat}(ho:op<tbl.length) (k:∀ h',Fr [] h h'→Q (T (tbl[op]).kinds) h'):C nV [I (op:Nat)] h Q:=by
 refine Im _ _ _ ?_
 unfold F9
 refine Jw (op:Int) [32] fun h1 f1=>?_
 rw[Sl ho]
 refine aF rfl (aF rfl (aF rfl ?_))
 refine aQ ((St.start h).call f1) fun q h2 s2=>?_
 refine ay (o:=0) s2 .head rfl rfl rfl (nle rfl) fun h3 s3=>?_
 refine aj (af s3 (.head _) (a:=T (tbl[op]).kinds) rfl ?_)
 exact k _ s3.fr
def tB:Prop:=∀ r∈tbl,∀ (h:ae) (Q:QT),Q (.snap (cT r.kinds).length ((cT r.kinds).flatMap sE)) h→C n5 [T r.kinds] h Q
def yl:Prop:=∀ r∈tbl,abb (cT r.kinds)
end
end
end
section
noncomputable section
def okA (a:Ar):Prop:=(0≤a.reg∧a.reg≤31)∨(a.reg=-1∧okX a.e∧bn a.e≤60)
def BG (rs:RS):Prop:=rs.lab.length≤5∧rs.text.length≤20∧rs.kind≤9∧(rs.kind=1→rs.op<66)∧(rs.kind=2→rs.op<3)∧rs.args.length≤100∧∀ a∈rs.args,okA a
section
variable [Tabs]
variable {h h0:ae}{Q:QT}{K:AV→Prop}{i:Nat}
def AccF (sz:Nat) (v:AV) (n:Nat) (cs:List AV) (E:Own):Prop:=cs.length=n*sz∧((v=.full n cs∧E=[])∨∃ j,v=.sl j 0 n sz∧E=[(j,true,.cells cs)])
theorem AccF.none (sz:Nat):AccF sz (.full 0 []) 0 [] []:=⟨by simp,.inl ⟨rfl,rfl⟩⟩
theorem AccF.rest {sz n:Nat}{v:AV}{cs:List AV}{E R:Own}(a:AccF sz v n cs E) (s:St h0 [] h (E++R)):St h0 [] h R:=s.sub (List.sublist_append_right _ _)
theorem AccF.one {sz n:Nat}{v:AV}{cs:List AV}{E:Own}(a:AccF sz v n cs E):v.one=true∧v.isTup=false∧v.cells=[v]:=by
 obtain⟨_,⟨rfl,_⟩|⟨j,rfl,_⟩⟩:=a<;>exact⟨rfl,rfl,rfl⟩
theorem AccF.app {sz n bytes m:Nat}{v x:AV}{cs xs:List AV}{E R:Own}{KH:QT}(a:AccF sz v n cs E) (s:St h0 [] h (E++R)) (r:Rd h sz x m xs) (h1:xs.all AV.one=true) (hb:(n+m)*bytes≤1099511627776)
  (k:∀ v' E' h',AccF sz v' (n+m) (cs++xs) E'→St h0 [] h' (E'++R)→KH v' h'):bc sz bytes v x h KH:=by
 have hx:=r.len
 obtain⟨hl,⟨rfl,rfl⟩|⟨j,rfl,rfl⟩⟩:=a
 ·refine⟨?_⟩
  simp only[eb,r.2]
  refine⟨⟨hl,hb⟩,?_⟩
  split
  ·rename_i hm
   subst hm
   have:xs=[]:=by simpa using hx
   subst this
   exact k _ [] _ ⟨by simpa using hl,.inl ⟨by simp,rfl⟩⟩ s
  ·exact k _ [(h.length,true,.cells (cs++xs))] _ ⟨by simp[hl,hx,Nat.add_mul],.inr ⟨_,rfl,rfl⟩⟩ (s.push _)
 ·refine SH s r .head h1 (by omega) hb fun i h' s'=>?_
  exact k _ [(i,true,.cells (cs++xs))] h' ⟨by simp[hl,hx,Nat.add_mul],.inr ⟨i,rfl,rfl⟩⟩ s'
def WSt (h0 h:ae) (i:Nat) (rs:RS) (R:Own):Prop:=∃ v E,AccF 5 v rs.args.length (rs.args.flatMap arE) E∧St h0 [] h (E++((i,true,rdO rs v)::R))
theorem WSt.call {h':ae}{rs:RS}{R:Own}(r:WSt h0 h i rs R) (f:Fr [] h h'):WSt h0 h' i rs R:=by
 obtain⟨v,E,a,s⟩:=r
 exact⟨v,E,a,s.call f⟩
theorem WSt.rest {rs:RS}{R:Own}(r:WSt h0 h i rs R):St h0 [] h R:=by
 obtain⟨v,E,a,s⟩:=r
 exact (a.rest s).drop1
theorem WSt.put {rs rs':RS}{R:Own}(r:WSt h0 h i rs R) {o:Nat}{u:AV}{K:ae→Prop}(hu:u.isTup=false) (hc:u.cells.length=1) (h1:u.cells.all AV.one=true) (ho:o+1≤6) (ha:rs'.args=rs.args)
  (he:∀ v,splice [I 1,T rs.lab,I (rs.kind:Nat),I (rs.op:Nat),T rs.text,v] o u.cells=[I 1,T rs'.lab,I (rs'.kind:Nat),I (rs'.op:Nat),T rs'.text,v]) (k:∀ h',WSt h0 h' i rs' R→K h'):ak 1 (.ptr i o) u h K:=by
 obtain⟨v,E,a,s⟩:=r
 refine ay s (L':=E++((i,true,rdO rs' v)::R)) (cs:=[I 1,T rs.lab,I (rs.kind:Nat),I (rs.op:Nat),T rs.text,v]) (by rw[he];exact Sub.pre .head E) hu hc h1 ho fun h' s'=>?_
 exact k h' ⟨v,E,by rw[ha];exact a,s'⟩
theorem WSt.load {rs:RS}{R:Own}(r:WSt h0 h i rs R) {o:Nat}{a:AV}{K:AV→Prop}(ho:∀ v,[I 1,T rs.lab,I (rs.kind:Nat),I (rs.op:Nat),T rs.text,v][o]?=some a) (k:K a):ag (.ptr i o) h K:=by
 obtain⟨v,E,a,s⟩:=r
 exact af s (List.mem_append_right _ (.head _)) (ho v) k
theorem AccF.more {rs:RS}{R E:Own}{v x:AV}{m:Nat}{az:List Ar}(a:AccF 5 v rs.args.length (rs.args.flatMap arE) E) (s:St h0 [] h (E++((i,true,rdO rs v)::R))) (hx:Rd h 5 x m (az.flatMap arE)) (hm:az.length=m) (hn:rs.args.length+m≤1000)
  {K:ae→Prop} (k:∀ h',WSt h0 h' i { rs with args:=rs.args++az } R→K h'):bc 5 64 v x h fun t h'=>ab 5 (.ptr i 0) fun p=>ak 1 p t h' K:=by
 refine a.app s hx (SV _) (by omega) fun v2 E2 h2 a2 s2=>?_
 refine aj (ay (cs:=[I 1,T rs.lab,I (rs.kind:Nat),I (rs.op:Nat),T rs.text,v]) (L':=E2++((i,true,rdO { rs with args:=rs.args++az } v2)::R)) s2 ?_ ?_ ?_ ?_ (nle rfl) fun h3 s3=>?_)
 ·rw[a2.one.2.2];exact Sub.pre .head E2
 ·exact a2.one.2.1
 ·rw[a2.one.2.2];rfl
 ·rw[a2.one.2.2];simp[a2.one.1]
 ·refine k h3 ⟨v2,E2,?_,s3⟩
  have:rs.args.length+m=(rs.args++az).length:=by simp[hm]
  rw[this,← List.flatMap_append]at a2
  exact a2
def WSg (h0 h:ae) (i:Nat) (rs:RS) (R:Own):Prop:=∃ v E,(AccF 5 v rs.args.length (rs.args.flatMap arE) E∨(v=.snap rs.args.length (rs.args.flatMap arE)∧E=[]))∧St h0 [] h (E++((i,true,rdO rs v)::R))
theorem WSt.g {rs:RS}{R:Own}(r:WSt h0 h i rs R):WSg h0 h i rs R:=by
 obtain⟨v,E,a,s⟩:=r
 exact⟨v,E,.inl a,s⟩
theorem WSg.rest {rs:RS}{R:Own}(r:WSg h0 h i rs R):St h0 [] h R:=by
 obtain⟨v,E,a,s⟩:=r
 exact (s.sub (List.sublist_append_right _ _)).drop1
theorem WSg.put {rs rs':RS}{R:Own}(r:WSg h0 h i rs R) {o:Nat}{u:AV}{K:ae→Prop}(hu:u.isTup=false) (hc:u.cells.length=1) (h1:u.cells.all AV.one=true) (ho:o+1≤6) (ha:rs'.args=rs.args)
  (he:∀ v,splice [I 1,T rs.lab,I (rs.kind:Nat),I (rs.op:Nat),T rs.text,v] o u.cells=[I 1,T rs'.lab,I (rs'.kind:Nat),I (rs'.op:Nat),T rs'.text,v]) (k:∀ h',WSg h0 h' i rs' R→K h'):ak 1 (.ptr i o) u h K:=by
 obtain⟨v,E,a,s⟩:=r
 refine ay s (L':=E++((i,true,rdO rs' v)::R)) (cs:=[I 1,T rs.lab,I (rs.kind:Nat),I (rs.op:Nat),T rs.text,v]) (by rw[he];exact Sub.pre .head E) hu hc h1 ho fun h' s'=>?_
 exact k h' ⟨v,E,by rw[ha];exact a,s'⟩
theorem WSg.load {rs:RS}{R:Own}(r:WSg h0 h i rs R) {o:Nat}{a:AV}{K:AV→Prop}(ho:∀ v,[I 1,T rs.lab,I (rs.kind:Nat),I (rs.op:Nat),T rs.text,v][o]?=some a) (k:K a):ag (.ptr i o) h K:=by
 obtain⟨v,E,a,s⟩:=r
 exact af s (List.mem_append_right _ (.head _)) (ho v) k
theorem WSg.told {rs:RS}{j2:Nat}{zs:List AV}{R:Own}(r:WSg h0 h i rs ((j2,true,.cells zs)::R)) (hz:zs.length=6) (k:∀ h',Fr [] h0 h'→Q (.agg (smE 1 rs)) h'):
  aw 6 (.ptr i 0) h fun t=>ak 6 (.ptr j2 0) t h fun h2=>aw 6 (.ptr j2 0) h2 fun r=>∃ r2 h3,Conv r h2 r2 h3∧Q r2 h3:=by
 obtain⟨v,E,a,s⟩:=r
 refine aK s (List.mem_append_right _ (.head _)) (nle rfl) ?_
 simp only[List.drop_zero]
 rw[List.take_of_length_le (by simp)]
 refine ay (cs:=zs) (o:=0) (L':=E++((i,true,rdO rs v)::(j2,true,rdO rs v)::R)) s (Sub.pre (.tail ?_) E) rfl rfl (by rcases a with ⟨_,⟨rfl,_⟩|⟨j,rfl,_⟩⟩|⟨rfl,_⟩<;>rfl) (by rw[hz];decide) fun h2 s2=>?_
 ·have:splice zs 0 (AV.agg [I 1,T rs.lab,I (rs.kind:Nat),I (rs.op:Nat),T rs.text,v]).cells=[I 1,T rs.lab,I (rs.kind:Nat),I (rs.op:Nat),T rs.text,v]:=by
   show splice zs 0 [_,_,_,_,_,_]=_
   simp[splice,hz]
  rw[this];exact .head
 refine aK s2 (List.mem_append_right _ (.tail _ (.head _))) (nle rfl) ?_
 simp only[List.drop_zero]
 rw[List.take_of_length_le (by simp)]
 rcases a with ⟨a1,⟨rfl,rfl⟩|⟨j,rfl,rfl⟩⟩|⟨rfl,rfl⟩
 ·refine⟨_,_,.wk (Wk.agg (.cons (.refl _) (.cons (.refl _) (.cons (.refl _) (.cons (.refl _) (.cons (.refl _) (.cons (.full _ _) .nil))))))) (.refl _ _),?_⟩
  exact k _ s2.fr
 ·refine⟨_,_,.frz j (rs.args.flatMap arE) (s2.get (.head _)) (.refl _ _),?_⟩
  have:=k _ (s2.kill .head).fr
  have e:fz j (rs.args.flatMap arE) (.agg [I 1,T rs.lab,I (rs.kind:Nat),I (rs.op:Nat),T rs.text,.sl j 0 rs.args.length 5])=.agg (smE 1 rs):=by
   simp[fz,fzL,smE,a1,List.take_of_length_le]
  rw[e];exact this
 ·exact⟨_,_,.refl _ _,k _ s2.fr⟩
theorem WSt.putA {rs:RS}{R:Own}(r:WSt h0 h i rs R) {az:List Ar}{n:Nat}{cs:List AV}(hn:az.length=n) (hc:cs=az.flatMap arE) {K:ae→Prop}(k:∀ h',WSt h0 h' i { rs with args:=az } R→K h'):ak 1 (.ptr i 5) (.full n cs) h K:=by
 subst hn;subst hc
 obtain⟨v,E,a,s⟩:=r
 refine ay (cs:=[I 1,T rs.lab,I (rs.kind:Nat),I (rs.op:Nat),T rs.text,v]) (L':=E++((i,true,rdO { rs with args:=az } (.full az.length (az.flatMap arE)))::R)) s (Sub.pre .head E) rfl rfl rfl (nle rfl) fun h3 s3=>?_
 exact k h3 ⟨_,[],⟨fM arE 5 bQ az,.inl ⟨rfl,rfl⟩⟩,s3.sub (List.sublist_append_right _ _)⟩
end
end
end
section
noncomputable section
abbrev Pk (k:Str):Prop:=k=[88]∨k=[89]∨k=[68]∨k=[65]∨k=[66]
section
variable [Tabs]
variable {h h0:ae}{Q:QT}{K:AV→Prop}{i:Nat}
abbrev NB (x:Int):Prop:=-4294967295≤x∧x≤4294967295
theorem AR (l:List Int) (hP:∀ x∈l,NB x) {n:Nat}(hn:l.length=n) {j:Int}(hj:0≤j∧j<n) (k:∀ x,NB x→K (I x)):am 1 (.full n (l.map I)) (I j) fun p=>ag p h K:=yD l hP hn hj k
theorem aaH {kind:Str}{b:Bool}{m n:Int}(hn:¬ Pk kind) (hm:0≤m∧m<(9:Nat)) (hi:inI n) (q:∀ x,NB x→Q (I x) h):ld (B b) (T kind) (I m) (I n) h Q:=by
 unfold ld
 refine ah (fun _=>?_) (fun _=>?_)
 ·refine eW (by decide) (by decide) hi ?_
  have:=cX (a:=n) (n:=4) (by decide)
  exact q _ (by omega)
 refine aU (ah (fun _=>?_) (fun _=>?_))
 ·refine eW (by decide) (by decide) hi ?_
  have:=cX (a:=n) (n:=256) (by decide)
  refine cH (by omega) (u9 (by omega) ?_)
  exact q _ (by omega)
 refine aU (ah (fun _=>?_) (fun _=>?_))
 ·refine aB rfl rfl ?_
  exact AR [0,32767,-32768,-1,1,255,-256,4660,-4660] (by decide) rfl hm q
 refine aU (ah (fun _=>?_) (fun _=>?_))
 ·refine eW (by decide) (by decide) hi ?_
  have:=cX (a:=n) (n:=1048576) (by decide)
  refine cH (by omega) ?_
  exact q _ (by omega)
 refine aU (ah (fun _=>?_) (fun _=>?_))
 ·refine eW (by decide) (by decide) hi ?_
  have:=cX (a:=n) (n:=32768) (by decide)
  refine cH (by omega) (u9 (by omega) ?_)
  exact q _ (by omega)
 refine aU (ah (fun _=>?_) (fun _=>?_))
 ·refine eW (by decide) (by decide) hi ?_
  have:=cX (a:=n) (n:=16777216) (by decide)
  refine cH (by omega) (u9 (by omega) ?_)
  exact q _ (by omega)
 refine aB rfl rfl ?_
 exact AR [0,255,256,65280,-1,-2,16711680,-256,2130706432] (by decide) rfl hm q
theorem aaM {kind:Str}{b:Bool}{m n:Int}(hn:¬ Pk kind) (hm:0≤m∧m<(9:Nat)) (hi:inI n) (q:∀ x,NB x→Q (I x) h):k9 (B b) (T kind) (I m) (I n) h Q:=by
 unfold k9
 refine ah (fun _=>?_) (fun _=>?_)
 ·refine aB rfl rfl ?_
  exact AR [0,15,1,7,8,4,12,3,14] (by decide) rfl hm q
 refine aU (ah (fun _=>?_) (fun _=>?_))
 ·refine aB rfl rfl ?_
  exact yD [0,15,1,7,8,4,12,3,14] (P:=fun x=>0≤x∧x≤15) (by decide) rfl hm fun x hx=>u9 (by omega) (q _ (by omega))
 refine aU (ah (fun _=>?_) (fun _=>?_))
 ·refine aB rfl rfl ?_
  exact yD [0,15,1,7,8,4,12,3,14] (P:=fun x=>0≤x∧x≤15) (by decide) rfl hm fun x hx=>u9 (by omega) (q _ (by omega))
 refine aU (ah (fun _=>?_) (fun _=>?_))
 ·refine eW (by decide) (by decide) hi ?_
  have:=cX (a:=n) (n:=2) (by decide)
  exact q _ (by omega)
 refine aU (ah (fun _=>?_) (fun _=>?_))
 ·exact aaH hn hm hi q
 ·exact aU (aaH hn hm hi q)
theorem Tz {kind:Str}{b:Bool}{m n:Int}(hn:b=false→¬ Pk kind) (hm:0≤m∧m<(9:Nat)) (hi:inI n) (q:∀ x,NB x→(Pk kind→0≤x∧x≤31)→Q (I x) h):fy (B b) (T kind) (I m) (I n) h Q:=by
 unfold fy
 refine ah (fun _=>?_) (fun hb=>?_)
 ·refine aB rfl rfl ?_
  exact yD [0,31,1,15,16,7,30,12,3] (P:=fun x=>0≤x∧x≤31) (by decide) rfl hm fun x hx=>q _ (by omega) fun _=>hx
 have hn:=hn hb
 have q:∀ x,NB x→Q (I x) h:=fun x hx=>q x hx fun h=>absurd h hn
 refine aU (ah (fun _=>?_) (fun _=>?_))
 ·refine aB rfl rfl ?_
  exact AR [0,127,64,1,63,100,7,15,16] (by decide) rfl hm q
 refine aU (ah (fun _=>?_) (fun _=>?_))
 ·refine aB rfl rfl ?_
  exact AR [1,32,2,16,31,17,8,5,30] (by decide) rfl hm q
 refine aU (ah (fun _=>?_) (fun _=>?_))
 ·exact aaM hn hm hi q
 ·exact aU (aaM hn hm hi q)
theorem Rs {kind:Str}{b:Bool}{m n:Int}(hn:b=false→kind≠[88]∧kind≠[89]) (hm:0≤m∧m<(9:Nat)) (hi:inI n) (q:∀ x,NB x→(Pk kind→0≤x∧x≤31)→Q (I x) h):jZ (B b) (T kind) (I m) (I n) h Q:=by
 unfold jZ
 refine ah (fun _=>?_) (fun hb=>?_)
 ·refine aB rfl rfl ?_
  exact yD [0,1,7,24,31,5,28,3,30] (P:=fun x=>0≤x∧x≤31) (by decide) rfl hm fun x hx=>q _ (by omega) fun _=>hx
 obtain⟨h1,h2⟩:=hn hb
 refine aU (ah (fun hb=>?_) (fun h3=>?_))
 ·rw[hb];exact Tz (fun h=>by cases h) hm hi q
 refine aU (ah (fun hb=>?_) (fun h4=>?_))
 ·rw[hb];exact Tz (fun h=>by cases h) hm hi q
 refine aU (ah (fun hb=>?_) (fun h5=>?_))
 ·rw[hb];exact Tz (fun h=>by cases h) hm hi q
 refine aU (Tz (fun _=>?_) hm hi q)
 rintro (h|h|h|h|h)
 ·exact h1 h
 ·exact h2 h
 ·exact of_decide_eq_false h3 h
 ·exact of_decide_eq_false h4 h
 ·exact of_decide_eq_false h5 h
theorem Ha {kind:Str}{n:Int}(hi:inI n) (q:∀ x,NB x→(Pk kind→0≤x∧x≤31)→Q (I x) h):C k5 [T kind,I n] h Q:=by
 refine EW _ _ _ _ ?_
 unfold BN
 refine eW (by decide) (by decide) hi ?_
 have hm:=cX (a:=n) (n:=9) (by decide)
 refine aU (ah (fun hb=>?_) (fun hb=>?_))
 ·rw[hb];exact Rs (fun h=>by cases h) hm hi q
 ·refine aU ?_
  cases h2:decide (kind=[89]) with
  | true=>exact Rs (fun h=>by cases h) hm hi q
  | false=>exact Rs (fun _=>⟨of_decide_eq_false hb,of_decide_eq_false h2⟩) hm hi q
abbrev rwO (r:RW):AObj:=.cells [I r.K,I r.A,I r.B,.snap r.ns.length (r.ns.flatMap fun n=>[I n]),.snap r.E.length (xrL r.E),.lit (.bool r.L)]
theorem S2 {r:RW}{j:Nat}(ho:okW r) (hj:j<1000) (q:∀ x h',inI x→Fr [] h h'→Q (I x) h'):C ie [.agg (rwE r),I (j:Nat)] h Q:=by
 refine z7 _ _ _ _ ?_
 unfold vO
 refine bR (St.start h) rfl fun j1 h1 s1=>?_
 have s1:St h [] h1 [(j1,true,rwO r)]:=s1
 refine aj (af s1 (.head _) (a:=.snap r.ns.length (r.ns.flatMap fun n=>[I n])) rfl (dB ?_))
 refine aJ (ah (fun hb=>?_) (fun hb=>?_))
 ·have hj:j<r.ns.length:=by have:=of_decide_eq_true hb;omega
  refine aj (af s1 (.head _) (a:=.snap r.ns.length (r.ns.flatMap fun n=>[I n])) rfl ?_)
  have R:Row (fun n:Int=>[I n]) 1 h1 (.snap r.ns.length (r.ns.flatMap fun n=>[I n])) r.ns:=Row.snap (enc:=fun n:Int=>[I n]) (sz:=1) (fun _=>rfl) _
  refine R.idx (fun _=>rfl) hj fun p t=>?_
  refine aI t ?_
  exact q _ _ (ho.2.2.2.1 _ (List.getElem_mem hj)) s1.fr
 ·refine aj (af s1 (.head _) (a:=I r.A) rfl (Fq ?_))
  exact q _ _ (MW _) s1.fr
def labels4:List Str:=[[97],[98,49],[108,111,111,112],[120]]
abbrev a0:List AV:=[I 0,I 0,I 0,S ⟨#[]⟩,.full 0 []]
theorem Vb:∀ r∈tbl,∀ k∈cT r.kinds,k≠[]:=by decide
theorem Vr:∀ r∈tbl,∀ k∈cT r.kinds,Kg (lA k)=true→Pk k:=by decide
theorem ye (q:Q (.full 4 (labels4.map T)) h):C gP [] h Q:=by
 refine GQ _ _ ?_
 unfold Er
 exact aB rfl rfl q
theorem Wq {r:RW}{kind:Str}{n:Int}(ho:okW r) (hf:Ig r) (hi:inI n) (hne:kind≠[]) (hrk:Kg (lA kind)=true→Pk kind) (hR:∀ (h:ae) (Q:QT),Q (B (Kg (lA kind))) h→C jM [T kind] h Q)
  (q:∀ a h',okA a→Fr [] h h'→Q (.agg (arE a)) h'):C mw [.agg (rwE r),T kind,I n] h Q:=by
 refine BJ _ _ _ _ _ ?_
 unfold x7
 refine bR (St.start h) rfl fun j1 h1 s1=>?_
 have s1:St h [] h1 [(j1,true,rwO r)]:=s1
 refine aQ s1 fun j6 h2 s2=>?_
 refine Dx _ _ _ ?_
 unfold yX
 refine hR _ _ (ah (fun hb=>?_) (fun hb=>?_))
 ·refine Ha hi fun x hx hr=>?_
  have hx:=hr (hrk hb)
  refine aD rfl ?_
  refine ay (o:=0) s2 (L':=[(j6,true,.cells (arE ⟨x,.none⟩)),(j1,true,rwO r)]) .head rfl rfl rfl (nle rfl) fun h3 s3=>?_
  refine aK s3 (.head _) (nle rfl) ?_
  exact q ⟨x,.none⟩ _ (.inl hx) s3.fr
 ·refine aD rfl ?_
  refine aQ s2 fun j7 h3 s3=>?_
  refine ay (o:=0) s3 (L':=[(j7,true,.cells (arE ⟨-1,.none⟩)),(j6,true,.cells a0),(j1,true,rwO r)]) .head rfl rfl rfl (nle rfl) fun h4 s4=>?_
  have fin:∀ (e:Ex) (h5:ae),okX e→bn e≤60→St h [] h5 [(j7,true,.cells (arE ⟨-1,.none⟩)),(j6,true,.cells a0),(j1,true,rwO r)]→
    ab 1 (.ptr j7 0) fun p=>ak 4 p (.agg (bq e)) h5 fun h6=>fc (.ptr j7 0) (.ptr j6 0) h6 Q:=fun e h5 he hs s5=>by
   refine aj (ay (o:=1) (cs:=arE ⟨-1,.none⟩) (L':=[(j7,true,.cells (arE ⟨-1,e⟩)),(j6,true,.cells a0),(j1,true,rwO r)]) s5 ?_ rfl (aq e) (aV e) (nle rfl) fun h6 s6=>?_)
   ·have:splice (arE ⟨-1,.none⟩) 1 (AV.agg (bq e)).cells=arE ⟨-1,e⟩:=by
     obtain⟨a,b,c,d,hx⟩:=Z9 (aq e)
     show splice (arE ⟨-1,.none⟩) 1 (bq e)=I (-1)::bq e
     rw[hx];rfl
    rw[this];exact .head
   unfold fc qF
   refine aK s6 (.head _) (by rw[bQ];exact Nat.le_refl 5) ?_
   rw[List.drop_zero,List.take_of_length_le (by rw[bQ];exact Nat.le_refl 5)]
   refine ay (o:=0) (cs:=a0) (L':=[(j7,true,.cells (arE ⟨-1,e⟩)),(j6,true,.cells (arE ⟨-1,e⟩)),(j1,true,rwO r)]) s6 (.tail ?_) rfl (bQ _) (A8 _) (nle rfl) fun h7 s7=>?_
   ·have:splice a0 0 (AV.agg (arE ⟨-1,e⟩)).cells=arE ⟨-1,e⟩:=by
     have:=bQ ⟨-1,e⟩
     show splice _ 0 (arE _)=_
     simp[splice,this]
    rw[this];exact .head
   refine aK s7 (.tail _ (.head _)) (by rw[bQ];exact Nat.le_refl 5) ?_
   rw[List.drop_zero,List.take_of_length_le (by rw[bQ];exact Nat.le_refl 5)]
   exact q _ _ (.inr ⟨rfl,he,hs⟩) s7.fr
  refine bo (by decide) (by decide) hi ?_
  have c1:∀ h5,St h [] h5 [(j7,true,.cells (arE ⟨-1,.none⟩)),(j6,true,.cells a0),(j1,true,rwO r)]→iR (T kind) h5 (I n) (.ptr j7 0) (.ptr j6 0) Q:=fun h5 s5=>by
   unfold iR
   have hl:0<kind.length:=List.length_pos_iff.2 hne
   refine bO (i:=0) hl (aA (ah (fun _=>?_) (fun _=>?_)))
   ·refine ye ?_
    refine bo (by decide) (by decide) hi ?_
    refine yC labels4 (P:=fun x=>x.length≤5) (by decide) rfl (cX (by decide)) fun x hx=>?_
    refine aD rfl ?_
    exact fin (.name x) _ (by show x.length≤12;omega) (by simp[bn]) s5
   ·refine Ha hi fun x hx hr=>?_
    refine Ms hx fun s h6 hl6 ⟨e,he,hok,hsz⟩ f6=>?_
    have s6:=s5.call f6
    refine Lo s (by omega) (fun e' he' h7 f7=>?_) (fun h0=>by rw[he]at h0;cases h0)
    rw[he]at he'
    cases he'
    refine aF rfl (aF rfl ?_)
    exact fin e _ hok (by omega) (s6.call f7)
  refine aA (ah (fun _=>?_) (fun _=>c1 _ s4))
  refine aj (af s4 (.tail _ (.tail _ (.head _))) (a:=.snap r.E.length (xrL r.E)) rfl (dB ?_))
  refine bU (ah (fun _=>?_) (fun _=>c1 _ s4))
  refine aj (af s4 (.tail _ (.tail _ (.head _))) (a:=.snap r.E.length (xrL r.E)) rfl ?_)
  refine KN ho.2.2.2.2.2.2 (U7 _) fun e h5 he hs f5=>?_
  exact fin e _ he (by have:=hf.1;omega) (s4.call f5)
end
end
end
section
noncomputable section
section
variable [Tabs]
variable {h h0:ae}{Q:QT}{K:AV→Prop}{i:Nat}
theorem ZG (e:Ex):splice (arE ⟨-1,.none⟩) 1 (AV.agg (bq e)).cells=arE ⟨-1,e⟩:=by
 obtain⟨a,b,c,d,hx⟩:=Z9 (aq e)
 show splice (arE ⟨-1,.none⟩) 1 (bq e)=I (-1)::bq e
 rw[hx];rfl
theorem BD (e:Ex):Es a0 [(0,1,I (-1)),(1,4,.agg (bq e))]=some (arE ⟨-1,e⟩):=by
 obtain⟨a,b,c,d,hx⟩:=Z9 (aq e)
 show _=some (I (-1)::bq e)
 rw[hx];rfl
theorem Ji {e:Ex}(he:okX e) (hs:bn e≤60):okA ⟨-1,e⟩:=.inr ⟨rfl,he,hs⟩
abbrev z6:List AV:=[I 0,S ⟨#[]⟩,I 0,I 0,S ⟨#[]⟩,.full 0 []]
theorem T4 {r:RW}{kind:Nat}(ho:okW r) (hf:Ig r) (q:∀ az h',az.length≤10→(∀ a∈az,okA a)→Fr [] h h'→Q (.agg (smE 1 ⟨[],kind,0,[],az⟩)) h'):C mJ [.agg (rwE r),I (kind:Nat)] h Q:=by
 refine ACall.conv ?_
 refine BT _ _ _ _ ?_
 unfold xF
 refine bR (St.start h) rfl fun j2 h1 s1=>?_
 have s1:St h [] h1 [(j2,true,rwO r)]:=s1
 refine aQ s1 fun j4 h2 s2=>?_
 refine aD rfl ?_
 refine aQ s2 fun j5 h3 s3=>?_
 refine ay (o:=0) s3 (L':=[(j5,true,rdO ⟨[],kind,0,[],[]⟩ (.full 0 [])),(j4,true,.cells z6),(j2,true,rwO r)]) .head rfl rfl rfl (nle rfl) fun h4 s4=>?_
 have hB:=cX (a:=r.B) (n:=4) (by decide)
 refine aP (fun n vs h'=>∃ (j:Nat) (az:List Ar),vs=[I (j:Nat)]∧n+j=5∧az.length=j∧(∀ a∈az,okA a)∧WSt h h' j5 ⟨[],kind,0,[],az⟩ [(j4,true,.cells z6),(j2,true,rwO r)]) 5 ⟨0,[],rfl,rfl,rfl,by simp,.full 0 [],[],AccF.none 5,s4⟩ ?_
 rintro n vs h5 ⟨j,az,rfl,hn,hz,hok,w5⟩
 unfold qp
 refine aj (af w5.rest (.tail _ (.head _)) (a:=I r.B) rfl ?_)
 refine bo (by decide) (by decide) ho.2.2.1 ?_
 refine eT (ah (fun hb=>?_) (fun hb=>?_))
 ·have hj:j<4:=by have:=of_decide_eq_true hb;omega
  refine aD rfl ?_
  obtain⟨v,E,a,s5⟩:=w5
  refine aQ s5 fun j7 h6 s6=>?_
  refine ay (o:=0) s6 (L':=(j7,true,.cells (arE ⟨-1,.none⟩))::(E++((j5,true,rdO ⟨[],kind,0,[],az⟩ v)::[(j4,true,.cells z6),(j2,true,rwO r)]))) .head rfl rfl rfl (nle rfl) fun h7 s7=>?_
  have fin:∀ (e:Ex) (h8:ae),okX e→bn e≤60→Fr [] h7 h8→ab 1 (.ptr j7 0) fun p=>ak 4 p (.agg (bq e)) h8 fun h9=>fh (.ptr j7 0) (I (j:Nat)) (.ptr j5 0) h9
    (fun vs' h'=>∃ m,m<n∧∃ (j:Nat) (az:List Ar),vs'=[I (j:Nat)]∧m+j=5∧az.length=j∧(∀ a∈az,okA a)∧WSt h h' j5 ⟨[],kind,0,[],az⟩ [(j4,true,.cells z6),(j2,true,rwO r)]):=fun e h8 he hs f8=>by
   have s8:=s7.call f8
   refine aj (ay (o:=1) (cs:=arE ⟨-1,.none⟩) (L':=(j7,true,.cells (arE ⟨-1,e⟩))::(E++((j5,true,rdO ⟨[],kind,0,[],az⟩ v)::[(j4,true,.cells z6),(j2,true,rwO r)]))) s8 ?_ rfl (aq e) (aV e) (nle rfl) fun h9 s9=>?_)
   ·rw[ZG];exact .head
   unfold fh qv
   refine aj (af s9 (.tail _ (List.mem_append_right _ (.head _))) (a:=v) rfl ?_)
   refine aK s9 (.head _) (by rw[bQ];exact Nat.le_refl 5) ?_
   rw[List.drop_zero,List.take_of_length_le (by rw[bQ];exact Nat.le_refl 5)]
   refine aB rfl (by simp[AV.isTup,AV.cells,bQ]) ?_
   rw[Kx]
   refine AccF.more (rs:=⟨[],kind,0,[],az⟩) (az:=[⟨-1,e⟩]) (m:=1) a s9.drop1 (by rw[List.flatMap_cons,List.flatMap_nil,List.append_nil];exact Rd.full (bQ _)) rfl (by simp;omega) fun h10 w10=>?_
   refine aH (by omega) ?_
   refine⟨n-1,by omega,j+1,az++[⟨-1,e⟩],rfl,by omega,by simp[hz],fun x hx=>?_,w10⟩
   rcases List.mem_append.1 hx with hx|hx
   ·exact hok x hx
   ·simp at hx;subst hx;exact Ji he hs
  refine aK s7 (.tail _ (List.mem_append_right _ (.tail _ (.tail _ (.head _))))) (nle rfl) ?_
  refine S2 (r:=r) ho (by omega) fun x h8 hx f8=>?_
  refine bo (by decide) (by decide) hx ?_
  have c1:∀ h9,Fr [] h7 h9→iV (I x) h9 (.ptr j7 0) [I (j:Nat)] (.ptr j5 0)
    (fun vs' h'=>∃ m,m<n∧∃ (j:Nat) (az:List Ar),vs'=[I (j:Nat)]∧m+j=5∧az.length=j∧(∀ a∈az,okA a)∧WSt h h' j5 ⟨[],kind,0,[],az⟩ [(j4,true,.cells z6),(j2,true,rwO r)]):=fun h9 f9=>by
   unfold iV
   refine bo (by decide) (by decide) hx ?_
   refine aA (ah (fun _=>?_) (fun _=>?_))
   ·refine ye ?_
    have hq:inI (x.tdiv 6):=by
     have:(x.tdiv 6).natAbs=x.natAbs / 6:=by rw[Int.natAbs_tdiv];rfl
     unfold inI at hx ⊢;omega
    refine vA (by decide) hq ?_
    refine bo (by decide) (by decide) hq ?_
    refine yC labels4 (P:=fun x=>x.length≤5) (by decide) rfl (cX (by decide)) fun x hx=>?_
    refine aD rfl ?_
    exact fin (.name x) _ (by show x.length≤12;omega) (by simp[bn]) f9
   ·refine bo (by decide) (by decide) hx ?_
    have hm:=cX (a:=x) (n:=256) (by decide)
    obtain⟨m,hmm⟩:=Int.eq_ofNat_of_zero_le hm.1
    rw[hmm]
    refine aD rfl ?_
    exact fin (.num m) _ (by show m<_;omega) (by simp[bn]) f9
  refine aA (ah (fun _=>?_) (fun _=>c1 _ f8))
  have s8:=s7.call f8
  refine aj (af s8 (.tail _ (List.mem_append_right _ (.tail _ (.tail _ (.head _))))) (a:=.snap r.E.length (xrL r.E)) rfl (dB ?_))
  refine bU (ah (fun _=>?_) (fun _=>c1 _ f8))
  refine aj (af s8 (.tail _ (List.mem_append_right _ (.tail _ (.tail _ (.head _))))) (a:=.snap r.E.length (xrL r.E)) rfl ?_)
  refine KN ho.2.2.2.2.2.2 (U7 _) fun e h9 he hs f9=>?_
  exact fin e _ he (by have:=hf.1;omega) (f8.trans f9 (by simp))
 ·exact w5.g.told rfl fun h' f'=>q az h' (by omega) hok f'
theorem Ws:∀ r∈tbl,(cT r.kinds).length≤10:=by decide
abbrev wsO (r:RW) (j1 j2:Nat):Own:=[(j2,true,.cells z6),(j1,true,rwO r)]
theorem Dp {r:RW}{rs:RS}{j1 j2 j3:Nat}{h1:ae}(ho:okW r) (hg:BG rs) (hl:rs.lab=[]) (w:WSg h h1 j3 rs (wsO r j1 j2)) (q:∀ rs h',BG rs→Fr [] h h'→Q (.agg (smE 1 rs)) h'):
  cQ (.ptr j3 0) (.ptr j2 0) (.ptr j1 0) h1 (fun r h'=>∃ r2 h2,Conv r h' r2 h2∧Q r2 h2):=by
 have c1:jJ (.ptr j1 0) h1 (.ptr j3 0) (.ptr j2 0) (fun r h'=>∃ r2 h2,Conv r h' r2 h2∧Q r2 h2):=by
  unfold jJ
  refine aj (af w.rest (.tail _ (.head _)) (a:=I r.B) rfl ?_)
  refine ye ?_
  refine⟨af w.rest (.tail _ (.head _)) (a:=I r.B) rfl rfl,?_⟩
  refine bo (by decide) (by decide) ho.2.2.1 ?_
  refine yC labels4 (P:=fun x=>x.length≤5) (by decide) rfl (cX (by decide)) fun x hx=>?_
  refine aj (w.put (rs':={ rs with lab:=x }) rfl rfl rfl (nle rfl) rfl (fun v=>rfl) fun h2 w2=>?_)
  unfold ja
  exact w2.told rfl fun h' f'=>q _ h' ⟨hx,hg.2⟩ f'
 unfold cQ sb
 refine aj (af w.rest (.tail _ (.head _)) (a:=.lit (.bool r.L)) rfl ?_)
 refine ah (fun _=>c1) (fun _=>?_)
 refine aj (w.load (fun v=>rfl) ?_)
 refine aA (ah (fun _=>c1) (fun _=>?_))
 unfold ja
 exact w.told rfl fun h' f'=>q _ h' hg f'
end
end
end
section
noncomputable section
section
variable [Tabs]
variable {h h0:ae}{Q:QT}{K:AV→Prop}{i:Nat}
theorem Xt:tbl.length=66:=by decide
abbrev CV2 (Q:QT):QT:=fun r h'=>∃ r2 h2,Conv r h' r2 h2∧Q r2 h2
theorem Y5 (hW:tB) (hR:yl) {r:RW}{j1 j2 j3:Nat}{h4:ae}(ho:okW r) (hf:Ig r) (w:WSt h h4 j3 ⟨[],0,0,[],[]⟩ (wsO r j1 j2)) (q:∀ rs h',BG rs→Fr [] h h'→Q (.agg (smE 1 rs)) h') {op:Nat}(hop:op<66):
  ab 2 (.ptr j3 0) fun t31=>ak 1 t31 (I 1) h4 fun h6=>ab 3 (.ptr j3 0) fun t32=>ak 1 t32 (I (op:Nat)) h6 fun h7=>ab 3 (.ptr j3 0) fun t33=>ag t33 h7 fun t34=>
   C nV [t34] h7 fun t35 h8=>C n5 [t35] h8 fun t36 h9=>cb [(I 0)] h9 fun vs10 h next10=>mA t36 (.ptr j3 0) (.ptr j2 0) (.ptr j1 0) (CV2 Q) vs10 h next10:=by
 refine aj (w.put (rs':=⟨[],1,0,[],[]⟩) rfl rfl rfl (nle rfl) rfl (fun v=>rfl) fun h6 w6=>?_)
 refine aj (w6.put (rs':=⟨[],1,op,[],[]⟩) rfl rfl rfl (nle rfl) rfl (fun v=>rfl) fun h7 w7=>?_)
 refine aj (w7.load (a:=I (op:Nat)) (fun v=>rfl) ?_)
 have ht:op<tbl.length:=by rw[Xt];exact hop
 have hm:tbl[op]∈tbl:=List.getElem_mem ht
 refine Mh ht fun h8 f8=>?_
 refine hW _ hm _ _ ?_
 have w8:=w7.call f8
 have hL:=Ws _ hm
 have hne:=Vb _ hm
 have hrk:=Vr _ hm
 have hRk:=hR _ hm
 generalize cT tbl[op].kinds=ks at hL hne hrk hRk
 have RK:∀ h,Row sE 1 h (.snap ks.length (ks.flatMap sE)) ks:=fun h=>Row.snap (enc:=sE) (fun _=>rfl) _
 refine aP (fun n vs h'=>∃ (j:Nat) (az:List Ar),vs=[I (j:Nat)]∧n+j=ks.length∧az.length=j∧(∀ a∈az,okA a)∧WSt h h' j3 ⟨[],1,op,[],az⟩ (wsO r j1 j2)) ks.length ⟨0,[],rfl,by omega,rfl,by simp,w8⟩ ?_
 rintro n vs h5 ⟨j,az,rfl,hn,hz,hok,w5⟩
 unfold mA
 refine (RK h5).len (aJ (ah (fun hb=>?_) (fun hb=>?_)))
 ·have hj:j<ks.length:=by have:=of_decide_eq_true hb;omega
  have hmem:=List.getElem_mem hj
  obtain⟨v,E,a,s5⟩:=w5
  have hr:(j1,true,rwO r)∈E++((j3,true,rdO ⟨[],1,op,[],az⟩ v)::wsO r j1 j2):=List.mem_append_right _ (.tail _ (.tail _ (.head _)))
  have hs:(j3,true,rdO ⟨[],1,op,[],az⟩ v)∈E++((j3,true,rdO ⟨[],1,op,[],az⟩ v)::wsO r j1 j2):=List.mem_append_right _ (.head _)
  refine aj (af s5 hs (a:=v) rfl ?_)
  refine aK s5 hr (nle rfl) ?_
  refine (RK h5).idx (fun _=>rfl) hj fun p t=>?_
  refine aI t ?_
  refine aK s5 hr (nle rfl) ?_
  refine S2 (r:=r) ho (by omega) fun x h6 hx f6=>?_
  have s6:=s5.call f6
  refine⟨aI (t.fr f6) rfl,aK s6 hr (nle rfl) rfl,af s6 hs (a:=v) rfl rfl,?_⟩
  refine Wq (r:=r) ho hf hx (hne _ hmem) (hrk _ hmem) (hRk _ hmem) fun ar h7 har f7=>?_
  have s7:=s6.call f7
  refine⟨af s7 hs (a:=v) rfl rfl,?_⟩
  refine aB rfl (by simp[AV.isTup,AV.cells,bQ]) ?_
  rw[Kx]
  refine AccF.more (rs:=⟨[],1,op,[],az⟩) (az:=[ar]) (m:=1) a s7 (by rw[List.flatMap_cons,List.flatMap_nil,List.append_nil];exact Rd.full (bQ _)) rfl (by simp;omega) fun h10 w10=>?_
  refine aH (by omega) ?_
  refine⟨n-1,by omega,j+1,az++[ar],rfl,by omega,by simp[hz],fun x hx=>?_,w10⟩
  rcases List.mem_append.1 hx with hx|hx
  ·exact hok x hx
  ·simp at hx;subst hx;exact har
 ·exact Dp ho ⟨by simp,by simp,(by show 1≤9;decide),fun _=>hop,(fun h=>by cases h),(by show az.length≤100;omega),hok⟩ rfl w5.g q
theorem YW {r:RW}{j1 j2 j3:Nat}{h4:ae}{op:Nat}{az:List Ar}(ho:okW r) (hop:op<3) (hz:az.length≤10) (hok:∀ a∈az,okA a) (w:WSt h h4 j3 ⟨[],2,op,[],az⟩ (wsO r j1 j2)) (q:∀ rs h',BG rs→Fr [] h h'→Q (.agg (smE 1 rs)) h'):
  i7 (.ptr j3 0) (.ptr j2 0) (.ptr j1 0) h4 (CV2 Q):=by
 unfold i7
 obtain⟨v,E,a,s5⟩:=w
 have hr:(j1,true,rwO r)∈E++((j3,true,rdO ⟨[],2,op,[],az⟩ v)::wsO r j1 j2):=List.mem_append_right _ (.tail _ (.tail _ (.head _)))
 have hs:(j3,true,rdO ⟨[],2,op,[],az⟩ v)∈E++((j3,true,rdO ⟨[],2,op,[],az⟩ v)::wsO r j1 j2):=List.mem_append_right _ (.head _)
 refine aj (af s5 hs (a:=v) rfl ?_)
 refine aj (af s5 hr (a:=I r.B) rfl ?_)
 refine ye ?_
 refine⟨af s5 hr (a:=I r.B) rfl rfl,af s5 hs (a:=v) rfl rfl,?_⟩
 refine bo (by decide) (by decide) ho.2.2.1 ?_
 refine⟨af s5 hs (a:=v) rfl rfl,?_⟩
 refine yC labels4 (P:=fun x=>x.length≤5) (by decide) rfl (cX (by decide)) fun x hx=>?_
 refine aD (cs:=bq (.name x)) rfl ?_
 refine aD (BD _) ?_
 refine aB rfl (by simp[AV.isTup,AV.cells,bQ]) ?_
 rw[Kx]
 refine AccF.more (rs:=⟨[],2,op,[],az⟩) (az:=[⟨-1,.name x⟩]) (m:=1) a s5 (by rw[List.flatMap_cons,List.flatMap_nil,List.append_nil];exact Rd.full (bQ _)) rfl (by simp;omega) fun h10 w10=>?_
 refine Dp ho ⟨by simp,by simp,(by show 2≤9;decide),(fun h=>by cases h),fun _=>hop,(by simp;omega),fun y hy=>?_⟩ rfl w10.g q
 rcases List.mem_append.1 hy with hy|hy
 ·exact hok y hy
 ·simp at hy;subst hy;exact Ji (show x.length≤12 by omega) (by simp[bn])
end
end
end
section
noncomputable section
section
variable [Tabs]
variable {h h0:ae}{Q:QT}{K:AV→Prop}{i:Nat}
theorem LU {α:Type}{f:α→AV}{l:List α}{P:α→Prop}(hP:∀ x∈l,P x) {n:Nat}(hn:l.length=n) {j:Int}(hj:0≤j∧j<n) {K:AV→Prop}(k:∀ p x,P x→(∀ (h:ae) (K:AV→Prop),K (f x)→ag p h K)→K p):am 1 (.full n (l.map f)) (I j) K:=by
 obtain⟨i,rfl⟩:=Int.eq_ofNat_of_zero_le hj.1
 have hi:i<l.length:=by omega
 refine⟨?_⟩
 simp only[dp,asI,Int.toNat_natCast,Nat.mul_one]
 refine⟨⟨by omega,by omega⟩,k _ l[i] (hP _ (List.getElem_mem hi)) fun h K kk=>?_⟩
 rw[List.drop_eq_getElem_cons (by simpa using hi)]
 rw[List.getElem_map]
 exact UT kk
theorem WY {r:RW}{j1 j2 j3:Nat}{h4:ae}{kd:Nat}{l:List Int}{n:Nat}(hk:kd≤9∧3≤kd) (ho:okW r) (hl:∀ x∈l,0≤x∧x≤1000) (hn:l.length=n) (h0:0<n) (hn2:n<1000) (w:WSt h h4 j3 ⟨[],0,0,[],[]⟩ (wsO r j1 j2)) (q:∀ rs h',BG rs→Fr [] h h'→Q (.agg (smE 1 rs)) h'):
  ab 1 (.ptr j1 0) fun t117=>ag t117 h4 fun t118=>ab 2 (.ptr j3 0) fun t125=>C aW [t118,I (n:Nat)] h4 fun t119 h43=>am 1 (.full n (l.map I)) t119 fun t120=>ag t120 h43 fun t121=>
   ax [(I 0),(I 0),(S ⟨#[]⟩),(.full 0 [])] [(0,1,(I 1)),(1,1,t121)] fun t122=>ax [(I 0),(I 0),(I 0),(S ⟨#[]⟩),(.full 0 [])] [(0,1,(I (-1))),(1,4,t122)] fun t123=>ao 1 5 [t123] fun t124=>
   ak 1 t125 (I (kd:Nat)) h43 fun h44=>jF t120 h44 t121 (.ptr j3 0) t124 (.ptr j2 0) (.ptr j1 0) (CV2 Q):=by
 refine aj (af w.rest (.tail _ (.head _)) (a:=I r.A) rfl (aj ?_))
 refine bo (by omega) (by omega) ho.2.1 ?_
 refine LU (f:=I) hl hn (cX (by omega)) fun p x hx hp=>?_
 refine hp _ _ ?_
 obtain⟨m,rfl⟩:=Int.eq_ofNat_of_zero_le hx.1
 refine aD (cs:=bq (.num m)) rfl (aD (BD _) ?_)
 refine aB rfl (by simp[AV.isTup,AV.cells,bQ]) ?_
 rw[Kx]
 refine w.put (rs':=⟨[],kd,0,[],[]⟩) rfl rfl rfl (nle rfl) rfl (fun v=>rfl) fun h6 w6=>?_
 unfold jF
 refine⟨hp _ _ rfl,aj ?_⟩
 refine w6.putA (az:=[⟨-1,.num m⟩]) rfl (by simp) fun h7 w7=>?_
 refine Dp ho ⟨by simp,by simp,hk.1,(fun h=>by simp at h;omega),(fun h=>by simp at h;omega),by simp,fun y hy=>?_⟩ rfl w7.g q
 simp at hy;subst hy;exact Ji (show m<4294967296 by omega) (by simp[bn])
def abO:List Str:=[[],[104,105],[97,32,35,32,98,44,32,99],[48,49,50,51,52,53,54,55,56,57],[116,97,98]]
def aa9:List Str:=[[107],[115,105,122,101],[120]]
theorem Wg (hW:tB) (hR:yl) {r:RW}(ho:okW r) (hf:Ig r) (q:∀ rs h',BG rs→Fr [] h h'→Q (.agg (smE 1 rs)) h'):C nB [.agg (rwE r)] h Q:=by
 refine ACall.conv ?_
 refine CH _ _ _ ?_
 unfold zI
 refine bR (St.start h) rfl fun j1 h1 s1=>?_
 have s1:St h [] h1 [(j1,true,rwO r)]:=s1
 refine aQ s1 fun j2 h2 s2=>?_
 refine aD rfl ?_
 refine aQ s2 fun j3 h3 s3=>?_
 refine ay (o:=0) s3 (L':=[(j3,true,rdO ⟨[],0,0,[],[]⟩ (.full 0 [])),(j2,true,.cells z6),(j1,true,rwO r)]) .head rfl rfl rfl (nle rfl) fun h4 s4=>?_
 have w:WSt h h4 j3 ⟨[],0,0,[],[]⟩ (wsO r j1 j2):=⟨.full 0 [],[],AccF.none 5,s4⟩
 have hr:(j1,true,rwO r)∈wsO r j1 j2:=.tail _ (.head _)
 refine aj (af w.rest hr (a:=I r.K) rfl ?_)
 refine bo (by decide) (by decide) ho.1 ?_
 have hk:=cX (a:=r.K) (n:=16) (by decide)
 obtain⟨c,hc⟩:=Int.eq_ofNat_of_zero_le hk.1
 rw[hc]at hk ⊢
 refine aJ (ah (fun _=>?_) (fun hb1=>?_))
 ·refine aj (af w.rest hr (a:=I r.A) rfl ?_)
  refine bo (by decide) (by decide) ho.2.1 ?_
  have hm:=cX (a:=r.A) (n:=66) (by decide)
  obtain⟨m,hmm⟩:=Int.eq_ofNat_of_zero_le hm.1
  rw[hmm]
  exact Y5 hW hR ho hf w q (by omega)
 refine aJ (ah (fun _=>?_) (fun hb2=>?_))
 ·refine aj (af w.rest hr (a:=I r.A) rfl ?_)
  refine bo (by decide) (by decide) ho.2.1 ?_
  have hm:=cX (a:=r.A) (n:=3) (by decide)
  obtain⟨m,hmm⟩:=Int.eq_ofNat_of_zero_le hm.1
  rw[hmm]at hm ⊢
  refine aj (w.put (rs':=⟨[],2,0,[],[]⟩) rfl rfl rfl (nle rfl) rfl (fun v=>rfl) fun h6 w6=>?_)
  refine aj (w6.put (rs':=⟨[],2,m,[],[]⟩) rfl rfl rfl (nle rfl) rfl (fun v=>rfl) fun h7 w7=>?_)
  refine aj (w7.load (a:=I (m:Nat)) (fun v=>rfl) ?_)
  refine aA (ah (fun _=>?_) (fun _=>YW ho (by omega) (by simp) (by simp) w7 q))
  refine aj (af w7.rest hr (a:=I r.B) rfl ?_)
  refine aj (af w7.rest hr (a:=I r.B) rfl ?_)
  have hB:=ho.2.2.1
  have hq:inI (r.B.tdiv 2):=by
   have:(r.B.tdiv 2).natAbs=r.B.natAbs / 2:=by rw[Int.natAbs_tdiv];rfl
   unfold inI at hB ⊢;omega
  refine vA (by decide) hq ?_
  refine bo (by decide) (by decide) hB ?_
  refine⟨af w7.rest hr (a:=I r.B) rfl rfl,?_⟩
  have h2:=cX (a:=r.B) (n:=2) (by decide)
  obtain⟨x,hx⟩:=Int.eq_ofNat_of_zero_le h2.1
  rw[hx]at h2 ⊢
  refine aD (cs:=bq (.num x)) rfl (aD (BD _) ?_)
  refine bo (by decide) (by decide) hq ?_
  have h3:=cX (a:=r.B.tdiv 2) (n:=4) (by decide)
  obtain⟨y,hy⟩:=Int.eq_ofNat_of_zero_le h3.1
  rw[hy]at h3 ⊢
  refine aD (cs:=bq (.num y)) rfl (aD (BD _) ?_)
  refine aB rfl (by simp[AV.isTup,AV.cells,bQ]) ?_
  rw[aaK]
  refine aj (w7.putA (az:=[⟨-1,.num x⟩,⟨-1,.num y⟩]) rfl (by simp) fun h8 w8=>?_)
  refine YW (op:=m) ho (by omega) (by simp) (fun a ha=>?_) w8 q
  simp at ha
  rcases ha with rfl|rfl
  ·exact Ji (show x<4294967296 by omega) (by simp[bn])
  ·exact Ji (show y<4294967296 by omega) (by simp[bn])
 refine aJ (ah (fun hb3=>?_) (fun hb3=>?_))
 ·have h9:9≤c:=by have:=of_decide_eq_false hb2;omega
  have h12:c<12:=by have:=of_decide_eq_true hb3;omega
  refine aK w.rest hr (nle rfl) ?_
  refine aH (by omega) (cH (by omega) ?_)
  rw[show (3:Int)+(c:Nat)-9=((c-6:Nat):Int) by omega]
  refine T4 (r:=r) ho hf fun az h5 hz hok f5=>?_
  have w5:=w.call f5
  obtain⟨v,E,a,s5⟩:=w5
  refine ay (o:=0) (cs:=[I 1,T [],I 0,I 0,T [],v]) (L':=E++((j3,true,.cells (smE 1 ⟨[],c-6,0,[],az⟩))::wsO r j1 j2)) s5 (Sub.pre .head E) rfl rfl rfl (nle rfl) fun h6 s6=>?_
  refine Dp (rs:=⟨[],c-6,0,[],az⟩) ho ⟨by simp,by simp,(by show c-6≤9;omega),(fun h=>by simp at h;omega),(fun h=>by simp at h;omega),(by show az.length≤100;omega),hok⟩ rfl ⟨_,[],.inr ⟨rfl,rfl⟩,s6.sub (List.sublist_append_right _ _)⟩ q
 refine aA (ah (fun hb4=>?_) (fun hb4=>?_))
 ·refine aB rfl rfl ?_
  refine aj (af w.rest hr (a:=I r.A) rfl (aj ?_))
  refine bo (by decide) (by decide) ho.2.1 ?_
  refine LU (f:=T) (l:=abO) (P:=fun x=>x.length≤20) (by decide) rfl (cX (by decide)) fun p x hx hp=>?_
  refine hp _ _ ?_
  refine w.put (rs':=⟨[],6,0,[],[]⟩) rfl rfl rfl (nle rfl) rfl (fun v=>rfl) fun h6 w6=>?_
  refine⟨hp _ _ rfl,aj ?_⟩
  refine w6.put (rs':=⟨[],6,0,x,[]⟩) rfl rfl rfl (nle rfl) rfl (fun v=>rfl) fun h7 w7=>?_
  exact Dp ho ⟨by simp,hx,(by show 6≤9;decide),(fun h=>by cases h),(fun h=>by cases h),by simp,by simp⟩ rfl w7.g q
 refine aA (ah (fun hb5=>?_) (fun hb5=>?_))
 ·refine aB rfl rfl ?_
  exact WY (l:=[1,2,4,8,16,3]) (kd:=7) (by decide) ho (by decide) rfl (by decide) (by decide) w q
 refine aA (ah (fun hb6=>?_) (fun hb6=>?_))
 ·refine aB rfl rfl ?_
  exact WY (l:=[0,2,100,250,252,254,256,7]) (kd:=8) (by decide) ho (by decide) rfl (by decide) (by decide) w q
 ·refine aB rfl rfl ?_
  refine aj (af w.rest hr (a:=I r.A) rfl ?_)
  refine aj (af w.rest hr (a:=.snap r.E.length (xrL r.E)) rfl (aj ?_))
  refine bo (by decide) (by decide) ho.2.1 ?_
  refine⟨af w.rest hr (a:=.snap r.E.length (xrL r.E)) rfl rfl,?_⟩
  refine LU (f:=T) (l:=aa9) (P:=fun x=>x.length≤20) (by decide) rfl (cX (by decide)) fun p x hx hp=>?_
  refine hp _ _ ?_
  refine KN ho.2.2.2.2.2.2 (U7 _) fun e h5 he hs f5=>?_
  have w5:=w.call f5
  refine⟨hp _ _ rfl,?_⟩
  refine aD (BD _) ?_
  refine aB rfl (by simp[AV.isTup,AV.cells,bQ]) ?_
  rw[Kx]
  refine w5.put (rs':=⟨[],9,0,[],[]⟩) rfl rfl rfl (nle rfl) rfl (fun v=>rfl) fun h6 w6=>?_
  refine⟨hp _ _ rfl,aj ?_⟩
  refine w6.put (rs':=⟨[],9,0,x,[]⟩) rfl rfl rfl (nle rfl) rfl (fun v=>rfl) fun h7 w7=>?_
  refine aj (w7.putA (az:=[⟨-1,e⟩]) rfl (by simp) fun h8 w8=>?_)
  refine Dp ho ⟨by simp,hx,(by show 9≤9;decide),(fun h=>by cases h),(fun h=>by cases h),by simp,fun y hy=>?_⟩ rfl w8.g q
  simp at hy;subst hy;exact Ji he (by have:=hf.1;omega)
end
end
end
section
noncomputable section
section
variable [Tabs]
variable {h h0:ae}{Q:QT}{K:AV→Prop}{i:Nat}
theorem TH:∀ r∈tbl,r.name.length≤20:=by decide
theorem Od {op:Nat}(ho:op<tbl.length) (k:∀ h',Fr [] h h'→Q (T (tbl[op]).name) h'):C u7 [I (op:Nat)] h Q:=by
 refine LC _ _ _ ?_
 unfold I8
 refine Jw (op:Int) [32] fun h1 f1=>?_
 rw[Sl ho]
 refine aF rfl (aF rfl (aF rfl ?_))
 refine aQ ((St.start h).call f1) fun q h2 s2=>?_
 refine ay (o:=0) s2 .head rfl rfl rfl (nle rfl) fun h3 s3=>?_
 refine aj (af s3 (.head _) (a:=T (tbl[op]).name) rfl ?_)
 exact k _ s3.fr
theorem VQ {rs:RS}(hg:BG rs) (q:∀ s h',s.length≤20→Fr [] h h'→Q (T s) h'):C vt [.agg (smE 1 rs)] h Q:=by
 refine Mi _ _ _ ?_
 unfold JP
 refine bR (St.start h) rfl fun j1 h1 s1=>?_
 have s1:St h [] h1 [(j1,true,.cells (smE 1 rs))]:=s1
 refine aj (af s1 (.head _) (a:=I (rs.kind:Nat)) rfl ?_)
 refine aA (ah (fun hb=>?_) (fun _=>?_))
 ·have hk:rs.kind=1:=by have:=of_decide_eq_true hb;omega
  have ho:=hg.2.2.2.1 hk
  refine aj (af s1 (.head _) (a:=I (rs.op:Nat)) rfl ?_)
  refine Od (by rw[Xt];exact ho) fun h2 f2=>?_
  exact q _ _ (TH _ (List.getElem_mem _)) (s1.call f2).fr
 refine aA (ah (fun hb=>?_) (fun _=>?_))
 ·have hk:rs.kind=2:=by have:=of_decide_eq_true hb;omega
  have ho:=hg.2.2.2.2.1 hk
  refine aB rfl rfl ?_
  refine aj (af s1 (.head _) (a:=I (rs.op:Nat)) rfl ?_)
  exact yC [[98],[98,108],[98,99]] (P:=fun x=>x.length≤20) (by decide) (n:=3) rfl (by omega) fun x hx=>q _ _ hx s1.fr
 refine aA (ah (fun _=>q _ _ (by decide) s1.fr) (fun _=>?_))
 refine aA (ah (fun _=>q _ _ (by decide) s1.fr) (fun _=>?_))
 refine aA (ah (fun _=>q _ _ (by decide) s1.fr) (fun _=>?_))
 refine aA (ah (fun _=>q _ _ (by decide) s1.fr) (fun _=>?_))
 refine aA (ah (fun _=>q _ _ (by decide) s1.fr) (fun _=>?_))
 refine aA (ah (fun _=>q _ _ (by decide) s1.fr) (fun _=>?_))
 exact q _ _ (by decide) s1.fr
abbrev okO (out:List Str):Prop:=∀ s∈out,s.length≤130000
theorem JH {rs:RS}{v:AV}{s:Str}{out:List Str}{E:Own}{j1:Nat}{h1:ae}(hg:BG rs) (hs:s.length≤100) (ho:okO out) (hn:out.length≤2) (a:AccF 1 v out.length (out.flatMap sE) E) (s1:St h [] h1 (E++[(j1,true,.cells (smE 1 rs))]))
  (q:∀ s h',s.length≤20000000→Fr [] h h'→Q (T s) h'):nT v (T s) (.ptr j1 0) h1 Q:=by
 unfold nT
 refine aP (fun n vs h'=>∃ (j:Nat) (v:AV) (out:List Str) (E:Own),vs=[v,I (j:Nat)]∧n+j=rs.args.length∧okO out∧out.length≤2+j∧AccF 1 v out.length (out.flatMap sE) E∧St h [] h' (E++[(j1,true,.cells (smE 1 rs))])) rs.args.length ⟨0,v,out,E,rfl,by omega,ho,by omega,a,s1⟩ ?_
 rintro n vs h2 ⟨j,v,out,E,rfl,hm,ho,hn,a,s2⟩
 unfold zx
 have hmem:(j1,true,.cells (smE 1 rs))∈E++[(j1,true,.cells (smE 1 rs))]:=List.mem_append_right _ (.head _)
 have RA:∀ h,Row arE 5 h (.snap rs.args.length (rs.args.flatMap arE)) rs.args:=fun h=>Row.snap bQ _
 have hal:=hg.2.2.2.2.2.1
 refine aj (af s2 hmem (a:=.snap rs.args.length (rs.args.flatMap arE)) rfl ?_)
 refine (RA h2).len (aJ (ah (fun hb=>?_) (fun hb=>?_)))
 ·have hj:j<rs.args.length:=by have:=of_decide_eq_true hb;omega
  have hok:=hg.2.2.2.2.2.2 _ (List.getElem_mem hj)
  have go:∀ (x:Str) (h3:ae),x.length≤130000→Fr [] h2 h3→ao 1 1 [T x] fun t66=>bc 1 16 v t66 h3 fun t67 h6=>hQ t67 (I (j:Nat)) h6 (fun vs' h'=>∃ m,m<n∧∃ (j:Nat) (v:AV) (out:List Str) (E:Own),vs'=[v,I (j:Nat)]∧m+j=rs.args.length∧okO out∧out.length≤2+j∧AccF 1 v out.length (out.flatMap sE) E∧St h [] h' (E++[(j1,true,.cells (smE 1 rs))])):=fun x h3 hx f3=>by
   have s3:=s2.call f3
   refine aB rfl rfl ?_
   refine a.app s3 (xs:=[T x]) (m:=1) (Rd.full rfl) rfl (by omega) fun v3 E3 h8 a3 s8=>?_
   unfold hQ pR
   refine aH (by omega) ?_
   refine⟨n-1,by omega,j+1,v3,out++[x],E3,rfl,by omega,fun y hy=>?_,by simp;omega,by simpa using a3,s8⟩
   rcases List.mem_append.1 hy with hy|hy
   ·exact ho y hy
   ·simp at hy;subst hy;exact hx
  refine aj (af s2 hmem (a:=.snap rs.args.length (rs.args.flatMap arE)) rfl ?_)
  refine (RA h2).idx bQ hj fun p t=>?_
  refine xT t (by rw[bQ];decide) fun p t=>?_
  refine aI t ?_
  refine bL (ah (fun hc=>?_) (fun hc=>?_))
  ·have hc:=of_decide_eq_true hc
   refine aj (af s2 hmem (a:=.snap rs.args.length (rs.args.flatMap arE)) rfl ?_)
   refine (RA h2).idx bQ hj fun p t=>?_
   refine xT t (by rw[bQ];decide) fun p t=>?_
   refine aI t ?_
   refine Ms (by rcases hok with hok|hok<;>omega) fun x h3 hl _ f3=>?_
   refine dU (by simp;omega) ?_
   exact go _ _ (by simp;omega) f3
  ·have hc:=of_decide_eq_false hc
   refine aj (af s2 hmem (a:=.snap rs.args.length (rs.args.flatMap arE)) rfl ?_)
   refine (RA h2).idx bQ hj fun p t=>?_
   refine xT t (by rw[bQ];decide) fun p t=>?_
   have t:Pt h2 p (bq rs.args[j].e):=t
   refine bk t (aq _).symm ?_
   obtain⟨_,he,hs⟩:=hok.resolve_left (fun h=>hc h.1)
   refine PK 60 (by decide) _ hs he _ _ fun x h3 hl f3=>?_
   exact go _ _ (by omega) f3
 ·refine aP (fun n vs h'=>∃ (j:Nat) (z:Str),vs=[T z,I (j:Nat)]∧n+j=out.length∧z.length≤100+j*130002∧h'=h2) out.length ⟨0,s,rfl,by omega,by omega,rfl⟩ ?_
  rintro m vs h' ⟨j',z,rfl,hm',hz,rfl⟩
  have RO:Row sE 1 h' v out:=by
   obtain⟨hl,⟨rfl,rfl⟩|⟨j,rfl,rfl⟩⟩:=a
   ·exact Row.full (enc:=sE) (sz:=1) (fun _=>rfl) _
   ·exact Row.sl (enc:=sE) (sz:=1) (fun _=>rfl) (s2.get (.head _))
  unfold y9
  refine RO.len (aJ (ah (fun hb=>?_) (fun hb=>?_)))
  ·have hj:j'<out.length:=by have:=of_decide_eq_true hb;omega
   have hx:=ho _ (List.getElem_mem hj)
   refine aA (ah (fun _=>?_) (fun _=>?_))
   ·refine dU (by simp;omega) ?_
    unfold pU
    refine RO.idx (fun _=>rfl) hj fun p t=>?_
    refine aI t (dU (by simp;omega) ?_)
    unfold hQ pR
    refine aH (by omega) ?_
    exact⟨m-1,by omega,j'+1,_,rfl,by omega,by simp;omega,rfl⟩
   ·refine dU (by simp;omega) ?_
    unfold pU
    refine RO.idx (fun _=>rfl) hj fun p t=>?_
    refine aI t (dU (by simp;omega) ?_)
    unfold hQ pR
    refine aH (by omega) ?_
    exact⟨m-1,by omega,j'+1,_,rfl,by omega,by simp;omega,rfl⟩
  ·exact q _ _ (by omega) s2.fr
theorem WN {rs:RS}(hg:BG rs) (q:∀ s h',s.length≤20000000→Fr [] h h'→Q (T s) h'):C vw [.agg (smE 1 rs)] h Q:=by
 refine Ls _ _ _ ?_
 unfold JJ
 refine bR (St.start h) rfl fun j1 h1 s1=>?_
 have s1:St h [] h1 [(j1,true,.cells (smE 1 rs))]:=s1
 have j17:∀ (s:Str) (v:AV) (out:List Str) (E:Own) (h2:ae),s.length≤100→okO out→out.length≤1→AccF 1 v out.length (out.flatMap sE) E→St h [] h2 (E++[(j1,true,.cells (smE 1 rs))])→nW v (T s) (.ptr j1 0) h2 Q:=fun s v out E h2 hs ho hn a s2=>by
  unfold nW
  have hmem:(j1,true,.cells (smE 1 rs))∈E++[(j1,true,.cells (smE 1 rs))]:=List.mem_append_right _ (.head _)
  refine aj (af s2 hmem (a:=I (rs.kind:Nat)) rfl ?_)
  refine aA (ah (fun _=>?_) (fun _=>?_))
  ·refine aj (af s2 hmem (a:=T rs.text) rfl (aB rfl rfl ?_))
   refine a.app s2 (xs:=[T rs.text]) (m:=1) (Rd.full rfl) rfl (by omega) fun v3 E3 h8 a3 s8=>?_
   refine JH (out:=out++[rs.text]) hg hs (fun y hy=>?_) (by simp;omega) (by simpa using a3) s8 q
   rcases List.mem_append.1 hy with hy|hy
   ·exact ho y hy
   ·simp at hy;subst hy;have:=hg.2.1;omega
  ·exact JH hg hs ho (by omega) a s2 q
 have j18:∀ (s:Str),s.length≤10→nX (T s) (.ptr j1 0) h1 Q:=fun s hs=>by
  unfold nX
  refine aK s1 (.head _) (nle rfl) ?_
  refine VQ hg fun n h2 hn f2=>?_
  have s2:=s1.call f2
  refine dU (by omega) ?_
  refine aj (af s2 (.head _) (a:=I (rs.kind:Nat)) rfl ?_)
  refine aA (ah (fun _=>?_) (fun _=>?_))
  ·have ht:=hg.2.1
   refine aj (af s2 (.head _) (a:=T rs.text) rfl (dU (by simp;omega) (dU (by simp;omega) ?_)))
   refine aB rfl rfl ?_
   refine (AccF.none 1).app (E:=[]) s2 (xs:=[T _]) (m:=1) (Rd.full rfl) rfl (by omega) fun v3 E3 h8 a3 s8=>?_
   refine j17 (s++n) v3 [[34]++rs.text++[34]] E3 h8 (by simp;omega) (fun y hy=>?_) (by simp) a3 s8
   simp at hy;subst hy;simp;omega
  ·exact j17 (s++n) _ [] [] _ (by rw[List.length_append];omega) (fun y hy=>by cases hy) (by simp) (.none 1) s2
 have j19:∀ (s:Str),s.length≤9→nY (T s) (.ptr j1 0) h1 Q:=fun s hs=>by
  unfold nY
  refine aj (af s1 (.head _) (a:=I (rs.kind:Nat)) rfl ?_)
  refine aA (ah (fun _=>q _ _ (by omega) s1.fr) (fun _=>?_))
  refine qq (ah (fun _=>?_) (fun _=>j18 _ (by omega)))
  refine dU (by simp;omega) (j18 (s++[32]) (by simp;omega))
 have hl:=hg.1
 refine aj (af s1 (.head _) (a:=T rs.lab) rfl ?_)
 refine qq (ah (fun _=>?_) (fun _=>j19 [] (by simp)))
 refine aj (af s1 (.head _) (a:=T rs.lab) rfl (dU (by simp;omega) (j19 _ (by simp;omega))))
theorem H3 (hW:tB) (hR:yl) {l:List RW}{ns:List Int}{v1 v2:AV}{most:Nat}(ho:∀ r∈l,okW r∧Ig r) (hi:∀ n∈ns,inI n) (hl:l.length≤9223372036854775807) (hm:most≤1000000) (r1:∀ h,Row rwE 6 h v1 l) (r2:∀ h,Row (fun n:Int=>[I n]) 1 h v2 ns)
  (q:∀ s h',s.length≤most→Fr [] h h'→Q (T s) h'):C mT [v1,v2,I (most:Nat)] h Q:=by
 refine MP _ _ _ _ _ ?_
 unfold JN
 refine aP (fun n vs h'=>∃ (j:Nat) (s:Str),vs=[T s,I (j:Nat)]∧n+j=l.length∧s.length≤most∧Fr [] h h') l.length ⟨0,[],rfl,by omega,by simp,Fr.refl _ _⟩ ?_
 rintro n vs h1 ⟨j,s,rfl,hn,hs,f1⟩
 unfold B2
 have j8:j<l.length→∀ k:Int,pX (I k) (T s) (I (j:Nat)) v1 (I (most:Nat)) h1 (fun vs' h'=>∃ m,m<n∧∃ (j:Nat) (s:Str),vs'=[T s,I (j:Nat)]∧m+j=l.length∧s.length≤most∧Fr [] h h') Q:=fun hj k=>by
  unfold pX
  refine (r1 h1).idx uB hj fun p t=>?_
  refine bk t (uB _).symm ?_
  obtain⟨hw,hf⟩:=ho _ (List.getElem_mem hj)
  refine Wg hW hR hw hf fun rs h2 hg f2=>?_
  refine WN hg fun x h3 hx f3=>?_
  have f:=f1.trans (f2.trans f3 (by simp)) (by simp)
  have b7:∀ x:Str,x.length≤20000100→jS (T x) (T s) (I (j:Nat)) (I (most:Nat)) h3 (fun vs' h'=>∃ m,m<n∧∃ (j:Nat) (s:Str),vs'=[T s,I (j:Nat)]∧m+j=l.length∧s.length≤most∧Fr [] h h') Q:=fun x hx=>by
   unfold jS AZ
   refine be (be (aH (by omega) (aH (by omega) ?_)))
   refine bU (ah (fun _=>?_) (fun hb=>?_))
   ·unfold pG vo
    exact q _ _ hs f
   ·have hb:=of_decide_eq_false hb
    refine dU (by omega) (dU (by simp;omega) ?_)
    refine aH (by omega) ?_
    exact⟨n-1,by omega,j+1,_,rfl,by omega,by simp;omega,f⟩
  refine aA (ah (fun _=>b7 [] (by simp)) (fun _=>?_))
  refine aA (ah (fun _=>?_) (fun _=>?_))
  ·exact dU (by simp;omega) (b7 _ (by simp;omega))
  refine aA (ah (fun _=>?_) (fun _=>b7 _ (by omega)))
  exact dU (by simp;omega) (dU (by simp;omega) (b7 _ (by simp;omega)))
 refine (r1 h1).len (aJ (ah (fun hb=>?_) (fun hb=>?_)))
 ·have hj:j<l.length:=by have:=of_decide_eq_true hb;omega
  refine (r2 h1).len (aJ (ah (fun hc=>?_) (fun _=>j8 hj _)))
  have hj2:j<ns.length:=by have:=of_decide_eq_true hc;omega
  refine (r2 h1).idx (fun _=>rfl) hj2 fun p t=>?_
  refine aI t ?_
  refine bo (by decide) (by decide) (hi _ (List.getElem_mem hj2)) ?_
  exact j8 hj _
 ·unfold pG vo
  exact q _ _ hs f1
end
end
end
end Go.Proofs.YtgkmmcdhhkllnaaGreatDoor.AL
