import Derived.Test.YtbhphjpgjgigpaaGreatDoorAR5toGN5
import Derived.Test.YtbhphjpgjgigpaaGreatDoorAA11toSC
import Derived.Test.YtbhphjpgjgigpaaGreatDoorFLtoAR4
set_option linter.all false
set_option autoImplicit true
set_option relaxedAutoImplicit true
set_option maxRecDepth 100000
namespace Go.Proofs.YtbhphjpgjgigpaaGreatDoor.AL
noncomputable section
section
section
variable [Tabs]
variable {h h0:ae}{Q:QT}{K:AV→Prop}{i:Nat}
theorem X6 (e:Ex):splice (arE ⟨-1,.none⟩) 1 (AV.agg (bq e)).cells=arE ⟨-1,e⟩:=by
 obtain⟨a,b,c,d,hx⟩:=YV (au e)
 show splice (arE ⟨-1,.none⟩) 1 (bq e)=I (-1)::bq e
 rw[hx];rfl
theorem Bf (e:Ex):Da a0 [(0,1,I (-1)),(1,4,.agg (bq e))]=some (arE ⟨-1,e⟩):=by
 obtain⟨a,b,c,d,hx⟩:=YV (au e)
 show _=some (I (-1)::bq e)
 rw[hx];rfl
theorem Ie {e:Ex}(he:okX e) (hs:bn e≤60):okA ⟨-1,e⟩:=.inr ⟨rfl,he,hs⟩
abbrev z6:List AV:=[I 0,S ⟨#[]⟩,I 0,I 0,S ⟨#[]⟩,.full 0 []]
theorem Tg {r:RW}{kind:Nat}(ho:okW r) (hf:Hh r) (q:∀ az h',az.length≤10→(∀ a∈az,okA a)→Fr [] h h'→Q (.agg (smE 1 ⟨[],kind,0,[],az⟩)) h'):C mo [.agg (rwE r),I (kind:Nat)] h Q:=by
 refine ACall.conv ?_
 refine A2 _ _ _ _ ?_
 unfold vH
 refine bW (St.start h) rfl fun j2 h1 s1=>?_
 have s1:St h [] h1 [(j2,true,rwO r)]:=s1
 refine aQ s1 fun j4 h2 s2=>?_
 refine aD rfl ?_
 refine aQ s2 fun j5 h3 s3=>?_
 refine ay (o:=0) s3 (L':=[(j5,true,rdO ⟨[],kind,0,[],[]⟩ (.full 0 [])),(j4,true,.cells z6),(j2,true,rwO r)]) .head rfl rfl rfl (nle rfl) fun h4 s4=>?_
 have hB:=cX (a:=r.B) (n:=4) (by decide)
 refine aP (fun n vs h'=>∃ (j:Nat) (az:List Ar),vs=[I (j:Nat)]∧n+j=5∧az.length=j∧(∀ a∈az,okA a)∧WSt h h' j5 ⟨[],kind,0,[],az⟩ [(j4,true,.cells z6),(j2,true,rwO r)]) 5 ⟨0,[],rfl,rfl,rfl,by simp,.full 0 [],[],AccF.none 5,s4⟩ ?_
 rintro n vs h5 ⟨j,az,rfl,hn,hz,hok,w5⟩
 unfold qj
 refine aj (af w5.rest (.tail _ (.head _)) (a:=I r.B) rfl ?_)
 refine bp (by decide) (by decide) ho.2.2.1 ?_
 refine fl (ah (fun hb=>?_) (fun hb=>?_))
 ·have hj:j<4:=by have:=of_decide_eq_true hb;omega
  refine aD rfl ?_
  obtain⟨v,E,a,s5⟩:=w5
  refine aQ s5 fun j7 h6 s6=>?_
  refine ay (o:=0) s6 (L':=(j7,true,.cells (arE ⟨-1,.none⟩))::(E++((j5,true,rdO ⟨[],kind,0,[],az⟩ v)::[(j4,true,.cells z6),(j2,true,rwO r)]))) .head rfl rfl rfl (nle rfl) fun h7 s7=>?_
  have fin:∀ (e:Ex) (h8:ae),okX e→bn e≤60→Fr [] h7 h8→ab 1 (.ptr j7 0) fun p=>an 4 p (.agg (bq e)) h8 fun h9=>eY (.ptr j7 0) (I (j:Nat)) (.ptr j5 0) h9
    (fun vs' h'=>∃ m,m<n∧∃ (j:Nat) (az:List Ar),vs'=[I (j:Nat)]∧m+j=5∧az.length=j∧(∀ a∈az,okA a)∧WSt h h' j5 ⟨[],kind,0,[],az⟩ [(j4,true,.cells z6),(j2,true,rwO r)]):=fun e h8 he hs f8=>by
   have s8:=s7.call f8
   refine aj (ay (o:=1) (cs:=arE ⟨-1,.none⟩) (L':=(j7,true,.cells (arE ⟨-1,e⟩))::(E++((j5,true,rdO ⟨[],kind,0,[],az⟩ v)::[(j4,true,.cells z6),(j2,true,rwO r)]))) s8 ?_ rfl (au e) (aX e) (nle rfl) fun h9 s9=>?_)
   ·rw[X6];exact .head
   unfold eY pW
   refine aj (af s9 (.tail _ (List.mem_append_right _ (.head _))) (a:=v) rfl ?_)
   refine aL s9 (.head _) (by rw[bR];exact Nat.le_refl 5) ?_
   rw[List.drop_zero,List.take_of_length_le (by rw[bR];exact Nat.le_refl 5)]
   refine aB rfl (by simp[AV.isTup,AV.cells,bR]) ?_
   rw[IH]
   refine AccF.more (rs:=⟨[],kind,0,[],az⟩) (az:=[⟨-1,e⟩]) (m:=1) a s9.drop1 (by rw[List.flatMap_cons,List.flatMap_nil,List.append_nil];exact Rd.full (bR _)) rfl (by simp;omega) fun h10 w10=>?_
   refine aI (by omega) ?_
   refine⟨n-1,by omega,j+1,az++[⟨-1,e⟩],rfl,by omega,by simp[hz],fun x hx=>?_,w10⟩
   rcases List.mem_append.1 hx with hx|hx
   ·exact hok x hx
   ·simp at hx;subst hx;exact Ie he hs
  refine aL s7 (.tail _ (List.mem_append_right _ (.tail _ (.tail _ (.head _))))) (nle rfl) ?_
  refine Rp (r:=r) ho (by omega) fun x h8 hx f8=>?_
  refine bp (by decide) (by decide) hx ?_
  have c1:∀ h9,Fr [] h7 h9→iz (I x) h9 (.ptr j7 0) [I (j:Nat)] (.ptr j5 0)
    (fun vs' h'=>∃ m,m<n∧∃ (j:Nat) (az:List Ar),vs'=[I (j:Nat)]∧m+j=5∧az.length=j∧(∀ a∈az,okA a)∧WSt h h' j5 ⟨[],kind,0,[],az⟩ [(j4,true,.cells z6),(j2,true,rwO r)]):=fun h9 f9=>by
   unfold iz
   refine bp (by decide) (by decide) hx ?_
   refine aA (ah (fun _=>?_) (fun _=>?_))
   ·refine xu ?_
    have hq:inI (x.tdiv 6):=by
     have:(x.tdiv 6).natAbs=x.natAbs / 6:=by rw[Int.natAbs_tdiv];rfl
     unfold inI at hx ⊢;omega
    refine tJ (by decide) hq ?_
    refine bp (by decide) (by decide) hq ?_
    refine xD labels4 (P:=fun x=>x.length≤5) (by decide) rfl (cX (by decide)) fun x hx=>?_
    refine aD rfl ?_
    exact fin (.name x) _ (by show x.length≤12;omega) (by simp[bn]) f9
   ·refine bp (by decide) (by decide) hx ?_
    have hm:=cX (a:=x) (n:=256) (by decide)
    obtain⟨m,hmm⟩:=Int.eq_ofNat_of_zero_le hm.1
    rw[hmm]
    refine aD rfl ?_
    exact fin (.num m) _ (by show m<_;omega) (by simp[bn]) f9
  refine aA (ah (fun _=>?_) (fun _=>c1 _ f8))
  have s8:=s7.call f8
  refine aj (af s8 (.tail _ (List.mem_append_right _ (.tail _ (.tail _ (.head _))))) (a:=.snap r.E.length (xrL r.E)) rfl (cE ?_))
  refine bx (ah (fun _=>?_) (fun _=>c1 _ f8))
  refine aj (af s8 (.tail _ (List.mem_append_right _ (.tail _ (.tail _ (.head _))))) (a:=.snap r.E.length (xrL r.E)) rfl ?_)
  refine Kc ho.2.2.2.2.2.2 (Tk _) fun e h9 he hs f9=>?_
  exact fin e _ he (by have:=hf.1;omega) (f8.trans f9 (by simp))
 ·exact w5.g.told rfl fun h' f'=>q az h' (by omega) hok f'
theorem VH:∀ r∈tbl,(cK r.kinds).length≤10:=by decide
abbrev wsO (r:RW) (j1 j2:Nat):Own:=[(j2,true,.cells z6),(j1,true,rwO r)]
theorem BZ {r:RW}{rs:RS}{j1 j2 j3:Nat}{h1:ae}(ho:okW r) (hg:BB rs) (hl:rs.lab=[]) (w:WSg h h1 j3 rs (wsO r j1 j2)) (q:∀ rs h',BB rs→Fr [] h h'→Q (.agg (smE 1 rs)) h'):
  cS (.ptr j3 0) (.ptr j2 0) (.ptr j1 0) h1 (fun r h'=>∃ r2 h2,Conv r h' r2 h2∧Q r2 h2):=by
 have c1:ji (.ptr j1 0) h1 (.ptr j3 0) (.ptr j2 0) (fun r h'=>∃ r2 h2,Conv r h' r2 h2∧Q r2 h2):=by
  unfold ji
  refine aj (af w.rest (.tail _ (.head _)) (a:=I r.B) rfl ?_)
  refine xu ?_
  refine⟨af w.rest (.tail _ (.head _)) (a:=I r.B) rfl rfl,?_⟩
  refine bp (by decide) (by decide) ho.2.2.1 ?_
  refine xD labels4 (P:=fun x=>x.length≤5) (by decide) rfl (cX (by decide)) fun x hx=>?_
  refine aj (w.put (rs':={ rs with lab:=x }) rfl rfl rfl (nle rfl) rfl (fun v=>rfl) fun h2 w2=>?_)
  unfold ix
  exact w2.told rfl fun h' f'=>q _ h' ⟨hx,hg.2⟩ f'
 unfold cS qU
 refine aj (af w.rest (.tail _ (.head _)) (a:=.lit (.bool r.L)) rfl ?_)
 refine ah (fun _=>c1) (fun _=>?_)
 refine aj (w.load (fun v=>rfl) ?_)
 refine aA (ah (fun _=>c1) (fun _=>?_))
 unfold ix
 exact w.told rfl fun h' f'=>q _ h' hg f'
end
end
section
section
variable [Tabs]
variable {h h0:ae}{Q:QT}{K:AV→Prop}{i:Nat}
theorem VI:tbl.length=66:=by decide
abbrev CV2 (Q:QT):QT:=fun r h'=>∃ r2 h2,Conv r h' r2 h2∧Q r2 h2
theorem YP (hW:sK) (hR:xE) {r:RW}{j1 j2 j3:Nat}{h4:ae}(ho:okW r) (hf:Hh r) (w:WSt h h4 j3 ⟨[],0,0,[],[]⟩ (wsO r j1 j2)) (q:∀ rs h',BB rs→Fr [] h h'→Q (.agg (smE 1 rs)) h') {op:Nat}(hop:op<66):
  ab 2 (.ptr j3 0) fun t31=>an 1 t31 (I 1) h4 fun h6=>ab 3 (.ptr j3 0) fun t32=>an 1 t32 (I (op:Nat)) h6 fun h7=>ab 3 (.ptr j3 0) fun t33=>ag t33 h7 fun t34=>
   C ng [t34] h7 fun t35 h8=>C nj [t35] h8 fun t36 h9=>bZ [(I 0)] h9 fun vs10 h next10=>mi t36 (.ptr j3 0) (.ptr j2 0) (.ptr j1 0) (CV2 Q) vs10 h next10:=by
 refine aj (w.put (rs':=⟨[],1,0,[],[]⟩) rfl rfl rfl (nle rfl) rfl (fun v=>rfl) fun h6 w6=>?_)
 refine aj (w6.put (rs':=⟨[],1,op,[],[]⟩) rfl rfl rfl (nle rfl) rfl (fun v=>rfl) fun h7 w7=>?_)
 refine aj (w7.load (a:=I (op:Nat)) (fun v=>rfl) ?_)
 have ht:op<tbl.length:=by rw[VI];exact hop
 have hm:tbl[op]∈tbl:=List.getElem_mem ht
 refine LA ht fun h8 f8=>?_
 refine hW _ hm _ _ ?_
 have w8:=w7.call f8
 have hL:=VH _ hm
 have hne:=SI _ hm
 have hrk:=Tn _ hm
 have hRk:=hR _ hm
 generalize cK tbl[op].kinds=ks at hL hne hrk hRk
 have RK:∀ h,Row sE 1 h (.snap ks.length (ks.flatMap sE)) ks:=fun h=>Row.snap (enc:=sE) (fun _=>rfl) _
 refine aP (fun n vs h'=>∃ (j:Nat) (az:List Ar),vs=[I (j:Nat)]∧n+j=ks.length∧az.length=j∧(∀ a∈az,okA a)∧WSt h h' j3 ⟨[],1,op,[],az⟩ (wsO r j1 j2)) ks.length ⟨0,[],rfl,by omega,rfl,by simp,w8⟩ ?_
 rintro n vs h5 ⟨j,az,rfl,hn,hz,hok,w5⟩
 unfold mi
 refine (RK h5).len (aJ (ah (fun hb=>?_) (fun hb=>?_)))
 ·have hj:j<ks.length:=by have:=of_decide_eq_true hb;omega
  have hmem:=List.getElem_mem hj
  obtain⟨v,E,a,s5⟩:=w5
  have hr:(j1,true,rwO r)∈E++((j3,true,rdO ⟨[],1,op,[],az⟩ v)::wsO r j1 j2):=List.mem_append_right _ (.tail _ (.tail _ (.head _)))
  have hs:(j3,true,rdO ⟨[],1,op,[],az⟩ v)∈E++((j3,true,rdO ⟨[],1,op,[],az⟩ v)::wsO r j1 j2):=List.mem_append_right _ (.head _)
  refine aj (af s5 hs (a:=v) rfl ?_)
  refine aL s5 hr (nle rfl) ?_
  refine (RK h5).idx (fun _=>rfl) hj fun p t=>?_
  refine aH t ?_
  refine aL s5 hr (nle rfl) ?_
  refine Rp (r:=r) ho (by omega) fun x h6 hx f6=>?_
  have s6:=s5.call f6
  refine⟨aH (t.fr f6) rfl,aL s6 hr (nle rfl) rfl,af s6 hs (a:=v) rfl rfl,?_⟩
  refine Wl (r:=r) ho hf hx (hne _ hmem) (hrk _ hmem) (hRk _ hmem) fun ar h7 har f7=>?_
  have s7:=s6.call f7
  refine⟨af s7 hs (a:=v) rfl rfl,?_⟩
  refine aB rfl (by simp[AV.isTup,AV.cells,bR]) ?_
  rw[IH]
  refine AccF.more (rs:=⟨[],1,op,[],az⟩) (az:=[ar]) (m:=1) a s7 (by rw[List.flatMap_cons,List.flatMap_nil,List.append_nil];exact Rd.full (bR _)) rfl (by simp;omega) fun h10 w10=>?_
  refine aI (by omega) ?_
  refine⟨n-1,by omega,j+1,az++[ar],rfl,by omega,by simp[hz],fun x hx=>?_,w10⟩
  rcases List.mem_append.1 hx with hx|hx
  ·exact hok x hx
  ·simp at hx;subst hx;exact har
 ·exact BZ ho ⟨by simp,by simp,(by show 1≤9;decide),fun _=>hop,(fun h=>by cases h),(by show az.length≤100;omega),hok⟩ rfl w5.g q
theorem Ww {r:RW}{j1 j2 j3:Nat}{h4:ae}{op:Nat}{az:List Ar}(ho:okW r) (hop:op<3) (hz:az.length≤10) (hok:∀ a∈az,okA a) (w:WSt h h4 j3 ⟨[],2,op,[],az⟩ (wsO r j1 j2)) (q:∀ rs h',BB rs→Fr [] h h'→Q (.agg (smE 1 rs)) h'):
  iJ (.ptr j3 0) (.ptr j2 0) (.ptr j1 0) h4 (CV2 Q):=by
 unfold iJ
 obtain⟨v,E,a,s5⟩:=w
 have hr:(j1,true,rwO r)∈E++((j3,true,rdO ⟨[],2,op,[],az⟩ v)::wsO r j1 j2):=List.mem_append_right _ (.tail _ (.tail _ (.head _)))
 have hs:(j3,true,rdO ⟨[],2,op,[],az⟩ v)∈E++((j3,true,rdO ⟨[],2,op,[],az⟩ v)::wsO r j1 j2):=List.mem_append_right _ (.head _)
 refine aj (af s5 hs (a:=v) rfl ?_)
 refine aj (af s5 hr (a:=I r.B) rfl ?_)
 refine xu ?_
 refine⟨af s5 hr (a:=I r.B) rfl rfl,af s5 hs (a:=v) rfl rfl,?_⟩
 refine bp (by decide) (by decide) ho.2.2.1 ?_
 refine⟨af s5 hs (a:=v) rfl rfl,?_⟩
 refine xD labels4 (P:=fun x=>x.length≤5) (by decide) rfl (cX (by decide)) fun x hx=>?_
 refine aD (cs:=bq (.name x)) rfl ?_
 refine aD (Bf _) ?_
 refine aB rfl (by simp[AV.isTup,AV.cells,bR]) ?_
 rw[IH]
 refine AccF.more (rs:=⟨[],2,op,[],az⟩) (az:=[⟨-1,.name x⟩]) (m:=1) a s5 (by rw[List.flatMap_cons,List.flatMap_nil,List.append_nil];exact Rd.full (bR _)) rfl (by simp;omega) fun h10 w10=>?_
 refine BZ ho ⟨by simp,by simp,(by show 2≤9;decide),(fun h=>by cases h),fun _=>hop,(by simp;omega),fun y hy=>?_⟩ rfl w10.g q
 rcases List.mem_append.1 hy with hy|hy
 ·exact hok y hy
 ·simp at hy;subst hy;exact Ie (show x.length≤12 by omega) (by simp[bn])
end
end
section
section
variable [Tabs]
variable {h h0:ae}{Q:QT}{K:AV→Prop}{i:Nat}
theorem K3 {α:Type}{f:α→AV}{l:List α}{P:α→Prop}(hP:∀ x∈l,P x) {n:Nat}(hn:l.length=n) {j:Int}(hj:0≤j∧j<n) {K:AV→Prop}(k:∀ p x,P x→(∀ (h:ae) (K:AV→Prop),K (f x)→ag p h K)→K p):ak 1 (.full n (l.map f)) (I j) K:=by
 obtain⟨i,rfl⟩:=Int.eq_ofNat_of_zero_le hj.1
 have hi:i<l.length:=by omega
 refine⟨?_⟩
 simp only[dn,asI,Int.toNat_natCast,Nat.mul_one]
 refine⟨⟨by omega,by omega⟩,k _ l[i] (hP _ (List.getElem_mem hi)) fun h K kk=>?_⟩
 rw[List.drop_eq_getElem_cons (by simpa using hi)]
 rw[List.getElem_map]
 exact Te kk
theorem Wj {r:RW}{j1 j2 j3:Nat}{h4:ae}{kd:Nat}{l:List Int}{n:Nat}(hk:kd≤9∧3≤kd) (ho:okW r) (hl:∀ x∈l,0≤x∧x≤1000) (hn:l.length=n) (h0:0<n) (hn2:n<1000) (w:WSt h h4 j3 ⟨[],0,0,[],[]⟩ (wsO r j1 j2)) (q:∀ rs h',BB rs→Fr [] h h'→Q (.agg (smE 1 rs)) h'):
  ab 1 (.ptr j1 0) fun t117=>ag t117 h4 fun t118=>ab 2 (.ptr j3 0) fun t125=>C aY [t118,I (n:Nat)] h4 fun t119 h43=>ak 1 (.full n (l.map I)) t119 fun t120=>ag t120 h43 fun t121=>
   ax [(I 0),(I 0),(S ⟨#[]⟩),(.full 0 [])] [(0,1,(I 1)),(1,1,t121)] fun t122=>ax [(I 0),(I 0),(I 0),(S ⟨#[]⟩),(.full 0 [])] [(0,1,(I (-1))),(1,4,t122)] fun t123=>am 1 5 [t123] fun t124=>
   an 1 t125 (I (kd:Nat)) h43 fun h44=>jv t120 h44 t121 (.ptr j3 0) t124 (.ptr j2 0) (.ptr j1 0) (CV2 Q):=by
 refine aj (af w.rest (.tail _ (.head _)) (a:=I r.A) rfl (aj ?_))
 refine bp (by omega) (by omega) ho.2.1 ?_
 refine K3 (f:=I) hl hn (cX (by omega)) fun p x hx hp=>?_
 refine hp _ _ ?_
 obtain⟨m,rfl⟩:=Int.eq_ofNat_of_zero_le hx.1
 refine aD (cs:=bq (.num m)) rfl (aD (Bf _) ?_)
 refine aB rfl (by simp[AV.isTup,AV.cells,bR]) ?_
 rw[IH]
 refine w.put (rs':=⟨[],kd,0,[],[]⟩) rfl rfl rfl (nle rfl) rfl (fun v=>rfl) fun h6 w6=>?_
 unfold jv
 refine⟨hp _ _ rfl,aj ?_⟩
 refine w6.putA (az:=[⟨-1,.num m⟩]) rfl (by simp) fun h7 w7=>?_
 refine BZ ho ⟨by simp,by simp,hk.1,(fun h=>by simp at h;omega),(fun h=>by simp at h;omega),by simp,fun y hy=>?_⟩ rfl w7.g q
 simp at hy;subst hy;exact Ie (show m<4294967296 by omega) (by simp[bn])
def aak:List Str:=[[],[104,105],[97,32,35,32,98,44,32,99],[48,49,50,51,52,53,54,55,56,57],[116,97,98]]
def Z4:List Str:=[[107],[115,105,122,101],[120]]
theorem Va (hW:sK) (hR:xE) {r:RW}(ho:okW r) (hf:Hh r) (q:∀ rs h',BB rs→Fr [] h h'→Q (.agg (smE 1 rs)) h'):C mY [.agg (rwE r)] h Q:=by
 refine ACall.conv ?_
 refine BR _ _ _ ?_
 unfold yj
 refine bW (St.start h) rfl fun j1 h1 s1=>?_
 have s1:St h [] h1 [(j1,true,rwO r)]:=s1
 refine aQ s1 fun j2 h2 s2=>?_
 refine aD rfl ?_
 refine aQ s2 fun j3 h3 s3=>?_
 refine ay (o:=0) s3 (L':=[(j3,true,rdO ⟨[],0,0,[],[]⟩ (.full 0 [])),(j2,true,.cells z6),(j1,true,rwO r)]) .head rfl rfl rfl (nle rfl) fun h4 s4=>?_
 have w:WSt h h4 j3 ⟨[],0,0,[],[]⟩ (wsO r j1 j2):=⟨.full 0 [],[],AccF.none 5,s4⟩
 have hr:(j1,true,rwO r)∈wsO r j1 j2:=.tail _ (.head _)
 refine aj (af w.rest hr (a:=I r.K) rfl ?_)
 refine bp (by decide) (by decide) ho.1 ?_
 have hk:=cX (a:=r.K) (n:=16) (by decide)
 obtain⟨c,hc⟩:=Int.eq_ofNat_of_zero_le hk.1
 rw[hc]at hk ⊢
 refine aJ (ah (fun _=>?_) (fun hb1=>?_))
 ·refine aj (af w.rest hr (a:=I r.A) rfl ?_)
  refine bp (by decide) (by decide) ho.2.1 ?_
  have hm:=cX (a:=r.A) (n:=66) (by decide)
  obtain⟨m,hmm⟩:=Int.eq_ofNat_of_zero_le hm.1
  rw[hmm]
  exact YP hW hR ho hf w q (by omega)
 refine aJ (ah (fun _=>?_) (fun hb2=>?_))
 ·refine aj (af w.rest hr (a:=I r.A) rfl ?_)
  refine bp (by decide) (by decide) ho.2.1 ?_
  have hm:=cX (a:=r.A) (n:=3) (by decide)
  obtain⟨m,hmm⟩:=Int.eq_ofNat_of_zero_le hm.1
  rw[hmm]at hm ⊢
  refine aj (w.put (rs':=⟨[],2,0,[],[]⟩) rfl rfl rfl (nle rfl) rfl (fun v=>rfl) fun h6 w6=>?_)
  refine aj (w6.put (rs':=⟨[],2,m,[],[]⟩) rfl rfl rfl (nle rfl) rfl (fun v=>rfl) fun h7 w7=>?_)
  refine aj (w7.load (a:=I (m:Nat)) (fun v=>rfl) ?_)
  refine aA (ah (fun _=>?_) (fun _=>Ww ho (by omega) (by simp) (by simp) w7 q))
  refine aj (af w7.rest hr (a:=I r.B) rfl ?_)
  refine aj (af w7.rest hr (a:=I r.B) rfl ?_)
  have hB:=ho.2.2.1
  have hq:inI (r.B.tdiv 2):=by
   have:(r.B.tdiv 2).natAbs=r.B.natAbs / 2:=by rw[Int.natAbs_tdiv];rfl
   unfold inI at hB ⊢;omega
  refine tJ (by decide) hq ?_
  refine bp (by decide) (by decide) hB ?_
  refine⟨af w7.rest hr (a:=I r.B) rfl rfl,?_⟩
  have h2:=cX (a:=r.B) (n:=2) (by decide)
  obtain⟨x,hx⟩:=Int.eq_ofNat_of_zero_le h2.1
  rw[hx]at h2 ⊢
  refine aD (cs:=bq (.num x)) rfl (aD (Bf _) ?_)
  refine bp (by decide) (by decide) hq ?_
  have h3:=cX (a:=r.B.tdiv 2) (n:=4) (by decide)
  obtain⟨y,hy⟩:=Int.eq_ofNat_of_zero_le h3.1
  rw[hy]at h3 ⊢
  refine aD (cs:=bq (.num y)) rfl (aD (Bf _) ?_)
  refine aB rfl (by simp[AV.isTup,AV.cells,bR]) ?_
  rw[ZK]
  refine aj (w7.putA (az:=[⟨-1,.num x⟩,⟨-1,.num y⟩]) rfl (by simp) fun h8 w8=>?_)
  refine Ww (op:=m) ho (by omega) (by simp) (fun a ha=>?_) w8 q
  simp at ha
  rcases ha with rfl|rfl
  ·exact Ie (show x<4294967296 by omega) (by simp[bn])
  ·exact Ie (show y<4294967296 by omega) (by simp[bn])
 refine aJ (ah (fun hb3=>?_) (fun hb3=>?_))
 ·have h9:9≤c:=by have:=of_decide_eq_false hb2;omega
  have h12:c<12:=by have:=of_decide_eq_true hb3;omega
  refine aL w.rest hr (nle rfl) ?_
  refine aI (by omega) (cw (by omega) ?_)
  rw[show (3:Int)+(c:Nat)-9=((c-6:Nat):Int) by omega]
  refine Tg (r:=r) ho hf fun az h5 hz hok f5=>?_
  have w5:=w.call f5
  obtain⟨v,E,a,s5⟩:=w5
  refine ay (o:=0) (cs:=[I 1,T [],I 0,I 0,T [],v]) (L':=E++((j3,true,.cells (smE 1 ⟨[],c-6,0,[],az⟩))::wsO r j1 j2)) s5 (Sub.pre .head E) rfl rfl rfl (nle rfl) fun h6 s6=>?_
  refine BZ (rs:=⟨[],c-6,0,[],az⟩) ho ⟨by simp,by simp,(by show c-6≤9;omega),(fun h=>by simp at h;omega),(fun h=>by simp at h;omega),(by show az.length≤100;omega),hok⟩ rfl ⟨_,[],.inr ⟨rfl,rfl⟩,s6.sub (List.sublist_append_right _ _)⟩ q
 refine aA (ah (fun hb4=>?_) (fun hb4=>?_))
 ·refine aB rfl rfl ?_
  refine aj (af w.rest hr (a:=I r.A) rfl (aj ?_))
  refine bp (by decide) (by decide) ho.2.1 ?_
  refine K3 (f:=T) (l:=aak) (P:=fun x=>x.length≤20) (by decide) rfl (cX (by decide)) fun p x hx hp=>?_
  refine hp _ _ ?_
  refine w.put (rs':=⟨[],6,0,[],[]⟩) rfl rfl rfl (nle rfl) rfl (fun v=>rfl) fun h6 w6=>?_
  refine⟨hp _ _ rfl,aj ?_⟩
  refine w6.put (rs':=⟨[],6,0,x,[]⟩) rfl rfl rfl (nle rfl) rfl (fun v=>rfl) fun h7 w7=>?_
  exact BZ ho ⟨by simp,hx,(by show 6≤9;decide),(fun h=>by cases h),(fun h=>by cases h),by simp,by simp⟩ rfl w7.g q
 refine aA (ah (fun hb5=>?_) (fun hb5=>?_))
 ·refine aB rfl rfl ?_
  exact Wj (l:=[1,2,4,8,16,3]) (kd:=7) (by decide) ho (by decide) rfl (by decide) (by decide) w q
 refine aA (ah (fun hb6=>?_) (fun hb6=>?_))
 ·refine aB rfl rfl ?_
  exact Wj (l:=[0,2,100,250,252,254,256,7]) (kd:=8) (by decide) ho (by decide) rfl (by decide) (by decide) w q
 ·refine aB rfl rfl ?_
  refine aj (af w.rest hr (a:=I r.A) rfl ?_)
  refine aj (af w.rest hr (a:=.snap r.E.length (xrL r.E)) rfl (aj ?_))
  refine bp (by decide) (by decide) ho.2.1 ?_
  refine⟨af w.rest hr (a:=.snap r.E.length (xrL r.E)) rfl rfl,?_⟩
  refine K3 (f:=T) (l:=Z4) (P:=fun x=>x.length≤20) (by decide) rfl (cX (by decide)) fun p x hx hp=>?_
  refine hp _ _ ?_
  refine Kc ho.2.2.2.2.2.2 (Tk _) fun e h5 he hs f5=>?_
  have w5:=w.call f5
  refine⟨hp _ _ rfl,?_⟩
  refine aD (Bf _) ?_
  refine aB rfl (by simp[AV.isTup,AV.cells,bR]) ?_
  rw[IH]
  refine w5.put (rs':=⟨[],9,0,[],[]⟩) rfl rfl rfl (nle rfl) rfl (fun v=>rfl) fun h6 w6=>?_
  refine⟨hp _ _ rfl,aj ?_⟩
  refine w6.put (rs':=⟨[],9,0,x,[]⟩) rfl rfl rfl (nle rfl) rfl (fun v=>rfl) fun h7 w7=>?_
  refine aj (w7.putA (az:=[⟨-1,e⟩]) rfl (by simp) fun h8 w8=>?_)
  refine BZ ho ⟨by simp,hx,(by show 9≤9;decide),(fun h=>by cases h),(fun h=>by cases h),by simp,fun y hy=>?_⟩ rfl w8.g q
  simp at hy;subst hy;exact Ie he (by have:=hf.1;omega)
end
end
section
section
variable [Tabs]
variable {h h0:ae}{Q:QT}{K:AV→Prop}{i:Nat}
theorem UC:∀ r∈tbl,r.name.length≤20:=by decide
theorem Nc {op:Nat}(ho:op<tbl.length) (k:∀ h',Fr [] h h'→Q (T (tbl[op]).name) h'):C tL [I (op:Nat)] h Q:=by
 refine LB _ _ _ ?_
 unfold Jo
 refine Iz (op:Int) [32] fun h1 f1=>?_
 rw[Sh ho]
 refine aE rfl (aE rfl (aE rfl ?_))
 refine aQ ((St.start h).call f1) fun q h2 s2=>?_
 refine ay (o:=0) s2 .head rfl rfl rfl (nle rfl) fun h3 s3=>?_
 refine aj (af s3 (.head _) (a:=T (tbl[op]).name) rfl ?_)
 exact k _ s3.fr
theorem Wu {rs:RS}(hg:BB rs) (q:∀ s h',s.length≤20→Fr [] h h'→Q (T s) h'):C uz [.agg (smE 1 rs)] h Q:=by
 refine Ld _ _ _ ?_
 unfold IK
 refine bW (St.start h) rfl fun j1 h1 s1=>?_
 have s1:St h [] h1 [(j1,true,.cells (smE 1 rs))]:=s1
 refine aj (af s1 (.head _) (a:=I (rs.kind:Nat)) rfl ?_)
 refine aA (ah (fun hb=>?_) (fun _=>?_))
 ·have hk:rs.kind=1:=by have:=of_decide_eq_true hb;omega
  have ho:=hg.2.2.2.1 hk
  refine aj (af s1 (.head _) (a:=I (rs.op:Nat)) rfl ?_)
  refine Nc (by rw[VI];exact ho) fun h2 f2=>?_
  exact q _ _ (UC _ (List.getElem_mem _)) (s1.call f2).fr
 refine aA (ah (fun hb=>?_) (fun _=>?_))
 ·have hk:rs.kind=2:=by have:=of_decide_eq_true hb;omega
  have ho:=hg.2.2.2.2.1 hk
  refine aB rfl rfl ?_
  refine aj (af s1 (.head _) (a:=I (rs.op:Nat)) rfl ?_)
  exact xD [[98],[98,108],[98,99]] (P:=fun x=>x.length≤20) (by decide) (n:=3) rfl (by omega) fun x hx=>q _ _ hx s1.fr
 refine aA (ah (fun _=>q _ _ (by decide) s1.fr) (fun _=>?_))
 refine aA (ah (fun _=>q _ _ (by decide) s1.fr) (fun _=>?_))
 refine aA (ah (fun _=>q _ _ (by decide) s1.fr) (fun _=>?_))
 refine aA (ah (fun _=>q _ _ (by decide) s1.fr) (fun _=>?_))
 refine aA (ah (fun _=>q _ _ (by decide) s1.fr) (fun _=>?_))
 refine aA (ah (fun _=>q _ _ (by decide) s1.fr) (fun _=>?_))
 exact q _ _ (by decide) s1.fr
abbrev okO (out:List Str):Prop:=∀ s∈out,s.length≤130000
theorem Jq {rs:RS}{v:AV}{s:Str}{out:List Str}{E:Own}{j1:Nat}{h1:ae}(hg:BB rs) (hs:s.length≤100) (ho:okO out) (hn:out.length≤2) (a:AccF 1 v out.length (out.flatMap sE) E) (s1:St h [] h1 (E++[(j1,true,.cells (smE 1 rs))]))
  (q:∀ s h',s.length≤20000000→Fr [] h h'→Q (T s) h'):nw v (T s) (.ptr j1 0) h1 Q:=by
 unfold nw
 refine aP (fun n vs h'=>∃ (j:Nat) (v:AV) (out:List Str) (E:Own),vs=[v,I (j:Nat)]∧n+j=rs.args.length∧okO out∧out.length≤2+j∧AccF 1 v out.length (out.flatMap sE) E∧St h [] h' (E++[(j1,true,.cells (smE 1 rs))])) rs.args.length ⟨0,v,out,E,rfl,by omega,ho,by omega,a,s1⟩ ?_
 rintro n vs h2 ⟨j,v,out,E,rfl,hm,ho,hn,a,s2⟩
 unfold yh
 have hmem:(j1,true,.cells (smE 1 rs))∈E++[(j1,true,.cells (smE 1 rs))]:=List.mem_append_right _ (.head _)
 have RA:∀ h,Row arE 5 h (.snap rs.args.length (rs.args.flatMap arE)) rs.args:=fun h=>Row.snap bR _
 have hal:=hg.2.2.2.2.2.1
 refine aj (af s2 hmem (a:=.snap rs.args.length (rs.args.flatMap arE)) rfl ?_)
 refine (RA h2).len (aJ (ah (fun hb=>?_) (fun hb=>?_)))
 ·have hj:j<rs.args.length:=by have:=of_decide_eq_true hb;omega
  have hok:=hg.2.2.2.2.2.2 _ (List.getElem_mem hj)
  have go:∀ (x:Str) (h3:ae),x.length≤130000→Fr [] h2 h3→am 1 1 [T x] fun t66=>bl 1 16 v t66 h3 fun t67 h6=>gV t67 (I (j:Nat)) h6 (fun vs' h'=>∃ m,m<n∧∃ (j:Nat) (v:AV) (out:List Str) (E:Own),vs'=[v,I (j:Nat)]∧m+j=rs.args.length∧okO out∧out.length≤2+j∧AccF 1 v out.length (out.flatMap sE) E∧St h [] h' (E++[(j1,true,.cells (smE 1 rs))])):=fun x h3 hx f3=>by
   have s3:=s2.call f3
   refine aB rfl rfl ?_
   refine a.app s3 (xs:=[T x]) (m:=1) (Rd.full rfl) rfl (by omega) fun v3 E3 h8 a3 s8=>?_
   unfold gV pu
   refine aI (by omega) ?_
   refine⟨n-1,by omega,j+1,v3,out++[x],E3,rfl,by omega,fun y hy=>?_,by simp;omega,by simpa using a3,s8⟩
   rcases List.mem_append.1 hy with hy|hy
   ·exact ho y hy
   ·simp at hy;subst hy;exact hx
  refine aj (af s2 hmem (a:=.snap rs.args.length (rs.args.flatMap arE)) rfl ?_)
  refine (RA h2).idx bR hj fun p t=>?_
  refine uS t (by rw[bR];decide) fun p t=>?_
  refine aH t ?_
  refine bL (ah (fun hc=>?_) (fun hc=>?_))
  ·have hc:=of_decide_eq_true hc
   refine aj (af s2 hmem (a:=.snap rs.args.length (rs.args.flatMap arE)) rfl ?_)
   refine (RA h2).idx bR hj fun p t=>?_
   refine uS t (by rw[bR];decide) fun p t=>?_
   refine aH t ?_
   refine Ka (by rcases hok with hok|hok<;>omega) fun x h3 hl _ f3=>?_
   refine d3 (by simp;omega) ?_
   exact go _ _ (by simp;omega) f3
  ·have hc:=of_decide_eq_false hc
   refine aj (af s2 hmem (a:=.snap rs.args.length (rs.args.flatMap arE)) rfl ?_)
   refine (RA h2).idx bR hj fun p t=>?_
   refine uS t (by rw[bR];decide) fun p t=>?_
   have t:Pt h2 p (bq rs.args[j].e):=t
   refine aR t (au _).symm ?_
   obtain⟨_,he,hs⟩:=hok.resolve_left (fun h=>hc h.1)
   refine M8 60 (by decide) _ hs he _ _ fun x h3 hl f3=>?_
   exact go _ _ (by omega) f3
 ·refine aP (fun n vs h'=>∃ (j:Nat) (z:Str),vs=[T z,I (j:Nat)]∧n+j=out.length∧z.length≤100+j*130002∧h'=h2) out.length ⟨0,s,rfl,by omega,by omega,rfl⟩ ?_
  rintro m vs h' ⟨j',z,rfl,hm',hz,rfl⟩
  have RO:Row sE 1 h' v out:=by
   obtain⟨hl,⟨rfl,rfl⟩|⟨j,rfl,rfl⟩⟩:=a
   ·exact Row.full (enc:=sE) (sz:=1) (fun _=>rfl) _
   ·exact Row.sl (enc:=sE) (sz:=1) (fun _=>rfl) (s2.get (.head _))
  unfold yA
  refine RO.len (aJ (ah (fun hb=>?_) (fun hb=>?_)))
  ·have hj:j'<out.length:=by have:=of_decide_eq_true hb;omega
   have hx:=ho _ (List.getElem_mem hj)
   refine aA (ah (fun _=>?_) (fun _=>?_))
   ·refine d3 (by simp;omega) ?_
    unfold pg
    refine RO.idx (fun _=>rfl) hj fun p t=>?_
    refine aH t (d3 (by simp;omega) ?_)
    unfold gV pu
    refine aI (by omega) ?_
    exact⟨m-1,by omega,j'+1,_,rfl,by omega,by simp;omega,rfl⟩
   ·refine d3 (by simp;omega) ?_
    unfold pg
    refine RO.idx (fun _=>rfl) hj fun p t=>?_
    refine aH t (d3 (by simp;omega) ?_)
    unfold gV pu
    refine aI (by omega) ?_
    exact⟨m-1,by omega,j'+1,_,rfl,by omega,by simp;omega,rfl⟩
  ·exact q _ _ (by omega) s2.fr
theorem V6 {rs:RS}(hg:BB rs) (q:∀ s h',s.length≤20000000→Fr [] h h'→Q (T s) h'):C uY [.agg (smE 1 rs)] h Q:=by
 refine KN _ _ _ ?_
 unfold Ii
 refine bW (St.start h) rfl fun j1 h1 s1=>?_
 have s1:St h [] h1 [(j1,true,.cells (smE 1 rs))]:=s1
 have j17:∀ (s:Str) (v:AV) (out:List Str) (E:Own) (h2:ae),s.length≤100→okO out→out.length≤1→AccF 1 v out.length (out.flatMap sE) E→St h [] h2 (E++[(j1,true,.cells (smE 1 rs))])→nB v (T s) (.ptr j1 0) h2 Q:=fun s v out E h2 hs ho hn a s2=>by
  unfold nB
  have hmem:(j1,true,.cells (smE 1 rs))∈E++[(j1,true,.cells (smE 1 rs))]:=List.mem_append_right _ (.head _)
  refine aj (af s2 hmem (a:=I (rs.kind:Nat)) rfl ?_)
  refine aA (ah (fun _=>?_) (fun _=>?_))
  ·refine aj (af s2 hmem (a:=T rs.text) rfl (aB rfl rfl ?_))
   refine a.app s2 (xs:=[T rs.text]) (m:=1) (Rd.full rfl) rfl (by omega) fun v3 E3 h8 a3 s8=>?_
   refine Jq (out:=out++[rs.text]) hg hs (fun y hy=>?_) (by simp;omega) (by simpa using a3) s8 q
   rcases List.mem_append.1 hy with hy|hy
   ·exact ho y hy
   ·simp at hy;subst hy;have:=hg.2.1;omega
  ·exact Jq hg hs ho (by omega) a s2 q
 have j18:∀ (s:Str),s.length≤10→ni (T s) (.ptr j1 0) h1 Q:=fun s hs=>by
  unfold ni
  refine aL s1 (.head _) (nle rfl) ?_
  refine Wu hg fun n h2 hn f2=>?_
  have s2:=s1.call f2
  refine d3 (by omega) ?_
  refine aj (af s2 (.head _) (a:=I (rs.kind:Nat)) rfl ?_)
  refine aA (ah (fun _=>?_) (fun _=>?_))
  ·have ht:=hg.2.1
   refine aj (af s2 (.head _) (a:=T rs.text) rfl (d3 (by simp;omega) (d3 (by simp;omega) ?_)))
   refine aB rfl rfl ?_
   refine (AccF.none 1).app (E:=[]) s2 (xs:=[T _]) (m:=1) (Rd.full rfl) rfl (by omega) fun v3 E3 h8 a3 s8=>?_
   refine j17 (s++n) v3 [[34]++rs.text++[34]] E3 h8 (by simp;omega) (fun y hy=>?_) (by simp) a3 s8
   simp at hy;subst hy;simp;omega
  ·exact j17 (s++n) _ [] [] _ (by rw[List.length_append];omega) (fun y hy=>by cases hy) (by simp) (.none 1) s2
 have j19:∀ (s:Str),s.length≤9→nh (T s) (.ptr j1 0) h1 Q:=fun s hs=>by
  unfold nh
  refine aj (af s1 (.head _) (a:=I (rs.kind:Nat)) rfl ?_)
  refine aA (ah (fun _=>q _ _ (by omega) s1.fr) (fun _=>?_))
  refine pU (ah (fun _=>?_) (fun _=>j18 _ (by omega)))
  refine d3 (by simp;omega) (j18 (s++[32]) (by simp;omega))
 have hl:=hg.1
 refine aj (af s1 (.head _) (a:=T rs.lab) rfl ?_)
 refine pU (ah (fun _=>?_) (fun _=>j19 [] (by simp)))
 refine aj (af s1 (.head _) (a:=T rs.lab) rfl (d3 (by simp;omega) (j19 _ (by simp;omega))))
theorem Ew (hW:sK) (hR:xE) {l:List RW}{ns:List Int}{v1 v2:AV}{most:Nat}(ho:∀ r∈l,okW r∧Hh r) (hi:∀ n∈ns,inI n) (hl:l.length≤9223372036854775807) (hm:most≤1000000) (r1:∀ h,Row rwE 6 h v1 l) (r2:∀ h,Row (fun n:Int=>[I n]) 1 h v2 ns)
  (q:∀ s h',s.length≤most→Fr [] h h'→Q (T s) h'):C mn [v1,v2,I (most:Nat)] h Q:=by
 refine Kq _ _ _ _ _ ?_
 unfold Ju
 refine aP (fun n vs h'=>∃ (j:Nat) (s:Str),vs=[T s,I (j:Nat)]∧n+j=l.length∧s.length≤most∧Fr [] h h') l.length ⟨0,[],rfl,by omega,by simp,Fr.refl _ _⟩ ?_
 rintro n vs h1 ⟨j,s,rfl,hn,hs,f1⟩
 unfold Bk
 have j8:j<l.length→∀ k:Int,pv (I k) (T s) (I (j:Nat)) v1 (I (most:Nat)) h1 (fun vs' h'=>∃ m,m<n∧∃ (j:Nat) (s:Str),vs'=[T s,I (j:Nat)]∧m+j=l.length∧s.length≤most∧Fr [] h h') Q:=fun hj k=>by
  unfold pv
  refine (r1 h1).idx tH hj fun p t=>?_
  refine aR t (tH _).symm ?_
  obtain⟨hw,hf⟩:=ho _ (List.getElem_mem hj)
  refine Va hW hR hw hf fun rs h2 hg f2=>?_
  refine V6 hg fun x h3 hx f3=>?_
  have f:=f1.trans (f2.trans f3 (by simp)) (by simp)
  have b7:∀ x:Str,x.length≤20000100→jD (T x) (T s) (I (j:Nat)) (I (most:Nat)) h3 (fun vs' h'=>∃ m,m<n∧∃ (j:Nat) (s:Str),vs'=[T s,I (j:Nat)]∧m+j=l.length∧s.length≤most∧Fr [] h h') Q:=fun x hx=>by
   unfold jD zZ
   refine bf (bf (aI (by omega) (aI (by omega) ?_)))
   refine bx (ah (fun _=>?_) (fun hb=>?_))
   ·unfold pt uX
    exact q _ _ hs f
   ·have hb:=of_decide_eq_false hb
    refine d3 (by omega) (d3 (by simp;omega) ?_)
    refine aI (by omega) ?_
    exact⟨n-1,by omega,j+1,_,rfl,by omega,by simp;omega,f⟩
  refine aA (ah (fun _=>b7 [] (by simp)) (fun _=>?_))
  refine aA (ah (fun _=>?_) (fun _=>?_))
  ·exact d3 (by simp;omega) (b7 _ (by simp;omega))
  refine aA (ah (fun _=>?_) (fun _=>b7 _ (by omega)))
  exact d3 (by simp;omega) (d3 (by simp;omega) (b7 _ (by simp;omega)))
 refine (r1 h1).len (aJ (ah (fun hb=>?_) (fun hb=>?_)))
 ·have hj:j<l.length:=by have:=of_decide_eq_true hb;omega
  refine (r2 h1).len (aJ (ah (fun hc=>?_) (fun _=>j8 hj _)))
  have hj2:j<ns.length:=by have:=of_decide_eq_true hc;omega
  refine (r2 h1).idx (fun _=>rfl) hj2 fun p t=>?_
  refine aH t ?_
  refine bp (by decide) (by decide) (hi _ (List.getElem_mem hj2)) ?_
  exact j8 hj _
 ·unfold pt uX
  exact q _ _ hs f1
end
end
section
structure Shp where
 a:List RW
 b:List RW
 c:List RW
 ns:List Int
 ys:List Int
section
variable [Tabs]
variable {h h0:ae}{M:List Nat}{R:Own}{Q:QT}{K:AV→Prop}{i:Nat}
abbrev rwV (l:List RW):AV:=.snap l.length (l.flatMap rwE)
abbrev inV (l:List Int):AV:=.snap l.length (l.flatMap fun n=>[I n])
def shE (s:Shp):List AV:=[rwV s.a,rwV s.b,rwV s.c,inV s.ns,inV s.ys]
def ZP (s:Shp):Prop:=((∀ r∈s.a,okW r)∧(∀ r∈s.b,okW r)∧(∀ r∈s.c,okW r)∧(∀ n∈s.ns,inI n)∧(∀ n∈s.ys,inI n))∧(s.a.length≤9223372036854775807∧s.b.length≤9223372036854775807∧s.c.length≤9223372036854775807∧s.ns.length≤9223372036854775807∧s.ys.length≤9223372036854775807)
def ZO (s:Shp):Prop:=(∀ r∈s.a,Hh r)∧(∀ r∈s.b,Hh r)∧(∀ r∈s.c,Hh r)
theorem Yj {s:Shp}(ho:ZP s) (k1:ZO s→∀ h',Fr [] h h'→Q (B true) h') (k0:∀ h',Fr [] h h'→Q (B false) h'):C lR [.agg (shE s)] h Q:=by
 obtain⟨⟨o1,o2,o3,o4,o5⟩,l1,l2,l3,l4,l5⟩:=ho
 refine AQ _ _ _ ?_
 unfold wS
 refine bW (St.start h) rfl fun j h1 s1=>?_
 have s1:St h [] h1 [(j,true,.cells (shE s))]:=s1
 have RA:∀ (l:List RW),Row rwE 6 h1 (rwV l) l:=fun l=>Row.snap tH l
 refine aj (af s1 (.head _) (a:=rwV s.a) rfl ?_)
 refine (RA _).len ?_
 refine aj (af s1 (.head _) (a:=rwV s.b) rfl ?_)
 refine (RA _).len (D3 ?_)
 refine aj (af s1 (.head _) (a:=rwV s.c) rfl ?_)
 refine (RA _).len (D3 ?_)
 refine fl (ah (fun hb=>?_) (fun _=>k0 _ s1.fr))
 refine aj (af s1 (.head _) (a:=rwV s.a) rfl ?_)
 refine Ly (by omega) o1 (RA _) (fun f1=>?_) (ah (fun h=>by cases h) (fun _=>k0 _ s1.fr))
 refine ah (fun _=>?_) (fun h=>by cases h)
 refine aj (af s1 (.head _) (a:=rwV s.b) rfl ?_)
 refine Ly (by omega) o2 (RA _) (fun f2=>?_) (ah (fun h=>by cases h) (fun _=>k0 _ s1.fr))
 refine ah (fun _=>?_) (fun h=>by cases h)
 refine aj (af s1 (.head _) (a:=rwV s.c) rfl ?_)
 refine Ly (by omega) o3 (RA _) (fun f3=>?_) (ah (fun h=>by cases h) (fun _=>k0 _ s1.fr))
 refine ah (fun _=>?_) (fun h=>by cases h)
 refine aj (af s1 (.head _) (a:=inV s.ns) rfl ?_)
 have RI:Row (fun n:Int=>[I n]) 1 h1 (inV s.ns) s.ns:=Row.snap (enc:=fun n:Int=>[I n]) (sz:=1) (fun _=>rfl) _
 refine RI.len (fl ?_)
 generalize decide ((s.ns.length:Int)≤60)=d
 cases d
 ·exact k0 _ s1.fr
 ·exact k1 ⟨f1,f2,f3⟩ _ s1.fr
theorem U6 {l:List Int}{v:AV}(hi:∀ n∈l,inI n) (r:∀ h,Row (fun n:Int=>[I n]) 1 h v l) (q:∀ (ys:List Sy) h',ys.length≤4→Fr [] h h'→Q (.snap ys.length (ys.flatMap syE)) h'):C uB [v] h Q:=by
 refine ACall.conv ?_
 refine La _ _ _ ?_
 unfold IV
 refine aP (fun n vs h'=>∃ (j:Nat) (w:AV) (ys:List Sy) (E:Own),vs=[w,I (j:Nat)]∧n+j=4∧ys.length≤j∧AccE 2 w ys.length (ys.flatMap syE) E∧St h [] h' (E++[])) 4 ⟨0,_,[],[],rfl,rfl,by simp,.none 2,St.start h⟩ ?_
 rintro n vs h1 ⟨j,w,ys,E,rfl,hn,hy,a,s1⟩
 unfold A6
 have fin:∃ r2 h2,Conv w h1 r2 h2∧Q r2 h2:=a.conv s1 fun h' s'=>q ys h' (by omega) s'.fr
 refine (r h1).len (aJ (ah (fun hb=>?_) (fun _=>fin)))
 have hj:j<l.length:=by have:=of_decide_eq_true hb;omega
 refine aJ (ah (fun hc=>?_) (fun _=>fin))
 have hj4:j<4:=by have:=of_decide_eq_true hc;omega
 refine (r h1).idx (fun _=>rfl) hj fun p t=>aH t ?_
 refine gC (by decide) (by decide) (hi _ (List.getElem_mem hj)) ?_
 have next:∀ (w2:AV) (ys2:List Sy) (E2:Own) (h2:ae),ys2.length≤j+1→AccE 2 w2 ys2.length (ys2.flatMap syE) E2→St h [] h2 (E2++[])→o6 w2 (I (j:Nat)) h2 (fun vs' h'=>∃ m,m<n∧∃ (j:Nat) (w:AV) (ys:List Sy) (E:Own),vs'=[w,I (j:Nat)]∧m+j=4∧ys.length≤j∧AccE 2 w ys.length (ys.flatMap syE) E∧St h [] h' (E++[])):=fun w2 ys2 E2 h2 hl a2 s2=>by
  unfold o6 BD
  refine aI (by omega) ?_
  exact⟨n-1,by omega,j+1,w2,ys2,E2,rfl,by omega,hl,a2,s2⟩
 refine bx (ah (fun _=>?_) (fun _=>next w ys E h1 (by omega) a s1))
 refine aB rfl rfl ?_
 refine (r h1).idx (fun _=>rfl) hj fun p t=>aH t ?_
 have hx:=hi _ (List.getElem_mem hj)
 generalize l[j]=x at hx t ⊢
 have hq:inI (x.tdiv 5):=by
  have:(x.tdiv 5).natAbs=x.natAbs / 5:=by rw[Int.natAbs_tdiv];rfl
  unfold inI at hx ⊢;omega
 refine tJ (by decide) hq ?_
 refine yy _ _ ?_
 unfold yZ
 refine aB rfl rfl ?_
 refine⟨aH t rfl,?_⟩
 have RM:Row sE 1 h1 (.full 4 [T [98,97,115,101],T [120],T [101,110,100,95,49],T [114]]) [[98,97,115,101],[120],[101,110,100,95,49],[114]]:=Row.full (enc:=sE) (sz:=1) (h:=h1) (fun _=>rfl) [[98,97,115,101],[120],[101,110,100,95,49],[114]]
 refine RM.idx (fun _=>rfl) (j:=j) (by simpa using hj4) fun p2 t2=>?_
 generalize ([[98,97,115,101],[120],[101,110,100,95,49],[114]]:List Str)[j]'(by simpa using hj4)=nm at t2
 have t2:Pt h1 p2 [T nm]:=t2
 refine aH t2 ?_
 refine gC (by decide) (by decide) hq ⟨aH t2 rfl,?_⟩
 obtain⟨m,hm⟩:=Int.eq_ofNat_of_zero_le (Int.emod_nonneg (x.tdiv 5) (show (8:Int)≠0 by decide))
 have hm2:m<8:=by have:=Int.emod_lt_of_pos (x.tdiv 5) (show (0:Int)<8 by decide);omega
 rw[hm]
 have RK:Row (fun n:Int=>[I n]) 1 h1 (.full 8 [I 0,I 1,I (-1),I 1099511627776,I (-1099511627776),I 100,I 3,I 1048576]) [0,1,-1,1099511627776,-1099511627776,100,3,1048576]:=Row.full (enc:=fun n:Int=>[I n]) (sz:=1) (h:=h1) (fun _=>rfl) [0,1,-1,1099511627776,-1099511627776,100,3,1048576]
 refine RK.idx (fun _=>rfl) (j:=m) (by simpa using hm2) fun p3 t3=>?_
 generalize ([0,1,-1,1099511627776,-1099511627776,100,3,1048576]:List Int)[m]'(by simpa using hm2)=vl at t3
 have t3:Pt h1 p3 [I vl]:=t3
 refine aH t3 ?_
 refine aD rfl (aB rfl rfl ?_)
 refine a.app s1 (xs:=[T nm,I vl]) (m:=1) (Rd.full rfl) rfl (by omega) fun w2 E2 h2 a2 s2=>?_
 exact next w2 (ys++[(nm,vl)]) E2 h2 (by simp;omega) (by simpa [syE] using a2) s2
def P3 (ta tb tc:Str):List Fg:=[([109,97,105,110],ta),([109,111,114,101],tb),([122],tc)]
theorem VO (hW:sK) (hR:xE) {s:Shp}(ho:ZP s) (hf:ZO s) (q:∀ ta tb tc (ys:List Sy) h',ta.length≤600→tb.length≤600→tc.length≤600→ys.length≤4→Fr [] h h'→Q (.tup [.full 3 ((P3 ta tb tc).flatMap frE),.snap ys.length (ys.flatMap syE)]) h'):C kX [.agg (shE s)] h Q:=by
 obtain⟨⟨o1,o2,o3,o4,o5⟩,l1,l2,l3,l4,l5⟩:=ho
 obtain⟨f1,f2,f3⟩:=hf
 refine zt _ _ _ ?_
 unfold vk
 refine bW (St.start h) rfl fun j h1 s1=>?_
 have s1:St h [] h1 [(j,true,.cells (shE s))]:=s1
 have RA:∀ (l:List RW) h,Row rwE 6 h (rwV l) l:=fun l h=>Row.snap tH l
 have RI:∀ (l:List Int) h,Row (fun n:Int=>[I n]) 1 h (inV l) l:=fun l h=>Row.snap (enc:=fun n:Int=>[I n]) (sz:=1) (fun _=>rfl) _
 refine aj (af s1 (.head _) (a:=rwV s.a) rfl ?_)
 refine aj (af s1 (.head _) (a:=inV s.ns) rfl ?_)
 refine aj (af s1 (.head _) (a:=rwV s.b) rfl ?_)
 refine aj (af s1 (.head _) (a:=inV s.ns) rfl ?_)
 refine aj (af s1 (.head _) (a:=rwV s.c) rfl ?_)
 refine Ew hW hR (most:=600) (l:=s.a) (ns:=s.ns) (fun r hr=>⟨o1 r hr,f1 r hr⟩) o4 (by omega) (by decide) (RA _) (RI _) fun ta h2 la g2=>?_
 have s2:=s1.call g2
 refine⟨af s2 (.head _) rfl rfl,af s2 (.head _) rfl rfl,af s2 (.head _) rfl rfl,?_⟩
 refine aD rfl ?_
 refine Ew hW hR (most:=600) (l:=s.b) (ns:=s.ns) (fun r hr=>⟨o2 r hr,f2 r hr⟩) o4 (by omega) (by decide) (RA _) (RI _) fun tb h3 lb g3=>?_
 have s3:=s2.call g3
 refine⟨af s3 (.head _) rfl rfl,?_⟩
 refine aD rfl ?_
 refine Ew hW hR (most:=600) (l:=s.c) (ns:=[]) (fun r hr=>⟨o3 r hr,f3 r hr⟩) (fun n hn=>by cases hn) (by omega) (by decide) (RA _) (fun h=>Row.nil) fun tc h4 lc g4=>?_
 have s4:=s3.call g4
 refine aD rfl (aB rfl rfl ?_)
 refine aj (af s4 (.head _) (a:=inV s.ys) rfl ?_)
 refine U6 o5 (RI _) fun ys h5 ly g5=>?_
 exact q ta tb tc ys h5 la lb lc ly (s4.call g5).fr
end
end
section
def leD (a b:Str×Nat):Prop:=¬ b.1<a.1∧(a.1=b.1→a.2≤b.2)
theorem XF (a:Str×Nat):leD a a:=⟨List.lt_irrefl _,fun _=>Nat.le_refl _⟩
def of (e:En):Str×Nat:=(e.frag,e.x.1)
def xY (d:Dg):Str×Nat:=(d.1,d.2.1)
def partL:List Int:=[0,1,2,3,5,5,5,5,4]
structure abw (P:Int) (ds:List Dg):Prop where
 part:∀ d∈ds,∃ c:Nat,d.2.2=c∧1≤c∧c≤8∧partL[c]?=some P
 pw:ds.Pairwise fun a b=>leD (xY a) (xY b)
theorem JR {k:Str×Nat}:∀ l:List Dg,(∀ d∈l,xY d=k)→l.Pairwise fun a b=>leD (xY a) (xY b)
 | [],_=>.nil
 | a::l,h=>.cons (fun b hb=>by rw[h a (.head _),h b (.tail _ hb)];exact XF _) (JR l fun d hd=>h d (.tail _ hd))
theorem RY {g:En→List Dg}(hg:∀ e,∀ d∈g e,xY d=of e) {es:List En}(h:es.Pairwise fun a b=>leD (of a) (of b)):(es.flatMap g).Pairwise fun a b=>leD (xY a) (xY b):=by
 rw[List.pairwise_flatMap]
 exact⟨fun e _=>JR _ (hg e),h.imp fun hab x hx y hy=>by rw[hg _ _ hx,hg _ _ hy];exact hab⟩
section
variable [Tabs]
theorem R6 {α:Type}{f:Str→Nat→List α}{num:α→Nat}(hf:∀ x i,∀ a∈f x i,num a=i+1) (ls:List Str) (n:Nat):(yS f ls n).Pairwise fun a b=>num a≤num b:=by
 unfold yS
 rw[List.pairwise_flatMap]
 refine⟨fun i _=>?_,List.pairwise_lt_range.imp fun hab x hx y hy=>by rw[hf _ _ _ hx,hf _ _ _ hy];omega⟩
 have hf:=hf ((ls[i]?).getD []) i
 generalize f ((ls[i]?).getD []) i=l at hf
 induction l with
 | nil=>exact .nil
 | cons a l ih=>exact .cons (fun b hb=>by rw[hf a (.head _),hf b (.tail _ hb)];exact Nat.le_refl _) (ih fun d hd=>hf d (.tail _ hd))
theorem T5 (s:Str):(og s).Pairwise fun a b=>a.1≤b.1:=R6 (num:=Prod.fst) (fun x i a ha=>by
 unfold stm at ha
 split at ha
 ·simp at ha;rw[ha]
 ·cases ha) _ _
theorem Td (s:Str):(sB s).Pairwise fun a b=>a≤b:=R6 (num:=id) (fun x i a ha=>by
 unfold D0 at ha
 split at ha
 ·simp at ha;rw[ha];rfl
 ·cases ha) _ _
theorem Ve {a b:Str×Nat}(h:a.1<b.1):leD a b:=⟨List.lt_asymm h,fun e=>by rw[e]at h;exact (List.lt_irrefl _ h).elim⟩
theorem Xb {frags:List Fg}(h:frags.Pairwise fun a b=>a.1<b.1):(fh frags).Pairwise fun a b=>leD (of a) (of b):=by
 unfold fh
 rw[List.pairwise_flatMap]
 refine⟨fun x _=>?_,h.imp fun {x y} hxy a ha b hb=>?_⟩
 ·unfold th
  rw[List.pairwise_map]
  exact (T5 x.2).imp fun hab=>⟨List.lt_irrefl _,fun _=>hab⟩
 ·unfold th at ha hb
  obtain⟨s,_,rfl⟩:=List.mem_map.1 ha
  obtain⟨t,_,rfl⟩:=List.mem_map.1 hb
  exact Ve hxy
theorem W7 {frags:List Fg}(h:frags.Pairwise fun a b=>a.1<b.1):(tn frags).Pairwise fun a b=>leD (xY a) (xY b):=by
 unfold tn
 rw[List.pairwise_flatMap]
 refine⟨fun x _=>?_,h.imp fun {x y} hxy a ha b hb=>?_⟩
 ·unfold tp
  rw[List.pairwise_map]
  exact (Td x.2).imp fun hab=>⟨List.lt_irrefl _,fun _=>hab⟩
 ·unfold tp at ha hb
  obtain⟨s,_,rfl⟩:=List.mem_map.1 ha
  obtain⟨t,_,rfl⟩:=List.mem_map.1 hb
  exact Ve hxy
theorem YZ (e:En) (st:TwS) (n:Str):∃ l,(twN e st n).2=st.2++l∧∀ d∈l,d=(e.frag,e.x.1,2):=by
 unfold twN
 split
 ·exact⟨[],by simp,by simp⟩
 ·simp only
  split
  ·exact⟨_,rfl,by simp⟩
  ·exact⟨[],by simp,by simp⟩
theorem RU (e:En):∀ (ns:List Str) (st:TwS),∃ l,(ns.foldl (twN e) st).2=st.2++l∧∀ d∈l,d=(e.frag,e.x.1,2)
 | [],st=>⟨[],by simp,by simp⟩
 | n::ns,st=>by
   obtain⟨l1,h1,g1⟩:=YZ e st n
   obtain⟨l2,h2,g2⟩:=RU e ns (twN e st n)
   refine⟨l1++l2,by rw[List.foldl_cons,h2,h1,List.append_assoc],fun d hd=>?_⟩
   rcases List.mem_append.1 hd with hd|hd
   ·exact g1 d hd
   ·exact g2 d hd
theorem XT:∀ (es:List En) (st:TwS),(es.Pairwise fun a b=>leD (of a) (of b))→∃ l,(es.foldl twE st).2=st.2++l∧(∀ d∈l,d.2.2=2∧∃ e∈es,xY d=of e)∧l.Pairwise fun a b=>leD (xY a) (xY b)
 | [],st,_=>⟨[],by simp,by simp,.nil⟩
 | e::es,st,h=>by
   rw[List.pairwise_cons]at h
   obtain⟨l1,h1,g1⟩:=RU e (nr e) st
   obtain⟨l2,h2,g2,p2⟩:=XT es (twE st e) h.2
   refine⟨l1++l2,by rw[List.foldl_cons,h2];unfold twE;rw[h1,List.append_assoc],fun d hd=>?_,?_⟩
   ·rcases List.mem_append.1 hd with hd|hd
    ·rw[g1 d hd];exact⟨rfl,e,.head _,rfl⟩
    ·obtain⟨k1,e2,k2,k3⟩:=g2 d hd
     exact⟨k1,e2,.tail _ k2,k3⟩
   ·rw[List.pairwise_append]
    refine⟨JR (k:=of e) l1 fun d hd=>by rw[g1 d hd];rfl,p2,fun a ha b hb=>?_⟩
    obtain⟨_,e2,k2,k3⟩:=g2 b hb
    rw[g1 a ha,k3]
    exact h.1 e2 k2
theorem Dt (f:Str→Option Int):∀ (es:List En) (st:List En×Int),(es.foldl (kP f) st).1.map of=st.1.map of++es.map of
 | [],st=>by simp
 | e::es,st=>by rw[List.foldl_cons,Dt f es];simp[kP,tw,of]
theorem CD (f:Str→Option Int) (es:List En):(ij f es).1.map of=es.map of:=by
 unfold ij cW
 simp only
 rw[Dt];simp
theorem GI (f:Str→Option Int):∀ (n:Nat) (es:List En),(iP f n es).1.map of=es.map of
 | 0,es=>CD f es
 | n+1,es=>by
   unfold iP
   split
   ·rw[GI f n,List.map_map]
    have:(of ∘ kZ (ij f es).2.1)=of:=by funext e;simp only[Function.comp,kZ,of];split<;>rfl
    rw[this,CD]
   ·exact CD f es
theorem m5 (n:Int):(fm n).2=0∨(fm n).2=6:=by unfold fm;split<;>simp
theorem P9 (a b:Int):(rt a b).2=0∨(rt a b).2=6:=by
 unfold rt
 repeat' split
 all_goals first|exact m5 _|simp
theorem TQ (k:Nat) (a b:Int):(yi k a b).2=0∨(yi k a b).2=6:=by
 unfold yi
 repeat' split
 all_goals first|exact m5 _|exact P9 _ _|simp
theorem xH (here:Int) (look:Str→Option Int):∀ e:Ex,(br here look e).2=0∨(br here look e).2=4∨(br here look e).2=6
 | .none=>by simp[br]
 | .num n=>by have:=m5 n;unfold br;omega
 | .name s=>by
   unfold br
   split
   ·rename_i y _;have:=m5 y;omega
   ·simp
 | .here=>by have:=m5 here;unfold br;omega
 | .neg e=>by
   have ih:=xH here look e
   unfold br
   split
   ·exact ih
   ·have:=m5 (-(br here look e).1);omega
 | .bin k a b=>by
   have h1:=xH here look a
   have h2:=xH here look b
   unfold br
   split
   ·exact h1
   ·split
    ·exact h2
    ·have:=TQ k (br here look a).1 (br here look b).1;omega
theorem NZ (here:Int) (f:Str→Option Int) (az:List Ar):(bc here f az).2=0∨(bc here f az).2=4∨(bc here f az).2=6:=by
 unfold bc
 split
 ·rename_i a _
  unfold qo
  split
  ·exact xH _ _ _
  ·simp
 ·simp
theorem Qo (f:Str→Option Int) (es:List En) (e:En):qk f es e=0∨qk f es e=4∨qk f es e=5∨qk f es e=6∨qk f es e=7:=by
 have:=NZ e.place f e.x.2.args
 unfold qk
 repeat' split
 all_goals omega
theorem U5 {frags:List Fg}{syms:List Sy}(h:frags.Pairwise fun a b=>a.1<b.1):∃ P,abw P (iT frags syms):=by
 have hE:=Xb h
 unfold iT
 split
 ·refine⟨1,fun d hd=>⟨1,?_,by decide,by decide,rfl⟩,W7 h⟩
  unfold tn tp at hd
  obtain⟨x,_,hx⟩:=List.mem_flatMap.1 hd
  obtain⟨t,_,rfl⟩:=List.mem_map.1 hx
  rfl
 split
 ·obtain⟨l,h1,h2,h3⟩:=XT (fh frags) (tw0 (gQ syms)) hE
  have e:tM (gQ syms) (fh frags)=l:=by unfold tM;rw[h1];rfl
  rw[e]
  exact⟨2,fun d hd=>⟨2,(h2 d hd).1,by decide,by decide,rfl⟩,h3⟩
 split
 ·refine⟨3,fun d hd=>⟨3,?_,by decide,by decide,rfl⟩,RY (fun e d hd=>?_) hE⟩
  ·obtain⟨e,_,hx⟩:=List.mem_flatMap.1 hd
   unfold szD at hx
   split at hx
   ·simp at hx;rw[hx];rfl
   ·cases hx
  ·unfold szD at hd
   split at hd
   ·simp at hd;rw[hd];rfl
   ·cases hd
 split
 ·exact⟨4,fun d hd=>⟨8,by simp at hd;rw[hd];rfl,by decide,by decide,rfl⟩,by simp⟩
 ·have hk:(cJ frags syms).1.map of=(fh frags).map of:=GI _ _ _
  have hP:(cJ frags syms).1.Pairwise fun a b=>leD (of a) (of b):=by
   rw[← List.pairwise_map (f:=of) (R:=leD),hk,List.pairwise_map];exact hE
  refine⟨5,fun d hd=>?_,RY (fun e d hd=>?_) hP⟩
  ·obtain⟨e,_,hx⟩:=List.mem_flatMap.1 hd
   unfold chD at hx
   split at hx
   ·rename_i hne
    simp at hx;rw[hx]
    have hw:=Qo (cJ frags syms).2.1 (cJ frags syms).1 e
    simp only
    rcases hw with hw|hw|hw|hw|hw
    ·exact (hne hw).elim
    ·exact⟨4,hw,by decide,by decide,rfl⟩
    ·exact⟨5,hw,by decide,by decide,rfl⟩
    ·exact⟨6,hw,by decide,by decide,rfl⟩
    ·exact⟨7,hw,by decide,by decide,rfl⟩
   ·cases hx
  ·unfold chD at hd
   split at hd
   ·simp at hd;rw[hd];rfl
   ·cases hd
end
end
section
variable [Tabs]
def Gd (f:PF):Prop:=∀ l x l',f l=some (x,l')→okE x∧bn x+l'.length≤l.length
theorem Jy:∀ (ks:List Nat) (l:Str),(dt ks l).1=0∨(dt ks l).1∈ks
 | [],l=>.inl rfl
 | k::ks,l=>by
   unfold dt
   split
   ·exact .inr (.head _)
   ·rcases Jy ks (blk l) with h|h
    ·exact .inl h
    ·exact .inr (.tail _ h)
theorem NG {sub:PF}(hs:Gd sub) (ks:List Nat) (hk:∀ k∈ks,(sg k)≠[]) (hb:∀ k∈ks,5≤k∧k≤11):∀ n x l y l',eK sub ks n x l=some (y,l')→okE x→okE y∧bn y+l'.length≤bn x+l.length
 | 0,x,l,y,l',e,hx=>by
   have:=(pC ks hk l).1
   unfold eK at e
   split at e
   ·cases e;exact⟨hx,by omega⟩
   ·cases e
 | n+1,x,l,y,l',e,hx=>by
   have h0:=pC ks hk l
   unfold eK at e
   split at e
   ·cases e;exact⟨hx,by omega⟩
   ·rename_i hne
    split at e
    ·cases e
    ·rename_i z l2 h2
     obtain⟨h3,h4⟩:=hs _ _ _ h2
     have hm:=(Jy ks l).resolve_left hne
     have:=NG hs ks hk hb n _ _ _ _ e ⟨hb _ hm,hx,h3⟩
     have h5:=h0.2 hne
     simp only[bn]at this
     exact⟨this.1,by omega⟩
theorem WJ:∀ ks∈levelsL,∀ k∈ks,5≤k∧k≤11:=by decide
theorem Kk {one:PF}(ho:Gd one):∀ r,r≤5→Gd (gv one r)
 | 0,_=>ho
 | r+1,hr=>fun l x l' e=>by
   unfold gv at e
   have ih:=Kk ho r (by omega)
   cases h:gv one r l with
   | none=>rw[h]at e;cases e
   | some p=>
     obtain⟨y,l1⟩:=p
     rw[h]at e
     obtain⟨h1,h2⟩:=ih _ _ _ h
     have hl:=Jb (r:=4-r) (by omega)
     have:=NG ih _ (xG _ hl).1 (WJ _ hl) _ _ _ _ _ e h1
     exact⟨this.1,by omega⟩
theorem TV {two:PF}(h2:Gd two):Gd (gy two):=fun l x l' e=>by
 unfold gy at e
 cases h:two l with
 | none=>rw[h]at e;cases e
 | some p=>
   obtain⟨y,l1⟩:=p
   rw[h]at e
   obtain⟨h1,h3⟩:=h2 _ _ _ h
   have hb:(blk l1).length≤l1.length:=mU 32 l1
   simp only at e
   split at e
   ·cases e;exact⟨h1,by simp;omega⟩
   ·cases e
theorem Dr (base:Nat) (l ds:Str) (hd:ds≠[]) (hl:ds.length≤l.length) {x:Ex}{l':Str}(e:eW base l ds=some (x,l')):okE x∧bn x+l'.length≤l.length:=by
 have:0<ds.length:=List.length_pos_iff.2 hd
 unfold eW at e
 split at e
 ·cases e
 ·split at e
  ·cases e;exact⟨trivial,by simp[bn];omega⟩
  ·cases e
theorem CS {p:UInt8→Bool}:∀ l:Str,(l.takeWhile p).length≤l.length:=fun l=>(List.takeWhile_prefix p).length_le
theorem Su:Gd EM:=fun l x l' e=>by
 unfold EM at e
 split at e
 ·rename_i h
  exact Dr _ _ _ h (CS _) e
 ·split at e
  ·rename_i h
   cases e
   have hn:fP l≠[]:=fun h0=>by rw[h0]at h;cases h
   have h1:=List.length_pos_iff.2 hn
   have h2:(fP l).length≤l.length:=CS _
   exact⟨trivial,by simp[bn];omega⟩
  ·cases e
theorem WW:Gd Al:=fun l x l' e=>by
 unfold Al at e
 split at e
 ·split at e
  ·rename_i h
   have:=Dr _ _ _ h (CS _) e
   simp at this;exact⟨this.1,by omega⟩
  ·exact Su _ _ _ e
 ·exact Su _ _ _ e
theorem Sc {c:UInt8}{l:Str}(h:([c]:Str).isPrefixOf l=true):0<l.length:=by
 cases l<;>simp_all [List.isPrefixOf]
theorem Nv {group minus:PF}(hg:Gd group) (hm:∀ l x l',minus l=some (x,l')→okE x∧bn x+l'.length≤l.length+1):Gd (rk group minus):=fun l x l' e=>by
 have hb:(blk l).length≤l.length:=mU 32 l
 unfold rk at e
 split at e
 ·have:=hg _ _ _ e;simp at this;exact⟨this.1,by omega⟩
 ·split at e
  ·rename_i h
   have h1:=Sc h
   have:=hm _ _ _ e;simp at this;exact⟨this.1,by omega⟩
  ·split at e
   ·rename_i h
    have h1:=Sc h
    cases e;exact⟨trivial,by simp[bn];omega⟩
   ·have:=WW _ _ _ e;exact⟨this.1,by omega⟩
theorem UL {one:PF}(h2:Gd one):∀ l x l',eC one l=some (x,l')→okE x∧bn x+l'.length≤l.length+1:=fun l x l' e=>by
 unfold eC at e
 cases h:one l with
 | none=>rw[h]at e;cases e
 | some p=>
   obtain⟨y,l1⟩:=p
   rw[h]at e
   cases e
   obtain⟨h3,h4⟩:=h2 _ _ _ h
   exact⟨h3,by simp[bn];omega⟩
theorem Ln:∀ d,Gd (Ao d)
 | 0=>Nv (fun l x l' e=>by cases e) (fun l x l' e=>by cases e)
 | d+1=>Nv (TV (Kk (Ln d) 5 (Nat.le_refl _))) (UL (Ln d))
theorem Th {s:Str}{x:Ex}(h:gD s=some x):okE x∧bn x≤s.length:=by
 unfold gD at h
 split at h
 ·cases h
 ·rename_i y l' e
  split at h
  ·cases h
   have:=Kk (Ln 12) 5 (Nat.le_refl _) _ _ _ e
   exact⟨this.1,by omega⟩
  ·cases h
theorem Zo {s:Str}(h:(ya s).2=true):(ya s).1<32:=by
 unfold ya at h ⊢
 split at h
 ·split at h
  ·rename_i hc
   rw[if_pos hc]
   exact of_decide_eq_true h
  ·cases h
 ·cases h
abbrev okB (N:Nat) (a:Ar):Prop:=okE a.e∧bn a.e≤N+1∧a.reg<1000
def Bi:Way→Bool
 | .word=>true
 | _=>false
theorem VL (N:Nat):∀ (ws:List Way) (l:List Str) (rs rs':RS),goW ws l rs=(rs',true)→l.length=ws.length→(∀ s∈l,s.length≤N)→(∀ a∈rs.args,okB N a)→rs.text.length≤N→
  rs'.kind=rs.kind∧rs'.op=rs.op∧rs'.args.length=rs.args.length+(ws.filter fun w=>!Bi w).length∧(∀ a∈rs'.args,okB N a)∧rs'.text.length≤N
 | [],l,rs,rs',h,hl,hs,ha,ht=>by
   simp only[goW,Prod.mk.injEq,and_true]at h
   subst h;exact⟨rfl,rfl,by simp,ha,ht⟩
 | w::ws,[],rs,rs',h,hl,hs,ha,ht=>by simp at hl
 | w::ws,s::ss,rs,rs',h,hl,hs,ha,ht=>by
   unfold goW at h
   split at h
   ·rename_i hw
    have hsl:=hs s (.head _)
    have step:(jH w s rs).1.kind=rs.kind∧(jH w s rs).1.op=rs.op∧(jH w s rs).1.args.length=rs.args.length+(if Bi w then 0 else 1)∧(∀ a∈(jH w s rs).1.args,okB N a)∧(jH w s rs).1.text.length≤N:=by
     cases w with
     | value=>
       simp only[jH]at hw ⊢
       cases hp:gD s with
       | none=>rw[hp]at hw;cases hw
       | some x=>
         have:=Th hp
         refine⟨rfl,rfl,by simp[Bi],fun a h=>?_,ht⟩
         rcases List.mem_append.1 h with h|h
         ·exact ha a h
         ·simp at h;subst h;exact⟨this.1,by show bn x≤_;omega,by show (-1:Int)<1000;omega⟩
     | reg=>
       simp only[jH]at hw ⊢
       have:=Zo hw
       refine⟨by trivial,by trivial,by simp[Bi],fun a h=>?_,ht⟩
       rcases List.mem_append.1 h with h|h
       ·exact ha a h
       ·simp at h;subst h;exact⟨trivial,by simp[bn],by show (((ya s).1:Nat):Int)<1000;omega⟩
     | word=>
       simp only[jH]at hw ⊢
       exact⟨by trivial,by trivial,by simp[Bi],ha,hsl⟩
    obtain⟨h1,h2,h3,h4,h5⟩:=step
    obtain⟨g1,g2,g3,g4,g5⟩:=VL N ws ss _ rs' h (by simpa using hl) (fun x hx=>hs x (.tail _ hx)) h4 h5
    refine⟨g1.trans h1,g2.trans h2,?_,g4,g5⟩
    rw[g3,h3]
    cases w<;>simp[Bi]<;>omega
   ·cases h
theorem Yc {N:Nat}{ws:List Way}{l:List Str}{rs:RS}(h:(nM l ws rs).2=true) (hs:∀ s∈l,s.length≤N) (ha:rs.args=[]) (ht:rs.text.length≤N):
  (nM l ws rs).1.kind=rs.kind∧(nM l ws rs).1.op=rs.op∧(nM l ws rs).1.args.length=(ws.filter fun w=>!Bi w).length∧(∀ a∈(nM l ws rs).1.args,okB N a)∧(nM l ws rs).1.text.length≤N:=by
 unfold nM at h ⊢
 split at h
 ·rename_i hl
  rw[if_pos hl]
  have:=VL N ws l rs (goW ws l rs).1 (by rw[← h]) hl hs (by rw[ha];simp) ht
  rw[ha]at this
  simpa using this
 ·cases h
theorem Mu (s:Str):∀ x∈bX s,x.length≤s.length:=fun x hx=>by
 unfold bX at hx
 split at hx
 ·cases hx
 ·rw[List.mem_map]at hx
  obtain⟨y,hy,rfl⟩:=hx
  have h3:=je 44 s y hy
  have h4:=p9 y
  omega
theorem SQ (l:List Str):((l.map ln).filter fun w=>!Bi w).length=l.length:=by
 rw[List.filter_eq_self.2]
 ·simp
 ·intro w hw
  obtain⟨k,_,rfl⟩:=List.mem_map.1 hw
  unfold ln;split<;>rfl
theorem Rb (n:Nat):((List.replicate n Way.value).filter fun w=>!Bi w).length=n:=by
 rw[List.filter_eq_self.2]
 ·simp
 ·intro w hw
  rw[(List.mem_replicate.1 hw).2];rfl
theorem UJ:∀ n,n<3→(cK (bj (ir n))).length≤1+n / 2*2∧(cK (bj (po n))).length≤1+n / 2*2:=by decide
theorem WB {N:Nat}(hN:N≤100000) {name rest:Str}{lab:Str}(hr:rest.length≤N) (h:(vU name rest (rs0 lab)).2=true):WfS (vU name rest (rs0 lab)).1:=by
 have hop:∀ s∈bX rest,s.length≤N:=fun s hs=>Nat.le_trans (Mu rest s hs) hr
 have fin:∀ {ws:List Way} {rs:RS},(nM (bX rest) ws rs).2=true→rs.args=[]→rs.text=[]→ws.length≤1000→
   (rs.kind=1→rs.op<tbl.length∧(cK (bj rs.op)).length≤(ws.filter fun w=>!Bi w).length)→
   (rs.kind=2→rs.op<3∧(cK (bj (ir rs.op))).length≤(ws.filter fun w=>!Bi w).length∧(cK (bj (po rs.op))).length≤(ws.filter fun w=>!Bi w).length)→
   (3≤rs.kind→rs.kind≠6→0<(ws.filter fun w=>!Bi w).length)→rs.kind≤9→WfS (nM (bX rest) ws rs).1:=fun {ws rs} h ha ht hw h1 h2 h3 h9=>by
  obtain⟨g1,g2,g3,g4,g5⟩:=Yc h hop ha (by rw[ht];simp)
  have hf:(ws.filter fun w=>!Bi w).length≤ws.length:=List.length_filter_le _ _
  refine⟨fun k=>?_,fun k=>?_,fun k k6=>?_,by rw[g1];exact h9,by omega,by omega,fun a hx=>?_⟩
  ·rw[g2,g3];exact h1 (g1 ▸ k)
  ·rw[g2,g3];exact h2 (g1 ▸ k)
  ·have:=h3 (by omega) (by omega)
   intro h0
   rw[h0]at g3;simp at g3;omega
  ·obtain⟨b1,b2,b3⟩:=g4 a hx
   exact⟨b1,by omega,b3⟩
 unfold vU at h ⊢
 split
 ·rename_i op hf
  rw[hf]at h
  have hl:=Cg hf
  have hk:(cK (bj op)).length≤10:=by
   have:∀ r∈tbl,(cK r.kinds).length≤10:=by decide
   have h2:=this _ (List.getElem_mem hl)
   rw[show bj op=tbl[op].kinds by simp[bj,hl]];exact h2
  exact fin h rfl rfl (by simp;omega) (fun _=>⟨hl,by rw[SQ];exact Nat.le_refl _⟩) (fun k=>by cases k) (fun k _=>absurd k (by show ¬ 3≤1;decide)) (by show 1≤9;decide)
 ·rename_i hf
  rw[hf]at h
  simp only at h
  split
  ·rename_i hg
   rw[if_pos hg]at h
   have h3:(kC name growsL).toNat<3:=(uy name growsL).2.2 hg
   refine fin h rfl rfl (by simp;omega) (fun k=>by cases k) (fun _=>⟨h3,?_⟩) (fun k _=>absurd k (by show ¬ 3≤2;decide)) (by show 2≤9;decide)
   rw[Rb];exact UJ _ h3
  ·rename_i hg
   rw[if_neg hg]at h
   split
   ·rename_i hd
    rw[if_pos hd]at h
    have h3:(kC name datasL).toNat<3:=(uy name datasL).2.2 hd
    split
    ·rename_i hc
     rw[if_pos hc]at h
     refine fin h rfl rfl (by simp;omega) (fun k=>by have k:3+(kC name datasL).toNat=1:=k;omega) (fun k=>by have k:3+(kC name datasL).toNat=2:=k;omega) (fun _ _=>by rw[Rb];omega) (by show 3+(kC name datasL).toNat≤9;omega)
    ·rename_i hc
     rw[if_neg hc]at h;cases h
   ·rename_i hd
    rw[if_neg hd]at h
    split
    ·rename_i ha
     rw[if_pos ha]at h
     unfold y6 at h ⊢
     split at h
     ·cases h
     ·rename_i hq
      rw[if_neg hq]
      exact⟨(fun k=>by cases k),(fun k=>by cases k),fun _ k=>absurd rfl k,(by show 6≤9;decide),(by show ([]:List Ar).length<_;decide),(by simp;omega),(fun a ha=>by cases ha)⟩
    ·rename_i ha
     rw[if_neg ha]at h
     split
     ·rename_i hp
      rw[if_pos hp]at h
      have h3:(kC name spacesL).toNat<2:=(uy name spacesL).2.2 hp
      exact fin h rfl rfl (by simp) (fun k=>by have k:7+(kC name spacesL).toNat=1:=k;omega) (fun k=>by have k:7+(kC name spacesL).toNat=2:=k;omega) (fun _ _=>by decide) (by show 7+(kC name spacesL).toNat≤9;omega)
     ·rename_i hp
      rw[if_neg hp]at h
      split
      ·rename_i hq
       rw[if_pos hq]at h
       exact fin h rfl rfl (by simp) (fun k=>by cases k) (fun k=>by cases k) (fun _ _=>by decide) (by show 9≤9;decide)
      ·rename_i hq
       rw[if_neg hq]at h;cases h
theorem YU {s:Str}(hs:s.length≤100000) {rs:RS}(h:NJ s=some (some rs)):WfS rs:=by
 unfold NJ at h
 split at h
 ·cases h
 ·split at h
  ·cases h
  ·rename_i lab s' hl
   have hl':s'.length≤s.length:=by
    have hb:=MC s
    unfold T1 at hl
    split at hl
    ·split at hl
     ·cases hl
      have:=p9 ((yd s).drop (c6 fj (yd s)+1))
      simp at this;omega
     ·cases hl
    ·cases hl;exact hb
   split at h
   ·split at h
    ·cases h
    ·cases h
     exact⟨fun k=>(by cases k),fun k=>(by cases k),fun k=>absurd k (by show ¬ 3≤0;decide),(by show 0≤9;decide),(by show 0<1000000000;decide),(by show 0<1000000000;decide),(fun a ha=>by cases ha)⟩
   ·split at h
    ·rename_i ht
     cases h
     refine WB (N:=100000) (by decide) ?_ ht
     have:=p9 (s'.drop (c6 zR s'))
     unfold F0
     simp at this;omega
    ·cases h
theorem T0 {s:Str}(hs:s.length≤100000):∀ x∈og s,WfS x.2:=fun x hx=>by
 unfold og yS at hx
 obtain⟨n,hn,h⟩:=List.mem_flatMap.1 hx
 have hn:n<(bJ 10 s).length:=by simpa using hn
 have e:((bJ 10 s)[n]?).getD []=(bJ 10 s)[n]:=by simp[hn]
 rw[e]at h
 have hl:=je 10 s _ (List.getElem_mem hn)
 unfold stm at h
 split at h
 ·rename_i rs ho
  simp at h;subst h
  exact YU (by omega) ho
 ·cases h
theorem Z2 {frags:List Fg}{syms:List Sy}(hf:frags.length≤100) (hs:syms.length≤1000) (ht:∀ x∈frags,x.2.length≤900):Few frags syms:=by
 have hlen:∀ (g:Fg→Nat) (l:List Fg),(∀ x∈l,g x≤901)→(l.map g).sum≤l.length*901:=fun g l h=>by
  induction l with
  | nil=>simp
  | cons a l ih=>
    have:=h a (.head _)
    have:=ih fun x hx=>h x (.tail _ hx)
    simp[Nat.add_mul];omega
 have hp:∀ x∈frags,(bJ 10 x.2).length≤901:=fun x hx=>by
  have h1:=i5 10 x.2
  have h2:=List.count_le_length (a:=(10:UInt8)) (l:=x.2)
  have:=ht x hx
  omega
 have hm:frags.length*901≤100*901:=Nat.mul_le_mul_right _ hf
 refine⟨by omega,by omega,?_,?_,fun x hx=>by have:=ht x hx;omega,fun e he=>?_⟩
 ·unfold fh
  rw[List.length_flatMap]
  have:=hlen (fun x=>(th x).length) frags fun x hx=>by
   unfold th
   rw[List.length_map]
   exact Nat.le_trans (xp stm Sa _ _) (hp x hx)
  omega
 ·unfold tn
  rw[List.length_flatMap]
  have:=hlen (fun x=>(tp x).length) frags fun x hx=>by
   unfold tp
   rw[List.length_map]
   exact Nat.le_trans (xp D0 Mf _ _) (hp x hx)
  omega
 ·obtain⟨x,hx,he⟩:=List.mem_flatMap.1 he
  obtain⟨y,hy,rfl⟩:=List.mem_map.1 he
  exact T0 (by have:=ht x hx;omega) y hy
end
section
section
variable [Tabs]
variable {h h0:ae}{M:List Nat}{L R:Own}{Q:QT}{K:AV→Prop}{i:Nat}
theorem Md:∀ a b:List UInt8,Op.bytesLess a b=decide (a<b)
 | [],[]=>rfl
 | a::x,[]=>rfl
 | [],b::y=>rfl
 | a::x,b::y=>by
   simp only[Op.bytesLess,Md x y]
   rw[Bool.eq_iff_iff]
   simp[List.cons_lt_cons_iff]
theorem Sj {p q:Nat}{a b:Dg}{P:Int}{x:AV}{m:Nat}{next:NT}(s:St h0 M h L) (mp:(p,true,.cells (dE a))∈L) (mq:(q,true,.cells (dE b))∈L)
  (ha:∃ c:Nat,a.2.2=c∧1≤c∧c≤8∧partL[c]?=some P) (hb:∃ c:Nat,b.2.2=c∧1≤c∧c≤8∧partL[c]?=some P) (hl:leD (xY a) (xY b)) (hm:m<1000000000000)
  (k:next [x,I ((m+1:Nat):Int)] h):il (.ptr q 0) (.ptr p 0) x (I (m:Nat)) (.full 9 (partL.map fun n=>I n)) h next Q:=by
 obtain⟨a1,a2,a3⟩:=a
 obtain⟨b1,b2,b3⟩:=b
 obtain⟨c,hc,c1,c8,cp⟩:=ha
 obtain⟨d,hd,d1,d8,dp⟩:=hb
 simp only at hc hd
 subst hc hd
 obtain⟨l1,l2⟩:=hl
 simp only[xY]at l1 l2
 unfold il
 have RP:Row (fun n:Int=>[I n]) 1 h (.full 9 (partL.map fun n=>I n)) partL:=Row.full (enc:=fun n:Int=>[I n]) (sz:=1) (h:=h) (fun _=>rfl) partL
 refine aj (af s mp (a:=I (c:Nat)) rfl (aJ (ah (fun h=>by have:=of_decide_eq_true h;omega) (fun _=>?_))))
 refine aj (af s mp (a:=I (c:Nat)) rfl (bx (ah (fun h=>by have:=of_decide_eq_true h;omega) (fun _=>?_))))
 refine aj (af s mq (a:=I (d:Nat)) rfl (aJ (ah (fun h=>by have:=of_decide_eq_true h;omega) (fun _=>?_))))
 refine aj (af s mq (a:=I (d:Nat)) rfl (bx (ah (fun h=>by have:=of_decide_eq_true h;omega) (fun _=>?_))))
 refine aj (af s mp (a:=I (c:Nat)) rfl ?_)
 have hcl:c<partL.length:=by show c<9;omega
 have hdl:d<partL.length:=by show d<9;omega
 rw[List.getElem?_eq_getElem hcl]at cp
 rw[List.getElem?_eq_getElem hdl]at dp
 refine RP.idx (fun _=>rfl) hcl fun p1 t1=>aH t1 ?_
 refine aj (af s mq (a:=I (d:Nat)) rfl ?_)
 refine RP.idx (fun _=>rfl) hdl fun p2 t2=>aH t2 ?_
 rw[Option.some.inj cp,Option.some.inj dp]
 refine cg (ah (fun h=>by simp at h) (fun _=>?_))
 refine aj (af s mp (a:=T a1) rfl (aj (af s mq (a:=T b1) rfl ?_)))
 have next':ai .add (I (m:Nat)) (I 1) fun t41=>next [x,t41] h:=aI (by omega) k
 refine aad (ah (fun h=>?_) (fun _=>?_))
 ·rw[Md]at h
  simp only[Bool.not_eq_true',Bool.or_eq_false_iff,decide_eq_false_iff_not,beq_eq_false_iff_ne]at h
  exact (l1 (Std.lt_of_le_of_ne (List.not_lt.1 h.1) (Ne.symm h.2))).elim
 refine aj (af s mp (a:=T a1) rfl (aj (af s mq (a:=T b1) rfl ?_)))
 refine aV ?_
 refine qc (ah (fun he=>?_) (fun _=>next')) ⟨_,rfl⟩
 have he:=of_decide_eq_true he
 have h2:=l2 he
 refine aj (af s mp (a:=I (a2:Nat)) rfl (aj (af s mq (a:=I (b2:Nat)) rfl ?_)))
 refine bx (ah (fun h=>by have:=of_decide_eq_true h;omega) (fun _=>next'))
theorem TD (hk:∀ (h:ae) (Q:QT),(∀ h',Fr [] h h'→Q (B true) h')→C nn [] h Q) (hF:cD) (hI:g6) (hA:jT) (hL:dL) (hW:sK) (hR:xE) {s:Shp}(ho:ZP s) (k:∀ h',Q (B true) h'):C mN [.agg (shE s)] h Q:=by
 refine B7 _ _ _ ?_
 unfold yb
 refine bW (St.start h) rfl fun j1 h1 s1=>?_
 have s1:St h [] h1 [(j1,true,.cells (shE s))]:=s1
 refine hk _ _ fun h2 f2=>bQ (ah (fun h=>by cases h) (fun _=>?_))
 have s2:=s1.call f2
 refine aL s2 (.head _) (nle rfl) ?_
 refine Yj ho (fun hf h3 f3=>?_) (fun h2 f2=>bQ (ah (fun _=>k _) (fun h=>by cases h)))
 refine bQ (ah (fun h=>by cases h) (fun _=>?_))
 have s3:=s2.call f3
 refine aL s3 (.head _) (nle rfl) ?_
 refine VO hW hR ho hf fun ta tb tc ys h4 la lb lc ly f4=>?_
 refine aE rfl (aE rfl ?_)
 have hfw:Few (P3 ta tb tc) ys:=Z2 (by show 3≤100;decide) (by omega) fun x hx=>by
  simp only[P3,List.mem_cons,List.not_mem_nil,or_false]at hx
  rcases hx with rfl|rfl|rfl<;>simp only<;>omega
 have hpw:(P3 ta tb tc).Pairwise fun a b=>a.1<b.1:=by
  simp[P3]
  decide
 obtain⟨P,O⟩:=U5 (syms:=ys) hpw
 refine rh hF hI hA hL (Row.full (enc:=frE) (sz:=2) (fun _=>rfl) (P3 ta tb tc)) (Row.snap (enc:=syE) (sz:=2) (fun _=>rfl) ys) hfw (fun hne h5 f5=>?_) (fun hnil h5 f5=>?_)
 ·have hdl:=Jd _ _ hfw
  generalize iT (P3 ta tb tc) ys=ds at O hne hdl
  refine aE rfl (aE rfl ?_)
  have RD:∀ h,Row dE 3 h (.snap ds.length (ds.flatMap dE)) ds:=fun h=>Row.snap (enc:=dE) (sz:=3) (fun _=>rfl) ds
  have hp:=List.length_pos_iff.2 hne
  refine (RD h5).len (bx (ah (fun _=>?_) (fun h=>by have:=of_decide_eq_false h;omega)))
  refine d6 (bx (ah (fun h=>by simp at h) (fun _=>?_)))
  refine aB rfl rfl ?_
  refine aP (fun n vs h'=>∃ (q:Nat) (x:AV),vs=[x,I ((q+1:Nat):Int)]∧n+q=ds.length) ds.length ⟨0,_,rfl,rfl⟩ ?_
  rintro n vs h6 ⟨q,x,rfl,hn⟩
  unfold qN
  refine (RD h6).len (aJ (ah (fun hb=>?_) (fun _=>k _)))
  have hq:q+1<ds.length:=by have:=of_decide_eq_true hb;omega
  have hq0:q<ds.length:=by omega
  have hpw:=List.pairwise_iff_getElem.1 O.pw q (q+1) hq0 hq (by omega)
  have ha:=O.part _ (List.getElem_mem hq0)
  have hb:=O.part _ (List.getElem_mem hq)
  have next:∀ h':ae,∃ m,m<n∧∃ (q_1:Nat) (y:AV),[x,I ((q+1+1:Nat):Int)]=[y,I ((q_1+1:Nat):Int)]∧m+q_1=ds.length:=fun h'=>⟨n-1,by omega,q+1,x,rfl,by omega⟩
  refine⟨?_,?_⟩
  ·refine cw (by omega) ?_
   rw[show (((q+1:Nat):Int)-1)=((q:Nat):Int) by omega]
   refine (RD h6).idx (fun _=>rfl) hq0 fun p1 t1=>aR t1 rfl ?_
   refine (RD h6).idx (fun _=>rfl) hq fun p2 t2=>aR t2 rfl ?_
   refine aQ (St.start h6) fun i1 h7 s7=>?_
   refine⟨aR (t2.fr s7.fr) rfl rfl,aR (t1.fr s7.fr) rfl rfl,?_⟩
   refine aQ s7 fun i2 h8 s8=>?_
   refine⟨aR (t2.fr s8.fr) rfl rfl,aR (t1.fr s8.fr) rfl rfl,?_⟩
   refine ay (o:=0) s8 (.tail .head) rfl rfl rfl (nle rfl) fun h9 s9=>?_
   refine⟨aR (t2.fr s9.fr) rfl rfl,?_⟩
   refine ay (o:=0) s9 .head rfl rfl rfl (nle rfl) fun h10 s10=>?_
   exact Sj s10 (.tail _ (.head _)) (.head _) ha hb hpw (by omega) (next h10)
  ·refine cw (by omega) ?_
   rw[show (((q+1:Nat):Int)-1)=((q:Nat):Int) by omega]
   refine (RD h6).idx (fun _=>rfl) hq0 fun p1 t1=>aR t1 rfl ?_
   refine (RD h6).idx (fun _=>rfl) hq fun p2 t2=>aR t2 rfl ?_
   refine aQ (St.start h6) fun i1 h7 s7=>?_
   refine⟨aR (t2.fr s7.fr) rfl rfl,aR (t1.fr s7.fr) rfl rfl,?_⟩
   refine aQ s7 fun i2 h8 s8=>?_
   refine⟨aR (t2.fr s8.fr) rfl rfl,aR (t1.fr s8.fr) rfl rfl,?_⟩
   refine ay (o:=0) s8 .head rfl rfl rfl (nle rfl) fun h9 s9=>?_
   refine⟨aR (t2.fr s9.fr) rfl rfl,?_⟩
   refine ay (o:=0) s9 (.tail .head) rfl rfl rfl (nle rfl) fun h10 s10=>?_
   exact Sj s10 (.head _) (.tail _ (.head _)) ha hb hpw (by omega) (next h10)
 ·refine aE rfl (aE rfl ?_)
  refine d6 (bx (ah (fun h=>by simp at h) (fun _=>?_)))
  refine aB rfl rfl ?_
  refine aP (fun n vs h'=>vs=[B false,I 1]) 1 rfl ?_
  rintro n vs h6 rfl
  unfold rq
  exact d6 (aJ (ah (fun h=>by simp[ap]at h) (fun _=>k _)))
end
end
section
theorem SJ [Tabs]:(tbl.all fun r=>Mb Pg tb5 Vi 100 nj [T r.kinds] .leaf 0 fun v t _=>Oa (.snap (cK r.kinds).length ((cK r.kinds).flatMap sE)) v t)=true:=by kernel_rfl
theorem UZ [Tabs]:(tbl.all fun r=>(cK r.kinds).all fun k=>Mb Pg tb5 Vi 100 jB [T k] .leaf 0 fun v t _=>Oa (B (Ia (ln k))) v t)=true:=by kernel_rfl
theorem ZN:∀ l:List Str,clL (l.flatMap sE)=true
 | []=>rfl
 | a::l=>by show (cl (T a)&&clL (l.flatMap sE))=true;rw[ZN l];rfl
variable [Tabs5]
theorem W8:sK:=fun r hr h Q q=>nH Tabs5.tb sH (d:=100) (.snap (cK r.kinds).length ((cK r.kinds).flatMap sE)) rfl (ZN _) (List.all_eq_true.1 SJ r hr) q
theorem Yh:xE:=fun r hr k hk h Q q=>nH Tabs5.tb sH (d:=100) (B (Ia (ln k))) rfl rfl (List.all_eq_true.1 (List.all_eq_true.1 UZ r hr) k hk) q
end
end
end Go.Proofs.YtbhphjpgjgigpaaGreatDoor.AL
