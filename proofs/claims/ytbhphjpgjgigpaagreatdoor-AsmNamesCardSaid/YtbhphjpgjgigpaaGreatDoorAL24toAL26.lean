import Derived.Test.YtbhphjpgjgigpaaGreatDoorAL20toAL23
import Derived.ScopeJumps
import Derived.Defers
set_option linter.all false
set_option autoImplicit true
set_option relaxedAutoImplicit true
set_option maxRecDepth 100000
namespace Go.Proofs.YtbhphjpgjgigpaaGreatDoor.AL
noncomputable section
section
variable [Tabs]
section
variable {P:Program}{e:ET}{env:Env}{t:HT}{n:Nat}{h:ab}{K:AV→HT→Nat→Bool}{call:jZ}
def iP (P:Program) (call:jZ):Prop:=∀ (f:FuncId) (args:List AV) (t:HT) (n:Nat) (h:ab) (K:AV→HT→Nat→Bool),HR t n h→call f args t n K=true→ACall P f args h (KH K)
theorem kh {r:AV}(hr:HR t n h) (k:K r t n=true):KH K r h:=⟨t,n,hr,k⟩
theorem lM (er:ER e env) (hr:HR t n h) {x:Operand}{g:AV→(AV→Bool)→Bool}{p:AV→(AV→Prop)→Prop}(hg:∀ v K,g v K=true→p v fun r=>K r=true) (hm:∀ v K K',(∀ r,K r→K' r)→p v K→p v K')
  (k:(q1 x g).f call e t n K=true):bO (opv env x) fun v=>p v fun r=>KH K r h:=by
 obtain⟨v,h1,k⟩:=bq er k
 rw[h1]
 exact hm _ _ _ (fun r k=>kh hr k) (hg _ _ k)
theorem Bq (er:ER e env) (hr:HR t n h) {x:Operand}{g:AV→HT→(AV→Bool)→Bool}{p:AV→ab→(AV→Prop)→Prop}(hg:∀ v K,g v t K=true→p v h fun r=>K r=true) (hm:∀ v K K',(∀ r,K r→K' r)→p v h K→p v h K')
  (k:(q1t x g).f call e t n K=true):bO (opv env x) fun v=>p v h fun r=>KH K r h:=by
 obtain⟨v,h1,k⟩:=bq er k
 rw[h1]
 exact hm _ _ _ (fun r k=>kh hr k) (hg _ _ k)
theorem sG (er:ER e env) (hr:HR t n h) {x y:Operand}{g:AV→AV→(AV→Bool)→Bool}{p:AV→AV→(AV→Prop)→Prop}(hg:∀ v u K,g v u K=true→p v u fun r=>K r=true) (hm:∀ v u K K',(∀ r,K r→K' r)→p v u K→p v u K')
  (k:(q2 x y g).f call e t n K=true):d5 (opv env x) (opv env y) fun v u=>p v u fun r=>KH K r h:=by
 obtain⟨v,h1,k⟩:=bq er k
 obtain⟨u,h2,k⟩:=bq er k
 rw[h1,h2]
 exact hm _ _ _ _ (fun r k=>kh hr k) (hg _ _ _ k)
theorem TW (er:ER e env) (hr:HR t n h) {x y:Operand}{g:AV→AV→HT→(AV→Bool)→Bool}{p:AV→AV→ab→(AV→Prop)→Prop}(hg:∀ v u K,g v u t K=true→p v u h fun r=>K r=true) (hm:∀ v u K K',(∀ r,K r→K' r)→p v u h K→p v u h K')
  (k:(q2t x y g).f call e t n K=true):d5 (opv env x) (opv env y) fun v u=>p v u h fun r=>KH K r h:=by
 obtain⟨v,h1,k⟩:=bq er k
 obtain⟨u,h2,k⟩:=bq er k
 rw[h1,h2]
 exact hm _ _ _ _ (fun r k=>kh hr k) (hg _ _ _ k)
theorem DF (er:ER e env) (hr:HR t n h) {x:Operand}{g:AV→HT→Nat→(AV→HT→Nat→Bool)→Bool}{p:AV→ab→(QT)→Prop}(hg:∀ v K,g v t n K=true→p v h (KH K))
  (k:(e1 x g).f call e t n K=true):bO (opv env x) fun v=>p v h (KH K):=by
 obtain⟨v,h1,k⟩:=bq er k
 rw[h1]
 exact hg _ _ k
theorem Qu (er:ER e env) (hr:HR t n h) {x y:Operand}{g:AV→AV→HT→Nat→(AV→HT→Nat→Bool)→Bool}{p:AV→AV→ab→(QT)→Prop}(hg:∀ v u K,g v u t n K=true→p v u h (KH K))
  (k:(e2 x y g).f call e t n K=true):d5 (opv env x) (opv env y) fun v u=>p v u h (KH K):=by
 obtain⟨v,h1,k⟩:=bq er k
 obtain⟨u,h2,k⟩:=bq er k
 rw[h1,h2]
 exact hg _ _ _ k
theorem Tq (er:ER e env) (hr:HR t n h) {x y:Operand}{g:AV→AV→HT→Nat→(HT→Nat→Bool)→Bool}{p:AV→AV→ab→(ab→Prop)→Prop}(hg:∀ v u K,g v u t n K=true→p v u h (KS K))
  (k:(s2 x y g).f call e t n K=true):d5 (opv env x) (opv env y) fun v u=>p v u h fun h'=>KH K (.tup []) h':=by
 obtain⟨v,h1,k⟩:=bq er k
 obtain⟨u,h2,k⟩:=bq er k
 rw[h1,h2]
 exact hg _ _ _ k
theorem PM (er:ER e env) (hr:HR t n h) {x y z:Operand}{g:AV→AV→AV→HT→Nat→(HT→Nat→Bool)→Bool}{p:AV→AV→AV→ab→(ab→Prop)→Prop}(hg:∀ v u w K,g v u w t n K=true→p v u w h (KS K))
  (k:(s3 x y z g).f call e t n K=true):d5 (opv env x) (opv env y) fun v u=>bO (opv env z) fun w=>p v u w h fun h'=>KH K (.tup []) h':=by
 obtain⟨v,h1,k⟩:=bq er k
 obtain⟨u,h2,k⟩:=bq er k
 obtain⟨w,h3,k⟩:=bq er k
 rw[h1,h2,h3]
 exact hg _ _ _ _ k
omit [Tabs] in
theorem bg {X:Prop}(k:noO.f call e t n K=true):X:=by cases k
theorem cJ {o:Option AV}{K K':AV→Prop}(hk:∀ v,K v→K' v) (k:bO o K):bO o K':=by
 unfold bO at *;split at k
 ·exact hk _ k
 ·exact k.elim
theorem MS (er:ER e env) (hr:HR t n h) {ty:TypeId}{is:List Nat}{xs:List Operand}(k:(K0 P ty is xs).f call e t n K=true):dH (i3 env xs) fun vs=>tA P ty is vs fun r=>KH K r h:=by
 unfold K0 at k
 split at k
 ·split at k
  ·split at k
   ·obtain⟨vs,h1,k⟩:=jC er k
    rw[h1]
    show tA P ty is vs _
    unfold tA
    simp only[*,if_true]
    split at k
    ·simp only[*]
     exact sO (fun r k=>kh hr k) _ _ ⟨Nl _ _ k⟩
    ·cases k
   ·exact bg k
  ·exact bg k
 ·exact bg k
theorem B7 (er:ER e env) (hr:HR t n h) {ty:TypeId}{m:Nat}{is:List Nat}{xs:List Operand}(k:(tz P ty m is xs).f call e t n K=true):dH (i3 env xs) fun vs=>fT P ty m is vs fun r=>KH K r h:=by
 unfold tz at k
 split at k
 ·split at k
  ·split at k
   ·split at k
    ·rename_i hc
     obtain⟨vs,h1,k⟩:=jC er k
     rw[h1]
     show fT P ty m is vs _
     unfold fT
     simp only[*,if_true]
     exact lh (fun r k=>kh hr k) _ _ _ ⟨Af _ _ _ k⟩
    ·exact bg k
   ·exact bg k
  ·exact bg k
 ·exact bg k
theorem PA (hcall:iP P call) (er:ER e env) (hr:HR t n h) {c:Call}(k:(RD P c).f call e t n K=true):dH (i3 env c.args.toList) fun vs=>(match c.callee with
  | .value f=>bO (opv env f) fun v=>qP P v vs h (KH K)
  | .builtin .len=>(match vs,c.argTypes.toList with|[v],[t]=>x4 P t v h fun r=>KH K r h|_,_=>False)
  | .builtin .append=>(match vs,c.argTypes.toList with|[v,u],[t,t2]=>wM P t t2 v u h (KH K)|_,_=>False)
  | .builtin .max=>(match vs with|[v,u]=>x3 v u fun r=>KH K r h|_=>False)
  | .builtin .min=>(match vs with|[v,u]=>BE v u fun r=>KH K r h|_=>False)
  | _=>False):=by
 have two:∀ {x y:Operand} {F:AV→AV→Prop},(d5 (opv env x) (opv env y) F)→∃ v u,i3 env [x,y]=some [v,u]∧F v u:=fun {x y F} k=>by
  obtain⟨v,h1,k⟩:=ar k
  obtain⟨u,h2,k⟩:=ar k
  exact⟨v,u,by simp[i3,h1,h2],k⟩
 have one:∀ {x:Operand} {F:AV→Prop},(bO (opv env x) F)→∃ v,i3 env [x]=some [v]∧F v:=fun {x F} k=>by
  obtain⟨v,h1,k⟩:=ar k
  exact⟨v,by simp[i3,h1],k⟩
 unfold RD at k
 split at k
 ·rename_i f hc
  obtain⟨vs,h1,k⟩:=jC er k
  obtain⟨v,h2,k⟩:=bq er k
  rw[h1]
  simp only[dH,hc,h2,bO]
  unfold To at k
  unfold qP
  split at k
  ·exact hcall _ _ _ _ _ _ hr k
  ·cases k
 ·rename_i hc
  split at k
  ·rename_i x ty ha ht
   unfold U1 at k
   split at k
   ·obtain⟨v,h1,k⟩:=one (lM er hr (p:=fun v K=>bZ v K) (fun _ _ k=>⟨OR k⟩) (fun _ _ _ hk k=>vo hk _ k) k)
    rw[ha,h1]
    simp only[dH,hc,x4, *]
   ·obtain⟨v,h1,k⟩:=one (lM er hr (p:=fun v K=>bh v K) (fun _ _ k=>⟨Pe _ k⟩) (fun _ _ _ hk k=>vK hk _ k) k)
    rw[ha,h1]
    simp only[dH,hc,x4, *]
   ·obtain⟨v,h1,k⟩:=one (Bq er hr (p:=fun v h K=>D5 v h K) (fun _ _ k=>⟨PS hr k⟩) (fun _ _ _ hk k=>vA hk _ _ k) k)
    rw[ha,h1]
    simp only[dH,hc,x4, *]
   ·exact bg k
  ·exact bg k
 ·rename_i hc
  split at k
  ·rename_i x y ty ty2 ha ht
   unfold Mj at k
   split at k
   ·split at k
    ·split at k
     ·rename_i hok
      obtain⟨v,u,h1,k⟩:=two (Qu er hr (p:=fun v u h K=>bL _ _ v u h K) (fun _ _ _ k=>⟨Kr hr k⟩) k)
      rw[ha,h1]
      simp only[dH,hc,wM, *,if_true]
     ·exact bg k
    ·exact bg k
   ·exact bg k
  ·exact bg k
 ·rename_i hc
  split at k
  ·rename_i x y ha
   obtain⟨v,u,h1,k⟩:=two (sG er hr (p:=fun v u K=>x3 v u K) (fun _ _ _ k=>⟨RU _ _ k⟩) (fun _ _ _ _ hk k=>xO hk _ _ k) k)
   rw[ha,h1]
   simp only[dH,hc, *]
  ·exact bg k
 ·rename_i hc
  split at k
  ·rename_i x y ha
   obtain⟨v,u,h1,k⟩:=two (sG er hr (p:=fun v u K=>BE v u K) (fun _ _ _ k=>⟨S0 _ _ k⟩) (fun _ _ _ _ hk k=>yi hk _ _ k) k)
   rw[ha,h1]
   simp only[dH,hc, *]
  ·exact bg k
 ·exact bg k
theorem Qg (hcall:iP P call) (er:ER e env) (hr:HR t n h) {o:Oper}(k:(O5 P o.op).f call e t n K=true):tH P env h o (KH K):=by
 obtain⟨dst,op,ty,pos,after,guard⟩:=o
 cases op<;>simp only[O5]at k<;>simp only[tH]
 case move x=>obtain⟨v,h1,k⟩:=bq er k;rw[h1];exact kh hr k
 case assign x=>obtain⟨v,h1,k⟩:=bq er k;rw[h1];exact kh hr k
 case pick c a b=>
  obtain⟨v,h1,k⟩:=bq er k
  obtain⟨u,h2,k⟩:=bq er k
  obtain⟨w,h3,k⟩:=bq er k
  rw[h1,h2,h3]
  show ifB v (KH K u h) (KH K w h)
  unfold Tz at k
  unfold ifB
  split at k
  ·exact kh hr k
  ·exact kh hr k
  ·cases k
 case alloc el=>
  unfold UT at k
  unfold SU
  split at k
  ·split at k
   ·split at k
    ·simp only[*,if_true];exact⟨MD hr k⟩
    ·exact bg k
   ·exact bg k
  ·exact bg k
 case box el x=>exact DF er hr (p:=fun v h K=>lP v h K) (fun _ _ k=>⟨RY hr k⟩) k
 case build=>exact MS er hr k
 case buildSlice=>exact B7 er hr k
 case load ty x=>
  unfold TE at k
  split at k
  ·split at k
   ·refine cJ (fun v k=>?_) (Bq er hr (p:=fun v h K=>aD _ v h K) (fun _ _ k=>⟨ye hr k⟩) (fun _ _ _ hk k=>fU hk _ _ _ k) k)
    unfold iZ;simp only[*,if_true]
   ·refine cJ (fun v k=>?_) (Bq er hr (p:=fun v h K=>ai v h K) (fun _ _ k=>⟨x9 hr k⟩) (fun _ _ _ hk k=>fR hk _ _ k) k)
    unfold iZ;simp only[*,Bool.false_eq_true,if_false]
  ·exact bg k
 case store ty x u=>
  unfold Py at k
  split at k
  ·refine cJ (fun v k=>cJ (fun y k=>?_) k) (Tq er hr (p:=fun v u h K=>aw _ v u h K) (fun _ _ _ k=>⟨NC hr k⟩) k)
   unfold Gy;simp only[*]
  ·exact bg k
 case nilCheck x=>exact lM er hr (p:=fun v K=>aJ v K) (fun _ _ k=>⟨S5 _ k⟩) (fun _ _ _ hk k=>xj hk _ k) k
 case binOp op ty x y yt=>
  unfold UQ at k
  unfold Hc
  split at k
  ·simp only[*];exact sG er hr (p:=fun v u K=>DB op v u K) (fun _ _ _ k=>⟨PH _ _ _ k⟩) (fun _ _ _ _ hk k=>vE hk _ _ _ k) k
  ·simp only[*];exact sG er hr (p:=fun v u K=>Eh op v u K) (fun _ _ _ k=>⟨P7 _ _ _ k⟩) (fun _ _ _ _ hk k=>vd hk _ _ _ k) k
  ·simp only[*];exact sG er hr (p:=fun v u K=>ah op v u K) (fun _ _ _ k=>⟨FC k⟩) (fun _ _ _ _ hk k=>pL hk _ _ _ k) k
  ·simp only[*];exact sG er hr (p:=fun v u K=>ah op v u K) (fun _ _ _ k=>⟨FC k⟩) (fun _ _ _ _ hk k=>pL hk _ _ _ k) k
  ·simp only[*];exact sG er hr (p:=fun v u K=>ah op v u K) (fun _ _ _ k=>⟨FC k⟩) (fun _ _ _ _ hk k=>pL hk _ _ _ k) k
  ·exact bg k
 case unOp op ty x=>exact lM er hr (p:=fun v K=>qUn op v K) (fun _ _ k=>⟨Uj k⟩) (fun _ _ _ hk k=>Bj hk _ _ k) k
 case convert s d x=>
  unfold Tp at k
  unfold yB
  split at k
  ·simp only[*];exact lM er hr (p:=fun v K=>cz _ v K) (fun _ _ k=>⟨JU k⟩) (fun _ _ _ hk k=>ra hk _ _ k) k
  ·simp only[*];exact lM er hr (p:=fun v K=>oo _ v K) (fun _ _ k=>⟨Jz k⟩) (fun _ _ _ hk k=>qX hk _ _ k) k
  ·simp only[*];exact lM er hr (p:=fun v K=>t0 v K) (fun _ _ k=>⟨K8 _ k⟩) (fun _ _ _ hk k=>qh hk _ k) k
  ·exact bg k
 case makeInterface ty x=>
  unfold Qa at k
  split at k
  ·exact bg k
  ·rename_i hn ht
   refine cJ (fun v k=>?_) (lM er hr (p:=fun v K=>tJ ty v K) (fun _ _ k=>⟨NP _ _ k⟩) (fun _ _ _ hk k=>sQ hk _ _ k) k)
   unfold xK
   split
   ·rename_i he;rw[ht]at he;cases he;exact (hn _ rfl).elim
   ·exact k
   ·rename_i he;rw[ht]at he;cases he
  ·exact bg k
 case makeFunc f fi ca=>
  obtain⟨vs,h1,k⟩:=jC er k
  obtain⟨ws,h2,k⟩:=jC er k
  rw[h1,h2];exact kh hr k
 case slice ty x lo hi mx=>
  unfold O3 at k
  split at k
  ·obtain⟨v,h1,k⟩:=bq er k
   obtain⟨l,h2,k⟩:=m7 er k
   obtain⟨u,h3,k⟩:=m7 er k
   rw[h1,h2,h3]
   show lf P ty v l u none _
   unfold lf;simp only[*]
   exact qN (fun r k=>kh hr k) _ _ _ ⟨JQ k⟩
  ·split at k
   ·obtain⟨v,h1,k⟩:=bq er k
    obtain⟨l,h2,k⟩:=m7 er k
    obtain⟨u,h3,k⟩:=m7 er k
    rw[h1,h2,h3]
    show lf P ty v l u none _
    unfold lf;simp only[*]
    exact q9 (fun r k=>kh hr k) _ _ _ _ ⟨Ko _ _ _ _ k⟩
   ·exact bg k
  ·obtain⟨v,h1,k⟩:=bq er k
   obtain⟨l,h2,k⟩:=m7 er k
   obtain⟨u,h3,k⟩:=m7 er k
   obtain⟨m,h4,k⟩:=bq er k
   rw[h1,h2,h3]
   simp only[zz,h4]
   show lf P ty v l u (some m) _
   split at k
   ·unfold lf;simp only[*]
    exact ql (fun r k=>kh hr k) _ ⟨KI _ k⟩
   ·cases k
  ·exact bg k
 case fieldAddr ty x f=>
  unfold Cp at k
  split at k
  ·split at k
   ·split at k
    ·split at k
     ·exact bg k
     ·rename_i hz
      refine cJ (fun v k=>?_) (lM er hr (p:=fun v K=>ae _ v K) (fun _ _ k=>⟨C0 k⟩) (fun _ _ _ hk k=>me hk _ _ k) k)
      unfold kW
      simp only[*]
      rw[if_neg (by simp)]
      trivial
    ·exact bg k
   ·exact bg k
  ·exact bg k
 case field ty x f=>
  unfold QP Ts at k
  split at k
  ·split at k
   ·split at k
    ·split at k
     ·refine cJ (fun v k=>?_) (lM er hr (p:=fun v K=>xB _ _ v K) (fun _ _ k=>⟨MR _ _ _ k⟩) (fun _ _ _ hk k=>rY hk _ _ _ k) k)
      unfold to yO;simp only[*,if_true]
     ·refine cJ (fun v k=>?_) (lM er hr (p:=fun v K=>xZ _ v K) (fun _ _ k=>⟨M0 _ _ k⟩) (fun _ _ _ hk k=>tU hk _ _ k) k)
      unfold to yO;simp only[*,Bool.false_eq_true,if_false]
    ·exact bg k
   ·exact bg k
  ·exact bg k
 case indexAddr ty x i=>
  unfold BN at k
  unfold d6
  split at k
  ·split at k
   ·simp only[*];exact sG er hr (p:=fun v u K=>ao _ v u K) (fun _ _ _ k=>⟨C6 k⟩) (fun _ _ _ _ hk k=>gq hk _ _ _ k) k
   ·exact bg k
  ·split at k
   ·simp only[*];exact sG er hr (p:=fun v u K=>dN _ _ v u K) (fun _ _ _ k=>⟨tT _ _ _ _ k⟩) (fun _ _ _ _ hk k=>en hk _ _ _ _ k) k
   ·exact bg k
  ·exact bg k
 case index ty x i=>
  unfold PL at k
  unfold xf
  split at k
  ·simp only[*];exact sG er hr (p:=fun v u K=>aV v u K) (fun _ _ _ k=>⟨KM k⟩) (fun _ _ _ _ hk k=>qA hk _ _ k) k
  ·exact bg k
 case extract x i=>exact lM er hr (p:=fun v K=>am i v K) (fun _ _ k=>⟨Im _ _ k⟩) (fun _ _ _ hk k=>oL hk _ _ k) k
 case call c=>exact PA hcall er hr k
 all_goals exact bg k
theorem Ix {ty:TypeId}{g:TypeDesc→Value→ClO}{F:TypeDesc→Value→Prop}(hg:∀ d z,(g d z).f call e t n K=true→F d z) (k:(L4 P ty g).f call e t n K=true):xG P ty F:=by
 unfold L4 at k
 unfold xG
 split at k
 ·split at k
  ·split at k
   ·split at k
    ·have k:=hg _ _ k;simp only[*,if_true]
    ·exact bg k
   ·exact bg k
  ·exact bg k
 ·exact bg k
theorem Cl {ty:TypeId}{g:TypeDesc→ClO}{F:TypeDesc→Prop}(hg:∀ d,(g d).f call e t n K=true→F d) (k:(G6 P ty g).f call e t n K=true):wF P ty F:=by
 unfold G6 at k
 unfold wF
 split at k
 ·split at k
  ·have k:=hg _ k;simp only[*]
  ·exact bg k
 ·exact bg k
theorem PB (er:ER e env) (hr:HR t n h) {o:Oper}(k:(Rm P o.op).f call e t n K=true):rT P env h o (KH K):=by
 obtain⟨dst,op,ty,pos,after,guard⟩:=o
 have wmapT:∀ {ty:TypeId} {F:TypeDesc→Value→AV→AV→Prop} {x y:Operand},xG P ty (fun d z=>d5 (opv env x) (opv env y) (F d z))→d5 (opv env x) (opv env y) fun a b=>xG P ty fun d z=>F d z a b:=fun {ty F x y} k=>by
  obtain⟨kt,et,d,i,z,h1,h2,h3,h4,h5,k⟩:=zY k
  refine cJ (fun v k=>cJ (fun y k=>?_) k) k
  unfold xG
  simp only[h1,h2,h3,h4,h5,if_true]
  exact k
 have wkeyT3:∀ {ty:TypeId} {F:TypeDesc→AV→AV→AV→Prop} {x y z:Operand},wF P ty (fun d=>d5 (opv env x) (opv env y) fun a b=>bO (opv env z) fun c=>F d a b c)→d5 (opv env x) (opv env y) fun a b=>bO (opv env z) fun c=>wF P ty fun d=>F d a b c:=fun {ty F x y z} k=>by
  obtain⟨kt,et,d,h1,h2,k⟩:=wd k
  refine cJ (fun v k=>cJ (fun y k=>cJ (fun w k=>?_) k) k) k
  unfold wF
  simp only[h1,h2]
  exact k
 cases op<;>simp only[Rm]at k<;>simp only[rT]
 case makeMap ty re=>
  cases re with
  | none=>exact⟨Hy hr k⟩
  | some x=>exact bg k
 case lookup ty x i ok=>
  refine wmapT (Ix (fun d z k=>?_) k)
  exact TW er hr (p:=fun v u h K=>hY d ok (ofV z) v u h K) (fun _ _ _ k=>⟨Lf hr k⟩) (fun _ _ _ _ hk k=>qj hk _ _ _ _ _ _ k) k
 case mapUpdate ty m kk v=>
  refine wkeyT3 (Cl (fun d k=>?_) k)
  exact PM er hr (p:=fun v u w h K=>d3 d v u w h K) (fun _ _ _ _ k=>⟨u6 hr k⟩) k
 case insert ty m kk v=>
  refine wkeyT3 (Cl (fun d k=>?_) k)
  exact PM er hr (p:=fun v u w h K=>d3 d v u w h K) (fun _ _ _ _ k=>⟨u6 hr k⟩) k
 case mapEntry ty m kk=>
  refine wmapT (Ix (fun d z k=>?_) k)
  exact Qu er hr (p:=fun v u h K=>m1 d (ofV z) v u h K) (fun _ _ _ k=>⟨Fb hr k⟩) k
 case entryStore ty m s v=>exact PM er hr (p:=fun v u w h K=>jD v u w h K) (fun _ _ _ _ k=>⟨Be hr k⟩) k
 case range ty x=>
  split at k
  ·simp only[*];exact DF er hr (p:=fun v h K=>qI v h K) (fun _ _ k=>⟨Kv hr k⟩) k
  ·simp only[*];exact DF er hr (p:=fun v h K=>qT v h K) (fun _ _ k=>⟨KC hr k⟩) k
  ·exact bg k
 case next x b=>
  cases b
  ·exact DF er hr (p:=fun v h K=>vm v h K) (fun _ _ k=>⟨ML hr k⟩) k
  ·exact DF er hr (p:=fun v h K=>vU v h K) (fun _ _ k=>⟨M4 hr k⟩) k
 case entry x=>exact Bq er hr (p:=fun v h K=>vn v h K) (fun _ _ k=>⟨Oh hr k⟩) (fun _ _ _ hk k=>rR hk _ _ k) k
 case makeSlice ty l c=>
  split at k
  ·split at k
   ·split at k
    ·split at k
     ·refine cJ (fun v k=>cJ (fun y k=>?_) k) (Qu er hr (p:=fun v u h K=>jq _ _ v u h K) (fun _ _ _ k=>⟨CN hr k⟩) k)
      simp only[*,if_true]
     ·exact bg k
    ·exact bg k
   ·exact bg k
  ·exact bg k
 case convert s d x=>
  split at k
  ·split at k
   ·simp only[*,if_true];exact Bq er hr (p:=fun v h K=>hZ v h K) (fun _ _ k=>⟨Ft hr k⟩) (fun _ _ _ hk k=>nn hk _ _ k) k
   ·exact bg k
  ·split at k
   ·simp only[*,if_true];exact DF er hr (p:=fun v h K=>m3 v h K) (fun _ _ k=>⟨Gz hr k⟩) k
   ·exact bg k
  ·exact bg k
 case binOp op ty x y yt=>
  split at k
  ·split at k
   ·split at k
    ·simp only[*,if_true]
     exact sG er hr (p:=fun v u K=>R8 op _ v u K) (fun _ _ _ k=>⟨Sr _ _ _ _ k⟩) (fun _ _ _ _ hk k=>xP hk _ _ _ _ k) k
    ·exact bg k
   ·exact bg k
  ·rename_i hns
   have:bO (opv env x) fun a=>um P op ty a y fun r=>KH K r h:=by
    unfold Ma at k
    unfold um
    split at k
    ·simp only[*];exact lM er hr (p:=fun v K=>j7 op v K) (fun _ _ k=>⟨KO _ _ k⟩) (fun _ _ _ hk k=>w9 hk _ _ k) k
    ·simp only[*];exact lM er hr (p:=fun v K=>z7 op v K) (fun _ _ k=>⟨Ls _ _ k⟩) (fun _ _ _ hk k=>qm hk _ _ k) k
    ·simp only[*];exact lM er hr (p:=fun v K=>zQ op v K) (fun _ _ k=>⟨KA _ _ k⟩) (fun _ _ _ hk k=>qQ hk _ _ k) k
    ·simp only[*];exact lM er hr (p:=fun v K=>zT op v K) (fun _ _ k=>⟨Lg _ _ k⟩) (fun _ _ _ hk k=>qq hk _ _ k) k
    ·exact bg k
   split
   ·rename_i he;exact (hns _ he).elim
   ·exact this
 case call c=>
  split at k
  ·rename_i hc
   simp only[hc]
   split at k
   ·rename_i m kk ty rest ha ht
    obtain⟨kt,et,d,h1,h2,k⟩:=wd (Cl (F:=fun d=>d5 (opv env m) (opv env kk) fun a b=>v8 d a b h fun h'=>KH K (.tup []) h') (fun d k=>Tq er hr (p:=fun v u h K=>v8 d v u h K) (fun _ _ _ k=>⟨Jx hr k⟩) k) k)
    obtain⟨a,h3,k⟩:=ar k
    obtain⟨b,h4,k⟩:=ar k
    rw[ha,ht]
    simp only[i3,h3,h4,dH]
    unfold wF
    simp only[h1,h2]
    exact k
   ·exact bg k
  ·exact bg k
 all_goals exact bg k
theorem Qr (hcall:iP P call) (er:ER e env) (hr:HR t n h) {o:Oper}(k:(OS P o.op).f call e t n K=true):tn P env h o (KH K):=by
 unfold OS at k
 unfold tn
 split at k
 ·rename_i hn;rw[if_pos hn];exact PB er hr k
 ·rename_i hn;rw[hn,if_neg (by simp)];exact Qg hcall er hr k
omit [Tabs] in
theorem Mx (c:UInt8):∀ (l:List UInt8) (i:Nat),NV l c i=if Lib.indexByte l c=-1 then -1 else Lib.indexByte l c+i
 | [],i=>rfl
 | b::l,i=>by
   have ih:=Mx c l (i+1)
   have hge:=Lib.indexByte_ge l c
   have e1:NV (b::l) c i=if (b==c)=true then (i:Int) else NV l c (i+1):=by
    show @Bool.casesOn (fun _=>Int) (uEq b c) (NV l c (i+1)) (.ofNat i)=_
    rw[Fe]
    cases hb:(b==c)<;>rfl
   rw[e1,ih]
   simp only[Lib.indexByte]
   by_cases hb:(b==c)=true
   ·simp[hb]
   ·simp only[hb,if_false]
    by_cases h1:Lib.indexByte l c=-1
    ·simp[h1]
    ·rw[if_neg h1,if_neg (show ¬ (Lib.indexByte l c==-1)=true by simpa using h1)]
     simp only[Bool.false_eq_true,if_false]
     rw[if_neg (by omega)];omega
omit [Tabs] in
theorem Lx (c:UInt8):∀ (l:List UInt8) (n:Nat),Np l c n=n+Lib.countByte l c
 | [],n=>rfl
 | b::l,n=>by
   have e1:Np (b::l) c n=Np l c (if (b==c)=true then n+1 else n):=by
    show Np l c (@Bool.casesOn (fun _=>Nat) (uEq b c) n (n+1))=_
    rw[Fe]
    cases hb:(b==c)<;>rfl
   rw[e1,Lx c l]
   simp only[Lib.countByte,List.count_cons]
   cases hb:(b==c)<;>simp<;>omega
omit [Tabs] in
theorem S3 {x:Ext}{vs:List AV}{K:AV→Bool}(k:TY x vs K=true):vS x vs fun r=>K r=true:=by
 unfold TY at k
 split at k
 ·rw[MF,Mx]at k
  show K (I (Lib.indexByte _ _))=true
  split at k
  ·rename_i h1;rw[h1];exact k
  ·simpa using k
 ·rw[jE,Lx]at k
  show K (I (Lib.countByte _ _))=true
  simpa using k
 ·exact k
 ·rw[jE]at k;exact k
 ·cases k
omit [Tabs] in
theorem Fj (m n:Nat):SC m n=Nat.min m n:=by
 show @Bool.casesOn (fun _=>Nat) (Nat.ble m n) n m=min m n
 cases h:Nat.ble m n
 ·have:¬ m≤n:=fun e=>by rw[Nat.ble_eq_true_of_le e]at h;cases h
  exact (Nat.min_eq_right (Nat.le_of_not_le this)).symm
 ·exact (Nat.min_eq_left (Nat.le_of_ble_eq_true h)).symm
theorem RJ (r:HR t n h) {size:Nat}{v x:AV}{K:AV→HT→Nat→Bool}(k:Qp size v x t n K=true):yZ size v x h (KH K):=by
 unfold Qp at k
 unfold yZ
 split at k
 ·cases k
 ·rename_i m xs hx
  simp only[xq r hx]
  split at k
  ·split at k
   ·rename_i cs hc
    simp only[r.at_ _ _ hc]
    simp only[Bool.and_eq_true,decide_eq_true_eq,jE,Fj]at k
    exact⟨k.1,_,_,r.set hc,k.2⟩
   ·cases k
  ·rw[db,Fj]at k
   exact⟨Nat.eq_of_beq_eq_true k.1,_,_,r,k.2⟩
  ·rw[db,Fj]at k
   exact⟨Nat.eq_of_beq_eq_true k.1,_,_,r,k.2⟩
  ·cases k
theorem MI (r:HR t n h) {size:Nat}{u v:AV}{K:HT→Nat→Bool}(k:Jt size u v t n K=true):sH size u v h (KS K):=by
 unfold Jt at k
 unfold sH
 split at k
 ·split at k
  ·rename_i cs hc
   simp only[r.at_ _ _ hc]
   simp only[Bool.and_eq_true,decide_eq_true_eq]at k
   exact⟨k.1,_,_,r.set hc,k.2⟩
  ·cases k
 ·exact⟨_,_,r,k⟩
 ·exact⟨_,_,r,k⟩
 ·cases k
theorem vX {ts:Array TypeId}{F:Value→TypeInfo→ClO}{K:AV→HT→Nat→Bool}{T:Value→TypeInfo→Prop}(hk:∀ z i,(F z i).f call e t n K=true→T z i) (k:(Mb P ts F).f call e t n K=true):Bw P ts T:=by
 unfold Mb at k
 unfold Bw
 split at k
 ·split at k
  ·split at k
   ·split at k
    ·split at k
     ·simp only[*,if_true]
     ·exact bg k
    ·exact bg k
   ·exact bg k
  ·exact bg k
 ·exact bg k
def mB (tb:nO):Prop:=∀ g cs,tb g=some cs→Tabs.tab g=some cs
theorem MU {tb:nO}(ht:mB tb) (er:ER e env) (hr:HR t n h) {o:Oper}(k:(JC P tb o.op).f call e t n K=true):tS P env h o (KH K):=by
 obtain⟨dst,op,ty,pos,after,guard⟩:=o
 cases op<;>simp only[JC]at k<;>simp only[tS]<;>try exact bg k
 case call c=>
  split at k
  ·rename_i f hc
   simp only[hc]
   split at k
   ·rename_i x hx
    obtain⟨vs,h1,k⟩:=jC er k
    rw[h1]
    simp only[dH,hx]
    exact⟨xp (fun r k=>kh hr k) (S3 k)⟩
   ·exact bg k
  ·rename_i hc
   simp only[hc]
   cases hvs:i3 env c.args.toList with
   | none=>
     exfalso
     have:Bw P c.argTypes fun _ _=>False:=vX (fun z i k=>by
      split at k
      ·rename_i x y ha
       simp only[e2]at k
       obtain⟨v,h1,k⟩:=bq er k
       obtain⟨u,h2,k⟩:=bq er k
       rw[ha]at hvs;simp[i3,h1,h2]at hvs
      ·exact bg k) k
     obtain⟨_,_,_,_,_,_,_,_,_,hf⟩:=zN this
     exact hf
   | some vs=>
     refine vX (fun z i k=>?_) k
     split at k
     ·rename_i x y ha
      simp only[e2]at k
      obtain⟨v,h1,k⟩:=bq er k
      obtain⟨u,h2,k⟩:=bq er k
      rw[ha]at hvs
      simp only[i3,h1,h2,Option.some.injEq]at hvs
      subst hvs
      exact⟨RJ hr k⟩
     ·exact bg k
  ·rename_i hc
   simp only[hc]
   cases hvs:i3 env c.args.toList with
   | none=>
     exfalso
     have:Bw P c.argTypes fun _ _=>False:=vX (fun z i k=>by
      split at k
      ·rename_i x ha
       obtain⟨v,h1,k⟩:=bq er k
       rw[ha]at hvs;simp[i3,h1]at hvs
      ·exact bg k) k
     obtain⟨_,_,_,_,_,_,_,_,_,hf⟩:=zN this
     exact hf
   | some vs=>
     refine vX (fun z i k=>?_) k
     split at k
     ·rename_i x ha
      obtain⟨v,h1,k⟩:=bq er k
      rw[ha]at hvs
      simp only[i3,h1,Option.some.injEq]at hvs
      subst hvs
      exact⟨MI hr k⟩
     ·exact bg k
  ·exact bg k
 case indexAddr ty x i=>
  cases x<;>simp only at k ⊢<;>try exact bg k
  split at k
  ·rename_i cs hg
   simp only[ht _ _ hg]
   split at k
   ·split at k
    ·refine cJ (fun v k=>?_) (lM er hr (p:=fun v K=>dN _ _ (.cptr cs) v K) (fun _ _ k=>⟨tT _ _ _ _ k⟩) (fun _ _ _ hk k=>en hk _ _ _ _ k) k)
     unfold d6;simp only[*]
    ·exact bg k
   ·exact bg k
  ·exact bg k
 case load ty x=>
  cases x<;>simp only at k ⊢<;>try exact bg k
  split at k
  ·rename_i cs hg
   simp only[ht _ _ hg]
   unfold QO at k
   unfold iZ
   split at k
   ·split at k
    ·simp only[*,if_true];exact fU (fun r k=>kh hr k) _ _ _ ⟨ye hr k⟩
    ·simp only[*,Bool.false_eq_true,if_false];exact fR (fun r k=>kh hr k) _ _ ⟨x9 hr k⟩
   ·exact bg k
  ·exact bg k
theorem pV {tb:nO}(ht:mB tb) (hcall:iP P call) (er:ER e env) (hr:HR t n h) {o:Oper}(k:(y0 P tb o.op).f call e t n K=true):aop P env h o (KH K):=by
 unfold y0 at k
 unfold aop
 split at k
 ·rename_i hn;rw[if_pos hn];exact MU ht er hr k
 ·rename_i hn;rw[hn,if_neg (by simp)];exact Qr hcall er hr k
end
end
section
structure ClR where
 f:jZ→ET→HT→Nat→(ET→HT→Nat→Bool)→Bool
structure PD where
 q:Nat
 o:Oper
 e:ET
 v:AV
structure ClD where
 f:jZ→ET→HT→Nat→List PD→(ET→HT→Nat→List PD→Bool)→Bool
structure ClC where
 f:jZ→ET→HT→Nat→(Exit→ET→HT→Nat→Bool)→Bool
structure ClF where
 f:jZ→List AV→HT→Nat→(AV→HT→Nat→Bool)→Bool
structure ClV where
 f:ET→HT→(List AV→Bool)→Bool
def noR:ClR:=⟨fun _ _ _ _ _=>false⟩
def noD:ClD:=⟨fun _ _ _ _ _ _=>false⟩
def noC:ClC:=⟨fun _ _ _ _ _=>false⟩
def noF:ClF:=⟨fun _ _ _ _ _=>false⟩
def ym (e:ET) (d:Option Tmp) (v:AV):ET:=match d with|some d=>(pp d).s e v|none=>e
def DX (P:Program) (tb:nO) (nt:Nat) (o:Oper):ClR:=match eL nt o.dst with
 | true=>(match o.dst with
   | some d=>⟨fun c e t n K=>(y0 P tb o.op).f c e t n fun v t n=>K ((pp d).s e v) t n⟩
   | none=>⟨fun c e t n K=>(y0 P tb o.op).f c e t n fun _ t n=>K e t n⟩)
 | false=>noR
def ifV (v:AV) (x y:Bool):Bool:=match v with|.lit (.bool true)=>x|.lit (.bool false)=>y|_=>false
def MJ (g:Bool) (v:AV) (x y z:Bool):Bool:=match v with|.lit (.bool true)=>x|.lit (.bool false)=>y|.tup []=>bA g z|_=>false
def pj (P:Program) (tb:nO) (nt:Nat) (ops:Array Oper):List Nat→ClR
 | []=>⟨fun _ e t n K=>K e t n⟩
 | i::rest=>match ops[i]? with
   | none=>noR
   | some o=>match o.guard with
     | none=>⟨fun c e t n K=>(DX P tb nt o).f c e t n fun e t n=>(pj P tb nt ops rest).f c e t n K⟩
     | some (j,want)=>match (ops[j]?).bind (·.dst) with
       | none=>noR
       | some s=>match want with
         | true=>⟨fun c e t n K=>oM ((pp s).g e) fun v=>MJ (M7 ops j) v ((DX P tb nt o).f c e t n fun e t n=>(pj P tb nt ops rest).f c e t n K) (bA (eL nt o.dst) ((pj P tb nt ops rest).f c (ym e o.dst (.tup [])) t n K)) (bA (eL nt o.dst) ((pj P tb nt ops rest).f c (ym e o.dst (.tup [])) t n K))⟩
         | false=>⟨fun c e t n K=>oM ((pp s).g e) fun v=>MJ (M7 ops j) v (bA (eL nt o.dst) ((pj P tb nt ops rest).f c (ym e o.dst (.tup [])) t n K)) ((DX P tb nt o).f c e t n fun e t n=>(pj P tb nt ops rest).f c e t n K) (bA (eL nt o.dst) ((pj P tb nt ops rest).f c (ym e o.dst (.tup [])) t n K))⟩
def QA:Value→Value→Bool
 | .bool a,.bool b=>a==b
 | .int j a,.int k b=>kEq j k&&iEq a b
 | .string a,.string b=>sEq a b
 | .pointer none,.pointer none=>true
 | .map none,.map none=>true
 | .nilFunc,.nilFunc=>true
 | .nilIface,.nilIface=>true
 | _,_=>false
theorem QV {a b:Value}(h:QA a b=true):a=b:=by
 unfold QA at h
 split at h<;>first
  | rfl
  | (cases h;done)
  | (simp only[beq_iff_eq]at h;rw[h])
  | (simp only[Bool.and_eq_true,LW,LP]at h;rw[h.1,h.2])
  | (rw[FW]at h;rw[h])
def UG:Fn→Fn→Bool
 | .func a,.func b=>Nat.beq a b
 | _,_=>false
mutual
def uu:AV→AV→Bool
 | .lit a,.lit b=>QA a b
 | .ptr i o,.ptr j p=>Nat.beq i j&&Nat.beq o p
 | .cptr a,.cptr b=>sM a b
 | .sl i o l s,.sl j p m r=>Nat.beq i j&&Nat.beq o p&&Nat.beq l m&&Nat.beq s r
 | .snap n a,.snap m b=>Nat.beq n m&&sM a b
 | .full n a,.full m b=>Nat.beq n m&&sM a b
 | .map i,.map j=>Nat.beq i j
 | .fn f a b,.fn g c d=>UG f g&&(sM a c&&sM b d)
 | .iface t v,.iface u w=>Nat.beq t u&&uu v w
 | .agg a,.agg b=>sM a b
 | .tup a,.tup b=>sM a b
 | .sym i,.sym j=>Nat.beq i j
 | _,_=>false
def sM:List AV→List AV→Bool
 | [],[]=>true
 | a::l,b::m=>uu a b&&sM l m
 | _,_=>false
end
theorem R3:∀ {a b:Fn},UG a b=true→a=b
 | .func a,.func b,h=>by have:=Nat.eq_of_beq_eq_true h;rw[this]
mutual
theorem EY:∀ (a b:AV),uu a b=true→a=b
 | .lit a,b,h=>by cases b<;>simp only[uu]at h<;>first|(cases h;done)|(rw[QV h])
 | .ptr i o,b,h=>by
   cases b<;>simp only[uu,Bool.and_eq_true]at h<;>first|(cases h;done)|skip
   rw[Nat.eq_of_beq_eq_true h.1,Nat.eq_of_beq_eq_true h.2]
 | .cptr a,b,h=>by cases b<;>simp only[uu]at h<;>first|(cases h;done)|(rw[lI _ _ h])
 | .sl i o l s,b,h=>by
   cases b<;>simp only[uu,Bool.and_eq_true]at h<;>first|(cases h;done)|skip
   rw[Nat.eq_of_beq_eq_true h.1.1.1,Nat.eq_of_beq_eq_true h.1.1.2,Nat.eq_of_beq_eq_true h.1.2,Nat.eq_of_beq_eq_true h.2]
 | .snap n a,b,h=>by
   cases b<;>simp only[uu,Bool.and_eq_true]at h<;>first|(cases h;done)|skip
   rw[Nat.eq_of_beq_eq_true h.1,lI _ _ h.2]
 | .full n a,b,h=>by
   cases b<;>simp only[uu,Bool.and_eq_true]at h<;>first|(cases h;done)|skip
   rw[Nat.eq_of_beq_eq_true h.1,lI _ _ h.2]
 | .map i,b,h=>by cases b<;>simp only[uu]at h<;>first|(cases h;done)|(rw[Nat.eq_of_beq_eq_true h])
 | .fn f a c,b,h=>by
   cases b<;>simp only[uu,Bool.and_eq_true]at h<;>first|(cases h;done)|skip
   rw[R3 h.1,lI _ _ h.2.1,lI _ _ h.2.2]
 | .iface t v,b,h=>by
   cases b<;>simp only[uu,Bool.and_eq_true]at h<;>first|(cases h;done)|skip
   rw[Nat.eq_of_beq_eq_true h.1,EY _ _ h.2]
 | .agg a,b,h=>by cases b<;>simp only[uu]at h<;>first|(cases h;done)|(rw[lI _ _ h])
 | .tup a,b,h=>by cases b<;>simp only[uu]at h<;>first|(cases h;done)|(rw[lI _ _ h])
 | .sym i,b,h=>by cases b<;>simp only[uu]at h<;>first|(cases h;done)|(rw[Nat.eq_of_beq_eq_true h])
theorem lI:∀ (a b:List AV),sM a b=true→a=b
 | [],b,h=>by cases b<;>simp only[sM]at h<;>first|rfl|(cases h;done)
 | a::l,b,h=>by
   cases b<;>simp only[sM,Bool.and_eq_true]at h<;>first|(cases h;done)|skip
   rw[EY _ _ h.1,lI _ _ h.2]
end
def Hg (P:Program) (tb:nO) (c:jZ) (m:Nat) (t:HT) (n:Nat) (k:Bool):List PD→Bool
 | []=>k
 | ⟨q,o,e,v⟩::r=>bI (Nat.testBit m q) (Hg P tb c m t n k r) (bA ((y0 P tb o.op).f c e t n fun r _ _=>uu r v) (Hg P tb c m t n k r))
def A9 (P:Program) (tb:nO) (nt:Nat) (m i:Nat) (o:Oper):ClD:=match eL nt o.dst with
 | true=>(match qOp P o.op with
   | true=>(match hOp P o.op with
     | true=>⟨fun c e t n pd K=>(y0 P tb o.op).f c e t n fun v t n=>K (ym e o.dst v) t n (⟨i,o,e,v⟩::pd)⟩
     | false=>⟨fun c e t n pd K=>(y0 P tb o.op).f c e t n fun v t n=>K (ym e o.dst v) t n pd⟩)
   | false=>⟨fun c e t n pd K=>(y0 P tb o.op).f c e t n fun v t n=>Hg P tb c m t n (K (ym e o.dst v) t n pd) pd⟩)
 | false=>noD
def u0 (P:Program) (tb:nO) (nt:Nat) (ops:Array Oper) (ms:List (Nat×Nat)):List Nat→ClD
 | []=>⟨fun _ e t n pd K=>K e t n pd⟩
 | i::rest=>match ops[i]? with
   | none=>noD
   | some o=>match o.guard with
     | none=>⟨fun c e t n pd K=>(A9 P tb nt (nQ ms i) i o).f c e t n pd fun e t n pd=>(u0 P tb nt ops ms rest).f c e t n pd K⟩
     | some (j,want)=>match (ops[j]?).bind (·.dst) with
       | none=>noD
       | some s=>match want with
         | true=>⟨fun c e t n pd K=>oM ((pp s).g e) fun v=>MJ (M7 ops j) v ((A9 P tb nt (nQ ms i) i o).f c e t n pd fun e t n pd=>(u0 P tb nt ops ms rest).f c e t n pd K) (bA (eL nt o.dst) ((u0 P tb nt ops ms rest).f c (ym e o.dst (.tup [])) t n pd K)) (bA (eL nt o.dst) ((u0 P tb nt ops ms rest).f c (ym e o.dst (.tup [])) t n pd K))⟩
         | false=>⟨fun c e t n pd K=>oM ((pp s).g e) fun v=>MJ (M7 ops j) v (bA (eL nt o.dst) ((u0 P tb nt ops ms rest).f c (ym e o.dst (.tup [])) t n pd K)) ((A9 P tb nt (nQ ms i) i o).f c e t n pd fun e t n pd=>(u0 P tb nt ops ms rest).f c e t n pd K) (bA (eL nt o.dst) ((u0 P tb nt ops ms rest).f c (ym e o.dst (.tup [])) t n pd K))⟩
def U0 (P:Program) (ops:Array Oper) (done:List Nat):Option Nat:=
 let ready:=(List.range ops.size).filter fun i=>!done.contains i&&(match ops[i]? with|some o=>(rH o).all done.contains|none=>false)
 match ready.find? (fun i=>match ops[i]? with|some o=>qOp P o.op|none=>false) with
 | some i=>some i
 | none=>ready.head?
def Qh (P:Program) (ops:Array Oper):Nat→List Nat→List Nat
 | 0,done=>done.reverse
 | k+1,done=>match U0 P ops done with
   | some i=>Qh P ops k (i::done)
   | none=>done.reverse
def B8 (P:Program) (ops:Array Oper):Option (List Nat):=
 match lD P ops (Qh P ops ops.size []) with
 | true=>some (Qh P ops ops.size [])
 | false=>match lD P ops (List.range ops.size) with
   | true=>some (List.range ops.size)
   | false=>none
def UI (body:ClC) (c:jZ):Nat→ET→HT→Nat→(Exit→ET→HT→Nat→Bool)→Bool
 | 0,_,_,_,_=>false
 | k+1,e,t,n,K=>body.f c e t n fun ex e t n=>match ex with|.normal=>UI body c k e t n K|ex=>K ex e t n
def Rj (body:ClC) (c:jZ) (k:Nat):ET→HT→Nat→(Exit→ET→HT→Nat→Bool)→Bool:=
 @Nat.rec (fun _=>ET→HT→Nat→(Exit→ET→HT→Nat→Bool)→Bool) (fun _ _ _ _=>false) (fun _ ih e t n K=>body.f c e t n fun ex e t n=>match ex with|.normal=>ih e t n K|ex=>K ex e t n) k
def pC:Nat:=1000000
def qx:Code→Option Nat
 | .label l=>some l
 | .seq a b=>match qx a with|some l=>some l|none=>qx b
 | .cond _ a b=>match qx a with|some l=>some l|none=>qx b
 | .block _ b=>qx b
 | .loop b=>qx b
 | _=>none
def B9 (l:Nat) (again:ET→HT→Nat→Bool) (K:Exit→ET→HT→Nat→Bool):Exit→ET→HT→Nat→Bool:=
 fun ex e t n=>match ex with|.goto l'=>bA (Nat.beq l' l) (again e t n)|ex=>K ex e t n
def Uy (body:ClC) (c:jZ) (l:Nat):Nat→ET→HT→Nat→(Exit→ET→HT→Nat→Bool)→Bool
 | 0,_,_,_,_=>false
 | k+1,e,t,n,K=>body.f c e t n (B9 l (fun e t n=>Uy body c l k e t n K) K)
def MC (body:ClC) (c:jZ) (l:Nat) (k:Nat):ET→HT→Nat→(Exit→ET→HT→Nat→Bool)→Bool:=
 @Nat.rec (fun _=>ET→HT→Nat→(Exit→ET→HT→Nat→Bool)→Bool) (fun _ _ _ _=>false) (fun _ ih e t n K=>body.f c e t n (B9 l (fun e t n=>ih e t n K) K)) k
def ko (P:Program) (tb:nO) (nt:Nat) (jmp:Code→ClC):Code→ClC
 | .skip=>⟨fun _ e t n K=>K .normal e t n⟩
 | .ret=>⟨fun _ e t n K=>K .ret e t n⟩
 | .exit id=>⟨fun _ e t n K=>K (.exit id) e t n⟩
 | .goto l=>⟨fun _ e t n K=>K (.goto l) e t n⟩
 | .label _=>⟨fun _ e t n K=>K .normal e t n⟩
 | .region _ ops d=>match d with
   | false=>⟨fun c e t n K=>(pj P tb nt ops (List.range ops.size)).f c e t n fun e t n=>K .normal e t n⟩
   | true=>match B8 P ops,P.follows .mixedOrders with
     | some l,true=>⟨fun c e t n K=>(u0 P tb nt ops (ml ops l []) l).f c e t n [] fun e t n _=>K .normal e t n⟩
     | _,_=>noC
 | .seq x y=>⟨fun c e t n K=>(ko P tb nt jmp x).f c e t n fun ex e t n=>match ex with|.normal=>(ko P tb nt jmp y).f c e t n K|ex=>K ex e t n⟩
 | .cond x a b=>⟨fun c e t n K=>(eA x).f e fun v=>ifV v ((ko P tb nt jmp a).f c e t n K) ((ko P tb nt jmp b).f c e t n K)⟩
 | .block id x=>⟨fun c e t n K=>(ko P tb nt jmp x).f c e t n fun ex e t n=>match ex with|.exit i=>bI (Nat.beq i id) (K .normal e t n) (K (.exit i) e t n)|ex=>K ex e t n⟩
 | .loop x=>⟨fun c e t n K=>Rj (ko P tb nt jmp x) c pC e t n K⟩
 | .scope x=>match qx x with
   | some l=>(match findLabel x l with
     | some rest=>⟨fun c e t n K=>(ko P tb nt jmp x).f c e t n (B9 l (fun e t n=>MC (jmp rest) c l pC e t n K) K)⟩
     | none=>noC)
   | none=>noC
 | _=>noC
def TN (P:Program) (tb:nO) (nt:Nat):Code→ClC:=ko P tb nt fun _=>noC
def LI (P:Program) (tb:nO) (nt:Nat):Code→ClC:=ko P tb nt (TN P tb nt)
def rD (P:Program):List ResultVar→ClV
 | []=>⟨fun _ _ K=>K []⟩
 | .tmp s::rs=>⟨fun e t K=>oM ((pp s).g e) fun v=>(rD P rs).f e t fun vs=>K (v::vs)⟩
 | .cell a ty::rs=>match P.underlying ty,P.info? ty with
   | some d,some i=>(match j9 d with
     | true=>⟨fun e t K=>oM ((pp a).g e) fun p=>BH i.size p t fun v=>(rD P rs).f e t fun vs=>K (v::vs)⟩
     | false=>⟨fun e t K=>oM ((pp a).g e) fun p=>BX p t fun v=>(rD P rs).f e t fun vs=>K (v::vs)⟩)
   | _,_=>⟨fun _ _ _=>false⟩
def H5:Nat→List AV→ET
 | _,[]=>ee0
 | k,v::vs=>(pp k).s (H5 (k+1) vs) v
def wD (P:Program) (tb:nO) (fn:Func):ClF:=match fn.body with
 | none=>noF
 | some c => match fn.name == "runtime.NumGoroutine" with
   | true=>noF
   | false=>⟨fun call args t n K=>bA (Nat.ble args.length fn.ntmps) ((LI P tb fn.ntmps c).f call (H5 0 args) t n fun ex e t n=>match ex with
     | .normal=>(rD P fn.results.toList).f e t fun vs=>K (u1 vs) t n
     | .ret=>(rD P fn.results.toList).f e t fun vs=>K (u1 vs) t n
     | _=>false)⟩
abbrev Ej:=FuncId→List AV→HT→Nat→(AV→HT→Nat→Bool)→Option Bool
variable [Tabs]
section
variable {P:Program}{nt:Nat}{call:jZ}{tb:nO}
def KE (K:ET→HT→Nat→Bool) (env:Env) (h:ab):Prop:=∃ e t n,ER e env∧HR t n h∧K e t n=true
theorem ER.putD {e:ET}{env:Env}(r:ER e env) (d:Option Tmp) (v:AV):ER (ym e d v) (putD env d v):=by
 cases d with
 | none=>exact r
 | some d=>exact r.put d v
theorem ER.know {e:ET}{env:Env}(r:ER e env) {s:Nat}{v:AV}(h:(pp s).g e=some v):ER e ((s,v)::env):=fun k u hu=>by
 simp only[AL.get]
 by_cases hk:s=k
 ·subst hk;rw[if_pos rfl,← h,hu]
 ·rw[if_neg hk];exact r k u hu
theorem wm (ht:mB tb) (hc:iP P call) {o:Oper}{e:ET}{env:Env}{t:HT}{n:Nat}{h:ab}{K:ET→HT→Nat→Bool}(er:ER e env) (hr:HR t n h) (k:(DX P tb nt o).f call e t n K=true):ni P nt env h o (KE K):=by
 unfold DX at k
 unfold ni
 split at k
 ·rename_i hd
  rw[if_pos hd]
  split at k
  ·rename_i d ho
   refine iX (fun v h' k=>?_) (pV ht hc er hr k)
   obtain⟨t',n',hr',k⟩:=k
   refine⟨_,t',n',?_,hr',k⟩
   rw[ho];exact er.put d v
  ·rename_i ho
   refine iX (fun v h' k=>?_) (pV ht hc er hr k)
   obtain⟨t',n',hr',k⟩:=k
   refine⟨_,t',n',?_,hr',k⟩
   rw[ho];exact er
 ·cases k
theorem Ba {o:Option AV}{K:AV→Bool}(k:oM o K=true):∃ v,o=some v∧K v=true:=by
 unfold oM at k;split at k
 ·exact⟨_,rfl,k⟩
 ·cases k
theorem TZ {v:AV}{x y:Bool}(k:ifV v x y=true):(v=B true∧x=true)∨(v=B false∧y=true):=by
 unfold ifV at k;split at k
 ·exact .inl ⟨rfl,k⟩
 ·exact .inr ⟨rfl,k⟩
 ·cases k
theorem zW {g:Bool}{v:AV}{x y z:Bool}(k:MJ g v x y z=true):(v=B true∧x=true)∨(v=B false∧y=true)∨(v=.tup []∧g=true∧z=true):=by
 unfold MJ at k;split at k
 ·exact .inl ⟨rfl,k⟩
 ·exact .inr (.inl ⟨rfl,k⟩)
 ·rw[db]at k;exact .inr (.inr ⟨rfl,k⟩)
 ·cases k
theorem Jo {ops:Array Oper}{l:List Nat}{env:Env}{h:ab}{K K':Env→ab→Prop}(hk:∀ env' h',K env' h'→K' env' h') (k:hH P nt ops l env h K):hH P nt ops l env h K':=
 qi ops l env h K K' (fun env' h' _ k=>hk env' h' k) k
theorem rP {env:Env}{h:ab}{o:Oper}{K K':Env→ab→Prop}(hk:∀ env' h',K env' h'→K' env' h') (k:ni P nt env h o K):ni P nt env h o K':=
 AR (fun v h' k=>hk _ _ k) k
theorem jB (ht:mB tb) (hc:iP P call) (ops:Array Oper):∀ (l:List Nat) {e:ET}{env:Env}{t:HT}{n:Nat}{h:ab}{K:ET→HT→Nat→Bool},ER e env→HR t n h→(pj P tb nt ops l).f call e t n K=true→hH P nt ops l env h (KE K)
 | [],e,env,t,n,h,K,er,hr,k=>⟨e,t,n,er,hr,k⟩
 | i::rest,e,env,t,n,h,K,er,hr,k=>by
   unfold pj at k
   unfold hH
   split at k
   ·cases k
   ·rename_i o ho
    simp only[ho]
    split at k
    ·rename_i hg
     simp only[hg]
     exact rP (fun env' h' ⟨e',t',n',er',hr',k'⟩=>jB ht hc ops rest er' hr' k') (wm ht hc er hr k)
    ·rename_i j want hg
     simp only[hg]
     split at k
     ·cases k
     ·rename_i s hs
      simp only[hs]
      split at k
      ·obtain⟨v,hv,k⟩:=Ba k
       rw[er s _ hv]
       replace k:=zW k
       rcases k with ⟨rfl,k⟩|⟨rfl,k⟩|⟨rfl,hgd,k⟩
       ·refine Mm ?_
        simp only[if_true]
        exact rP (fun env' h' ⟨e',t',n',er',hr',k'⟩=>jB ht hc ops rest er' hr' k') (wm ht hc (er.know hv) hr k)
       ·refine Md ?_
        simp only[if_true]
        rw[db]at k
        rw[if_pos k.1]
        exact jB ht hc ops rest ((er.know hv).putD _ _) hr k.2
       ·simp only[bO,hgd,ifG,ifT]
        rw[db]at k
        rw[if_pos k.1]
        exact jB ht hc ops rest ((er.know hv).putD _ _) hr k.2
      ·obtain⟨v,hv,k⟩:=Ba k
       rw[er s _ hv]
       replace k:=zW k
       rcases k with ⟨rfl,k⟩|⟨rfl,k⟩|⟨rfl,hgd,k⟩
       ·refine Mm ?_
        simp only[Bool.false_eq_true,if_false]
        rw[db]at k
        rw[if_pos k.1]
        exact jB ht hc ops rest ((er.know hv).putD _ _) hr k.2
       ·refine Md ?_
        simp only[Bool.false_eq_true,if_false]
        exact rP (fun env' h' ⟨e',t',n',er',hr',k'⟩=>jB ht hc ops rest er' hr' k') (wm ht hc (er.know hv) hr k)
       ·simp only[bO,hgd,ifG,ifT]
        rw[db]at k
        rw[if_pos k.1]
        exact jB ht hc ops rest ((er.know hv).putD _ _) hr k.2
def PR (P:Program):List PD→m8→Prop
 | [],p=>p=[]
 | ⟨q,o,e,v⟩::r,p=>∃ env p',p=(q,fun h2=>aop P env h2 o fun r _=>r=v)::p'∧ER e env∧PR P r p'
theorem BO (ht:mB tb) (hc:iP P call) {m:Nat}{t:HT}{n:Nat}{h:ab}(hr:HR t n h) {k:Bool}{X:Prop}(hk:k=true→X):∀ {pd:List PD}{p:m8},PR P pd p→Hg P tb call m t n k pd=true→o7 m p h X
 | [],p,hp,b=>by simp only[PR]at hp;subst hp;exact hk b
 | ⟨q,o,e,v⟩::r,p,hp,b=>by
   obtain⟨env,p',rfl,er,hp⟩:=hp
   unfold Hg at b
   unfold o7
   rcases (GG _ _ _).1 b with ⟨hq,b⟩|⟨hq,b⟩
   ·rw[if_pos hq];exact BO ht hc hr hk hp b
   ·rw[if_neg (by rw[hq];simp)]
    rw[db]at b
    exact⟨iX (fun r h' ⟨t',n',_,k⟩=>EY _ _ k) (pV ht hc er hr b.1),BO ht hc hr hk hp b.2⟩
def KD (P:Program) (K:ET→HT→Nat→List PD→Bool) (env:Env) (h:ab) (p:m8):Prop:=∃ e t n pd,ER e env∧HR t n h∧PR P pd p∧K e t n pd=true
theorem yl (ht:mB tb) (hc:iP P call) {m i:Nat}{o:Oper}{e:ET}{env:Env}{t:HT}{n:Nat}{h:ab}{pd:List PD}{p:m8}{K:ET→HT→Nat→List PD→Bool}(er:ER e env) (hr:HR t n h) (hp:PR P pd p) (k:(A9 P tb nt m i o).f call e t n pd K=true):ny P nt m i o env h p (KD P K):=by
 unfold A9 at k
 unfold ny
 split at k
 ·rename_i hd
  rw[if_pos hd]
  split at k
  ·rename_i hq
   rw[if_pos hq]
   split at k
   ·rename_i hh
    refine iX (fun v h' k=>?_) (pV ht hc er hr k)
    obtain⟨t',n',hr',k⟩:=k
    rw[if_pos hh]
    exact⟨_,t',n',⟨i,o,e,v⟩::pd,er.putD _ _,hr',⟨env,p,rfl,er,hp⟩,k⟩
   ·rename_i hh
    refine iX (fun v h' k=>?_) (pV ht hc er hr k)
    obtain⟨t',n',hr',k⟩:=k
    rw[if_neg (by rw[hh];simp)]
    exact⟨_,t',n',_,er.putD _ _,hr',hp,k⟩
  ·rename_i hq
   rw[if_neg (by rw[hq];simp)]
   refine iX (fun v h' k=>?_) (pV ht hc er hr k)
   obtain⟨t',n',hr',k⟩:=k
   exact BO ht hc hr' (fun k=>⟨_,t',n',_,er.putD _ _,hr',hp,k⟩) hp k
 ·cases k
theorem lK (ht:mB tb) (hc:iP P call) (ops:Array Oper) (ms:List (Nat×Nat)):∀ (l:List Nat) {e:ET}{env:Env}{t:HT}{n:Nat}{h:ab}{pd:List PD}{p:m8}{K:ET→HT→Nat→List PD→Bool},ER e env→HR t n h→PR P pd p→(u0 P tb nt ops ms l).f call e t n pd K=true→
  i7 P nt ops ms l env h p fun env' h'=>∃ e t n pd,ER e env'∧HR t n h'∧K e t n pd=true
 | [],e,env,t,n,h,pd,p,K,er,hr,hp,k=>⟨e,t,n,pd,er,hr,k⟩
 | i::rest,e,env,t,n,h,pd,p,K,er,hr,hp,k=>by
   unfold u0 at k
   unfold i7
   have sm:∀ {env:Env} {K' K2:Env→ab→m8→Prop} {o:Oper},(∀ env' h' p',K' env' h' p'→K2 env' h' p')→ny P nt (nQ ms i) i o env h p K'→ny P nt (nQ ms i) i o env h p K2:=fun hk k=>A1 (fun v h' p' k=>hk _ _ _ k) k
   split at k
   ·cases k
   ·rename_i o ho
    simp only[ho]
    split at k
    ·rename_i hg
     simp only[hg]
     exact sm (fun env' h' p' ⟨e',t',n',pd',er',hr',hp',k'⟩=>lK ht hc ops ms rest er' hr' hp' k') (yl ht hc er hr hp k)
    ·rename_i j want hg
     simp only[hg]
     split at k
     ·cases k
     ·rename_i s hs
      simp only[hs]
      split at k
      ·obtain⟨v,hv,k⟩:=Ba k
       rw[er s _ hv]
       replace k:=zW k
       rcases k with ⟨rfl,k⟩|⟨rfl,k⟩|⟨rfl,hgd,k⟩
       ·refine Mm ?_
        simp only[if_true]
        exact sm (fun env' h' p' ⟨e',t',n',pd',er',hr',hp',k'⟩=>lK ht hc ops ms rest er' hr' hp' k') (yl ht hc (er.know hv) hr hp k)
       ·refine Md ?_
        simp only[if_true]
        rw[db]at k
        rw[if_pos k.1]
        exact lK ht hc ops ms rest ((er.know hv).putD _ _) hr hp k.2
       ·simp only[bO,hgd,ifG,ifT]
        rw[db]at k
        rw[if_pos k.1]
        exact lK ht hc ops ms rest ((er.know hv).putD _ _) hr hp k.2
      ·obtain⟨v,hv,k⟩:=Ba k
       rw[er s _ hv]
       replace k:=zW k
       rcases k with ⟨rfl,k⟩|⟨rfl,k⟩|⟨rfl,hgd,k⟩
       ·refine Mm ?_
        simp only[Bool.false_eq_true,if_false]
        rw[db]at k
        rw[if_pos k.1]
        exact lK ht hc ops ms rest ((er.know hv).putD _ _) hr hp k.2
       ·refine Md ?_
        simp only[Bool.false_eq_true,if_false]
        exact sm (fun env' h' p' ⟨e',t',n',pd',er',hr',hp',k'⟩=>lK ht hc ops ms rest er' hr' hp' k') (yl ht hc (er.know hv) hr hp k)
       ·simp only[bO,hgd,ifG,ifT]
        rw[db]at k
        rw[if_pos k.1]
        exact lK ht hc ops ms rest ((er.know hv).putD _ _) hr hp k.2
theorem GK {ops:Array Oper}{l:List Nat}(h:B8 P ops=some l):lD P ops l=true:=by
 unfold B8 at h
 split at h
 ·cases h;assumption
 ·split at h
  ·cases h;assumption
  ·cases h
theorem yr {c:Code}{Q Q':Exit→Act→World→Prop}(hq:∀ e a w,Q e a w→Q' e a w):∀ (k:Nat) (a:Act) (w:World),Code.rounds P c Q k a w→Code.rounds P c Q' k a w
 | 0,a,w,h=>h
 | k+1,a,w,h=>Go.wp_mono h fun e a' w' p=>by
   cases e with
   | normal=>exact yr hq k a' w' p
   | _=>exact hq _ _ _ p
def KX (K:Exit→ET→HT→Nat→Bool) (ex:Exit) (env:Env) (h:ab):Prop:=∃ e t n,ER e env∧HR t n h∧K ex e t n=true
theorem LM {c:Code}{body:ClC}(hb:∀ {e:ET}{env:Env}{t:HT}{n:Nat}{h:ab}{K:Exit→ET→HT→Nat→Bool},ER e env→HR t n h→body.f call e t n K=true→AWp P nt c env h (KX K)):
  ∀ (k:Nat) {e:ET} {env:Env} {t:HT} {n:Nat} {h:ab} {K:Exit→ET→HT→Nat→Bool},ER e env→HR t n h→Rj body call k e t n K=true→
    ∀ (G:Gh) (w:World) (a:Act),Sim G h w→a.tmps.size=nt→EnvRep G env a.tmps→Code.rounds P c (Post G h w nt a.defers (KX K)) k a w
 | 0,e,env,t,n,h,K,er,hr,k=>by cases k
 | m+1,e,env,t,n,h,K,er,hr,k=>by
   intro G w a s hn r
   refine Go.wp_mono (hb er hr k G w a s hn r) fun ex a' w' p=>?_
   obtain⟨env',h',G',⟨e',t',n',er',hr',hk⟩,s',ev,r',hn',hd'⟩:=p
   cases ex with
   | normal=>
     have:=LM hb m er' hr' hk G' w' a' s' hn' r'
     exact yr (fun e a2 w2 p2=>by rw[hd']at p2;exact p2.step ev) m a' w' this
   | _=>exact⟨env',h',G',⟨e',t',n',er',hr',hk⟩,s',ev,r',hn',hd'⟩
def TX (P:Program) (nt:Nat) (call:jZ) (f:Code→ClC):Prop:=∀ (c:Code) {e:ET}{env:Env}{t:HT}{n:Nat}{h:ab}{K:Exit→ET→HT→Nat→Bool},ER e env→HR t n h→(f c).f call e t n K=true→AWp P nt c env h (KX K)
def wz (P:Program) (rest:Code) (l:Nat) (Q:Exit→Act→World→Prop):Nat→Act→World→Prop
 | 0,_,_=>False
 | n+1,a,w=>rest.wp P (Exit.jump l (wz P rest l Q n) Q) a w
theorem vM {rest:Code}{l:Nat}{Q Q':Exit→Act→World→Prop}(hq:∀ e a w,Q e a w→Q' e a w):∀ (k:Nat) (a:Act) (w:World),wz P rest l Q k a w→wz P rest l Q' k a w
 | 0,a,w,h=>h
 | k+1,a,w,h=>Go.wp_mono h fun e a' w' p=>by
   cases e with
   | goto l'=>exact⟨p.1,vM hq k a' w' p.2⟩
   | _=>exact hq _ _ _ p
theorem CG {c rest:Code}{Q:Exit→Act→World→Prop}{a:Act}{w:World}(l m:Nat) (hf:findLabel c l=some rest) (first:c.wp P (Exit.jump l (wz P rest l Q m) Q) a w):(Code.scope c).wp P Q a w:=by
 refine wp_scope_jumps l (fun a w=>∃ k,wz P rest l Q k a w) (fun a w=>x2 fun k=>wz P rest l Q k a w) hf (Go.wp_mono first fun e a' w' p=>?_) fun a w hJ=>?_
 ·cases e with
  | goto l'=>exact⟨p.1,m,p.2⟩
  | _=>exact p
 ·have hsp:=sV hJ
  generalize hk:x2 (fun k=>wz P rest l Q k a w)=k at hsp
  cases k with
  | zero=>exact hsp.elim
  | succ k=>
    refine Go.wp_mono (show rest.wp P (Exit.jump l (wz P rest l Q k) Q) a w from hsp) fun e a' w' p=>?_
    cases e with
    | goto l'=>exact⟨p.1,⟨k,p.2⟩,Nat.lt_of_le_of_lt (xk p.2) (Nat.lt_succ_self k)⟩
    | _=>exact p
theorem Ih {rest:Code}{body:ClC}{l:Nat}(hb:∀ {e:ET}{env:Env}{t:HT}{n:Nat}{h:ab}{K:Exit→ET→HT→Nat→Bool},ER e env→HR t n h→body.f call e t n K=true→AWp P nt rest env h (KX K)):
  ∀ (k:Nat) {e:ET} {env:Env} {t:HT} {n:Nat} {h:ab} {K:Exit→ET→HT→Nat→Bool},ER e env→HR t n h→MC body call l k e t n K=true→
    ∀ (G:Gh) (w:World) (a:Act),Sim G h w→a.tmps.size=nt→EnvRep G env a.tmps→wz P rest l (Post G h w nt a.defers (KX K)) k a w
 | 0,e,env,t,n,h,K,er,hr,k=>by cases k
 | m+1,e,env,t,n,h,K,er,hr,k=>by
   intro G w a s hn r
   have k:body.f call e t n (B9 l (fun e t n=>MC body call l m e t n K) K)=true:=k
   refine Go.wp_mono (hb er hr k G w a s hn r) fun ex a' w' p=>?_
   obtain⟨env',h',G',⟨e',t',n',er',hr',hk⟩,s',ev,r',hn',hd'⟩:=p
   cases ex with
   | goto l'=>
     simp only[B9,db]at hk
     refine⟨Nat.eq_of_beq_eq_true hk.1,?_⟩
     have:=Ih hb m er' hr' hk.2 G' w' a' s' hn' r'
     exact vM (fun e a2 w2 p2=>by rw[hd']at p2;exact p2.step ev) m a' w' this
   | _=>exact⟨env',h',G',⟨e',t',n',er',hr',hk⟩,s',ev,r',hn',hd'⟩
theorem DZ (ht:mB tb) (hc:iP P call) {jmp:Code→ClC}(hj:TX P nt call jmp):∀ (c:Code) {e:ET}{env:Env}{t:HT}{n:Nat}{h:ab}{K:Exit→ET→HT→Nat→Bool},ER e env→HR t n h→(ko P tb nt jmp c).f call e t n K=true→AWp P nt c env h (KX K):=by
 intro c
 induction c with
 | skip=>exact fun er hr k=>Io ⟨_,_,_,er,hr,k⟩
 | ret=>exact fun er hr k=>Mk ⟨_,_,_,er,hr,k⟩
 | exit id=>exact fun er hr k=>HB ⟨_,_,_,er,hr,k⟩
 | goto l=>exact fun er hr k=>I5 ⟨_,_,_,er,hr,k⟩
 | label l=>exact fun er hr k=>Ew ⟨_,_,_,er,hr,k⟩
 | region id ops d=>
   intro e env t n h K er hr k
   cases d with
   | false=>exact BG (Jo (fun env' h' ⟨e',t',n',er',hr',k'⟩=>⟨e',t',n',er',hr',k'⟩) (jB ht hc ops _ er hr k))
   | true=>
     simp only[ko]at k
     split at k
     ·rename_i l hl hf
      refine DU hf (GK hl) (mY ops _ l env h [] _ _ (fun env' h' _ ⟨e',t',n',pd,er',hr',k'⟩=>⟨e',t',n',er',hr',k'⟩) (lK ht hc ops _ l er hr (pd:=[]) (by simp[PR]) k))
     ·cases k
 | seq x y hx hy=>
   intro e env t n h K er hr k
   refine FG ((hx er hr k).mono fun ex env' h' ⟨e',t',n',er',hr',k'⟩=>?_)
   cases ex with
   | normal=>exact hy er' hr' k'
   | _=>exact⟨e',t',n',er',hr',k'⟩
 | cond x a b ha hb=>
   intro e env t n h K er hr k
   obtain⟨v,hv,k⟩:=bq er k
   refine Iq ?_
   rw[hv]
   rcases TZ k with ⟨rfl,k1⟩|⟨rfl,k1⟩
   ·exact ha er hr k1
   ·exact hb er hr k1
 | block id x hx=>
   intro e env t n h K er hr k
   refine Dr ((hx er hr k).mono fun ex env' h' ⟨e',t',n',er',hr',k'⟩=>?_)
   cases ex with
   | exit i=>
     simp only[GG]at k'
     rcases k' with ⟨hi,k'⟩|⟨hi,k'⟩
     ·show if i=id then _ else _
      rw[if_pos (Nat.eq_of_beq_eq_true hi)];exact⟨e',t',n',er',hr',k'⟩
     ·show if i=id then _ else _
      rw[if_neg (fun e=>by rw[Nat.beq_eq.mpr e]at hi;cases hi)];exact⟨e',t',n',er',hr',k'⟩
   | _=>exact⟨e',t',n',er',hr',k'⟩
 | loop x hx=>
   intro e env t n h K er hr k G w a s hn r
   have k':Rj (ko P tb nt jmp x) call pC e t n K=true:=k
   generalize pC=m at k'
   exact wp_loop_rounds m (LM (fun er hr k=>hx er hr k) m er hr k' G w a s hn r)
 | scope x hx=>
   intro e env t n h K er hr k
   simp only[ko]at k
   split at k
   ·rename_i l hl
    split at k
    ·rename_i rest hrest
     intro G w a s hn r
     have k':(ko P tb nt jmp x).f call e t n (B9 l (fun e t n=>MC (jmp rest) call l pC e t n K) K)=true:=k
     clear k
     generalize pC=m at k'
     refine CG l m hrest (Go.wp_mono (hx er hr k' G w a s hn r) fun ex a' w' p=>?_)
     obtain⟨env',h',G',⟨e',t',n',er',hr',hk⟩,s',ev,r',hn',hd'⟩:=p
     cases ex with
     | goto l'=>
       simp only[B9,db]at hk
       refine⟨Nat.eq_of_beq_eq_true hk.1,?_⟩
       have:=Ih (hj rest) m er' hr' hk.2 G' w' a' s' hn' r'
       exact vM (fun e a2 w2 p2=>by rw[hd']at p2;exact p2.step ev) m a' w' this
     | _=>exact⟨env',h',G',⟨e',t',n',er',hr',hk⟩,s',ev,r',hn',hd'⟩
    ·cases k
   ·cases k
 | _=>intro e env t n h K er hr k;cases k
theorem vY (ht:mB tb) (hc:iP P call):∀ (c:Code) {e:ET}{env:Env}{t:HT}{n:Nat}{h:ab}{K:Exit→ET→HT→Nat→Bool},ER e env→HR t n h→(LI P tb nt c).f call e t n K=true→AWp P nt c env h (KX K):=
 DZ ht hc (DZ ht hc fun c {e env t n h K} er hr k=>by cases k)
theorem qc {e:ET}{env:Env}{t:HT}{n:Nat}{h:ab}(er:ER e env) (hr:HR t n h):∀ {rs:List ResultVar}{K:List AV→Bool},(rD P rs).f e t K=true→C4 P env h rs fun vs=>K vs=true
 | [],K,k=>k
 | .tmp s::rs,K,k=>by
   obtain⟨v,hv,k⟩:=Ba k
   unfold C4
   rw[er s _ hv]
   exact qc er hr k
 | .cell a ty::rs,K,k=>by
   simp only[rD]at k
   unfold C4
   split at k
   ·split at k
    ·obtain⟨v,hv,k⟩:=Ba k
     rw[er a _ hv]
     show iZ P ty v h _
     unfold iZ
     simp only[*,if_true]
     exact fU (fun r k=>qc er hr k) _ _ _ ⟨ye hr k⟩
    ·obtain⟨v,hv,k⟩:=Ba k
     rw[er a _ hv]
     show iZ P ty v h _
     unfold iZ
     simp only[*,Bool.false_eq_true,if_false]
     exact fR (fun r k=>qc er hr k) _ _ ⟨x9 hr k⟩
   ·cases k
theorem m5 {env:Env}{h:ab}:∀ {rs:List ResultVar}{K K':List AV→Prop},(∀ vs,K vs→K' vs)→C4 P env h rs K→C4 P env h rs K'
 | [],K,K',hk,k=>hk _ k
 | .tmp s::rs,K,K',hk,k=>cJ (fun v k=>m5 (fun vs k=>hk _ k) k) k
 | .cell a ty::rs,K,K',hk,k=>cJ (fun v k=>by
   unfold iZ at *
   split at k
   ·split at k
    ·rename_i hd;rw[if_pos hd];exact fU (fun r k=>m5 (fun vs k=>hk _ k) k) _ _ _ k
    ·rename_i hd;rw[if_neg hd];exact fR (fun r k=>m5 (fun vs k=>hk _ k) k) _ _ k
   ·exact k.elim) k
theorem wQ:∀ (k:Nat) (vs:List AV),ER (H5 k vs) (eo k vs)
 | k,[]=>fun i v h=>by rw[H5,Sk]at h;cases h
 | k,v::vs=>(wQ (k+1) vs).put k v
theorem Qn (ht:mB tb) (hc:iP P call) {f:FuncId}{fn:Func}(hf:P.funcs[f]?=some fn) {args:List AV}{t:HT}{n:Nat}{h:ab}{K:AV→HT→Nat→Bool}(hr:HR t n h) (k:(wD P tb fn).f call args t n K=true):ACall P f args h (KH K):=by
 unfold wD at k
 split at k
 ·cases k
 ·rename_i c hb
  split at k
  ·cases k
  ·rename_i hname
   simp only[db]at k
   obtain⟨hn,k⟩:=k
   have hn:=Nat.le_of_ble_eq_true hn
   refine⟨⟨fn,hf,hname,by simp[hb]⟩,fun G w vs s r=>?_⟩
   refine calls_of_wp hf hb ?_
   have hl:=r.length
   have hre:EnvRep G (eo 0 args) (vs.toArray++Array.replicate (fn.ntmps-vs.toArray.size) undef):=fun k a e=>by
    obtain⟨_,h1⟩:=pA args 0 k a e
    obtain⟨v,h2,h3⟩:=r.at _ _ h1
    have hk:k<vs.length:=(List.getElem?_eq_some_iff.1 h2).1
    exact⟨v,by rw[Array.getElem?_append_left (by simpa using hk)];simpa using h2,h3⟩
   have W:=vY ht hc c (wQ 0 args) hr k G w { tmps:=vs.toArray++Array.replicate (fn.ntmps-vs.toArray.size) undef,defers:=[] } s (by simp;omega) hre
   have fin:∀ {e:ET} {env':Env} {t':HT} {n':Nat} {h':ab},ER e env'→HR t' n' h'→(rD P fn.results.toList).f e t' (fun vs=>K (u1 vs) t' n')=true→Cu P fn.results.toList env' h' (KH K):=fun er hr k=>
    m5 (fun vs k=>kh hr k) (qc er hr k)
   refine wp_mono W fun e a w' ⟨env',h',G',⟨e',t',n',er',hr',hk⟩,s',ev,r',hn',hd'⟩=>?_
   cases e with
   | normal=>
     obtain⟨v,x,q1,q2,q3⟩:=mL s' r' (fin er' hr' hk)
     exact⟨hd',x,q1,v,x,h',G',rfl,q2,q3,s',ev⟩
   | ret=>
     obtain⟨v,x,q1,q2,q3⟩:=mL s' r' (fin er' hr' hk)
     exact⟨hd',x,q1,v,x,h',G',rfl,q2,q3,s',ev⟩
   | exit id=>cases hk
   | goto l=>cases hk
   | panic ch=>cases hk
   | outgrown=>cases hk
def JK (P:Program) (sp:Ej):Prop:=∀ (f:FuncId) (args:List AV) (t:HT) (n:Nat) (h:ab) (K:AV→HT→Nat→Bool),HR t n h→sp f args t n K=some true→ACall P f args h (KH K)
end
end
section
structure QC where
 c0:Code
 id:Nat
 o1:Oper
 oD:Oper
 g:FuncId
 args:List Operand
 rest:Code
def zM (o:Oper):Option (FuncId×List Operand):=match o.op with
 | .defer c=>(match c.callee with|.value (.func g)=>some (g,c.args.toList)|_=>none)
 | _=>none
def EI:Code→Option QC
 | .seq c0 (.seq (.region id ops false) rest)=>match ops.toList with
   | [o1,oD]=>(match o1.guard,oD.guard,zM oD with
     | none,none,some (g,args)=>some ⟨c0,id,o1,oD,g,args,rest⟩
     | _,_,_=>none)
   | _=>none
 | _=>none
def U4 (P : Program) (g : FuncId) : Bool := match P.funcs[g]? with | some fn => (fn.body.isSome && !(fn.name == "runtime.NumGoroutine")) | none => false
def Kb (P:Program) (tb:nO) (fn:Func):ClF:=match fn.body with
 | none=>noF
 | some c => match fn.name == "runtime.NumGoroutine" with
   | true=>noF
   | false=>match EI c with
     | none=>noF
     | some d=>match P.funcs[d.g]?,eL fn.ntmps d.oD.dst with
       | some gn, true => match gn.name == "runtime.NumGoroutine" with
         | true=>noF
         | false=>⟨fun call args t n K=>bA (Nat.ble args.length fn.ntmps) ((LI P tb fn.ntmps d.c0).f call (H5 0 args) t n fun ex e t n=>match ex with
           | .normal=>(DX P tb fn.ntmps d.o1).f call e t n fun e t n=>(oN d.args).f e fun vs=>(LI P tb fn.ntmps d.rest).f call (ym e d.oD.dst (.tup [])) t n fun ex e t n=>match ex with
             | .normal=>(wD P tb gn).f call vs t n fun _ t n=>(rD P fn.results.toList).f e t fun rs=>K (u1 rs) t n
             | .ret=>(wD P tb gn).f call vs t n fun _ t n=>(rD P fn.results.toList).f e t fun rs=>K (u1 rs) t n
             | _=>false
           | _=>false)⟩
       | _,_=>noF
def Jb (P:Program) (tb:nO) (fn:Func):ClF:=match fn.body with
 | none=>noF
 | some c=>match EI c with
   | none=>wD P tb fn
   | some _=>Kb P tb fn
def Va (P:Program) (tb:nO) (sp:Ej):Nat→jZ
 | 0=>fun _ _ _ _ _=>false
 | k+1=>fun f args t n K=>match sp f args t n K with
   | some b=>b
   | none=>match P.funcs[f]? with
     | some fn=>(Jb P tb fn).f (Va P tb sp k) args t n K
     | none=>false
def N3 (P:Program) (tb:nO) (sp:Ej) (k:Nat):jZ:=
 @Nat.rec (fun _=>jZ) (fun _ _ _ _ _=>false) (fun _ ih f args t n K=>match sp f args t n K with
  | some b=>b
  | none=>match P.funcs[f]? with
    | some fn=>(Jb P tb fn).f ih args t n K
    | none=>false) k
variable [Tabs]
section
variable {P:Program}{nt:Nat}{call:jZ}{tb:nO}
def T4 (P:Program) (f:FuncId) (args:List AV) (h:ab) (K:QT):Prop:=
 ∀ (G:Gh) (w:World) (vs:List Value) (u:FrameMode),Sim G h w→RepL G args vs→
   CallsD P f vs.toArray u w fun e u' w'=>u'=u∧∃ r v h' G',e=.returned v∧Rep G' r v∧K r h'∧Sim G' h' w'∧Evo G h w G' h' w'
theorem OI (ht:mB tb) (hc:iP P call) {f:FuncId}{fn:Func}(hf:P.funcs[f]?=some fn) {args:List AV}{t:HT}{n:Nat}{h:ab}{K:AV→HT→Nat→Bool}(hr:HR t n h) (k:(wD P tb fn).f call args t n K=true):T4 P f args h (KH K):=by
 unfold wD at k
 split at k
 ·cases k
 ·rename_i c hb
  split at k
  ·cases k
  ·rename_i hname
   simp only[db]at k
   obtain⟨hn,k⟩:=k
   have hn:=Nat.le_of_ble_eq_true hn
   intro G w vs u s r
   refine callsD_of_wp hf hb ?_
   have hl:=r.length
   have hre:EnvRep G (eo 0 args) (vs.toArray++Array.replicate (fn.ntmps-vs.toArray.size) undef):=fun k a e=>by
    obtain⟨_,h1⟩:=pA args 0 k a e
    obtain⟨v,h2,h3⟩:=r.at _ _ h1
    have hk:k<vs.length:=(List.getElem?_eq_some_iff.1 h2).1
    exact⟨v,by rw[Array.getElem?_append_left (by simpa using hk)];simpa using h2,h3⟩
   have W:=vY ht hc c (wQ 0 args) hr k G w { tmps:=vs.toArray++Array.replicate (fn.ntmps-vs.toArray.size) undef,defers:=[] } s (by simp;omega) hre
   have fin:∀ {e:ET} {env':Env} {t':HT} {n':Nat} {h':ab},ER e env'→HR t' n' h'→(rD P fn.results.toList).f e t' (fun vs=>K (u1 vs) t' n')=true→Cu P fn.results.toList env' h' (KH K):=fun er hr k=>
    m5 (fun vs k=>kh hr k) (qc er hr k)
   refine wp_mono W fun e a w' ⟨env',h',G',⟨e',t',n',er',hr',hk⟩,s',ev,r',hn',hd'⟩=>?_
   cases e with
   | normal=>
     obtain⟨v,x,q1,q2,q3⟩:=mL s' r' (fin er' hr' hk)
     exact⟨hd',x,q1,v,x,h',G',rfl,q2,q3,s',ev⟩
   | ret=>
     obtain⟨v,x,q1,q2,q3⟩:=mL s' r' (fin er' hr' hk)
     exact⟨hd',x,q1,v,x,h',G',rfl,q2,q3,s',ev⟩
   | exit id=>cases hk
   | goto l=>cases hk
   | panic ch=>cases hk
   | outgrown=>cases hk
theorem NS {c:Code}{d:QC}(h:EI c=some d):c=.seq d.c0 (.seq (.region d.id #[d.o1,d.oD] false) d.rest)∧d.o1.guard=none∧d.oD.guard=none∧zM d.oD=some (d.g,d.args):=by
 unfold EI at h
 split at h
 ·rename_i c0 id ops rest
  split at h
  ·rename_i o1 oD hops
   split at h
   ·rename_i g args h1 h2 h3
    cases h
    have:ops=#[o1,oD]:=by apply Array.toList_inj.1;simpa using hops
    subst this
    exact⟨rfl,h1,h2,h3⟩
   ·cases h
  ·cases h
 ·cases h
theorem K5 {o:Oper}{g:FuncId}{args:List Operand}(h:zM o=some (g,args)):∃ c,o.op=.defer c∧c.callee=.value (.func g)∧c.args.toList=args:=by
 unfold zM at h
 split at h
 ·rename_i c hc
  split at h
  ·rename_i g' hg
   cases h
   exact⟨c,hc,hg,rfl⟩
  ·cases h
 ·cases h
theorem M6 (ht:mB tb) (hc:iP P call) {f:FuncId}{fn:Func}(hf:P.funcs[f]?=some fn) {args:List AV}{t:HT}{n:Nat}{h:ab}{K:AV→HT→Nat→Bool}(hr:HR t n h) (k:(Kb P tb fn).f call args t n K=true):ACall P f args h (KH K):=by
 unfold Kb at k
 split at k
 ·cases k
 ·rename_i c hb
  split at k
  ·cases k
  ·rename_i hname
   split at k
   ·cases k
   ·rename_i d hd
    split at k
    ·rename_i gn hg hdst
     split at k
     ·cases k
     ·rename_i hgn
      obtain⟨rfl,hg1,hg2,hdef⟩:=NS hd
      obtain⟨dc,hop,hcal,hargs⟩:=K5 hdef
      simp only[db]at k
      obtain⟨hn,k⟩:=k
      have hn:=Nat.le_of_ble_eq_true hn
      refine⟨⟨fn,hf,hname,by simp[hb]⟩,fun G w vs s r=>?_⟩
      refine calls_of_wp_defers hf hb ?_
      have hl:=r.length
      have hre:EnvRep G (eo 0 args) (vs.toArray++Array.replicate (fn.ntmps-vs.toArray.size) undef):=fun k a e=>by
       obtain⟨_,h1⟩:=pA args 0 k a e
       obtain⟨v,h2,h3⟩:=r.at _ _ h1
       have hk:k<vs.length:=(List.getElem?_eq_some_iff.1 h2).1
       exact⟨v,by rw[Array.getElem?_append_left (by simpa using hk)];simpa using h2,h3⟩
      have W:=vY ht hc d.c0 (wQ 0 args) hr k G w { tmps:=vs.toArray++Array.replicate (fn.ntmps-vs.toArray.size) undef,defers:=[] } s (by simp;omega) hre
      refine wp_seq (Go.wp_mono W fun ex a1 w1 p=>?_)
      obtain⟨env1,h1,G1,⟨e1,t1,n1,er1,hr1,k1⟩,s1,ev1,r1,hn1,hd1⟩:=p
      cases ex with
      | normal=>
        simp only at k1
        refine wp_seq (wp_region ?_)
        have st:=wm ht hc er1 hr1 k1
        have k1:=()
        unfold wpOps
        simp only[List.size_toArray,List.length_cons,List.length_nil,List.getElem?_toArray,List.range,List.range.loop,List.getElem?_cons_zero]
        rw[if_pos (by simp[Region.wanted,hg1])]
        refine .inl (It s1 hn1 r1 st fun a2 w2 ⟨env2,h2,G2,⟨e2,t2,n2,er2,hr2,k2⟩,s2,ev2,r2,hn2,hd2⟩=>?_)
        unfold wpOps
        simp only[List.getElem?_toArray,List.getElem?_cons_succ,List.getElem?_cons_zero]
        rw[if_pos (by simp[Region.wanted,hg2])]
        refine .inl ?_
        obtain⟨ds,q1,k2⟩:=jC er2 k2
        have hds:=hB r2 q1
        unfold Oper.wp
        have hrun:(execOp a2.eval d.oD).run P w2=.ok (.defer ⟨.fn (.func d.g) #[],(d.args.map a2.eval).toArray⟩) w2:=by
         unfold execOp
         rw[hop]
         simp only[resolve,hcal,Act.eval,Deferred.ofValue,Sem.run_bind,Sem.run_pure,Result.andThen_ok]
         congr 3
         apply Array.toList_inj.1
         simp[← hargs]
        rw[hrun,Oper.upon_defer]
        unfold wpOps
        have hnA:({ a2 with defers:=⟨.fn (.func d.g) #[],(d.args.map a2.eval).toArray⟩::a2.defers }:Act).tmps.size=fn.ntmps:=hn2
        have hnB:(({ a2 with defers:=⟨.fn (.func d.g) #[],(d.args.map a2.eval).toArray⟩::a2.defers }:Act).put d.oD.dst undef).tmps.size=fn.ntmps:=by rw[put_size];exact hn2
        have rA:EnvRep G2 env2 ({ a2 with defers:=⟨.fn (.func d.g) #[],(d.args.map a2.eval).toArray⟩::a2.defers }:Act).tmps:=r2
        have rB:=rA.putD (d:=d.oD.dst) (by rw[hnA];exact hdst) (v:=.tup []) (x:=undef) (by simp[Rep,RepL,undef])
        have W2:=vY ht hc d.rest (er2.putD d.oD.dst (.tup [])) hr2 k2 G2 w2 _ s2 hnB rB
        refine wp_mono W2 fun ex a3 w3 ⟨env3,h3,G3,⟨e3,t3,n3,er3,hr3,k3⟩,s3,ev3,r3,hn3,hd3⟩=>?_
        rw[put_defers]at hd3
        have hd3:a3.defers=[⟨.fn (.func d.g) #[],(d.args.map a2.eval).toArray⟩]:=by rw[hd3,hd2,hd1]
        have fin:(wD P tb gn).f call ds t3 n3 (fun _ t n=>(rD P fn.results.toList).f e3 t fun rs=>K (u1 rs) t n)=true→Leaves P fn a3.tmps (fun e w'=>∃ r v h' G',e=.returned v∧Rep G' r v∧KH K r h'∧Sim G' h' w'∧Evo G h w G' h' w') a3.defers .returning w3:=fun k3=>by
         rw[hd3]
         have hbody:gn.body.isNone=false:=by
          cases hbb:gn.body with
          | none=>unfold wD at k3;rw[hbb]at k3;cases k3
          | some _=>rfl
         refine leaves_cons (f:=d.g) (args:=(d.args.map a2.eval).toArray) (by simp) ?_ ?_
         ·simp only[invoke,callFunc,Sem.run_bind,run_program,Result.andThen_ok,hg,hgn,hbody,Bool.false_eq_true,if_false,Sem.run_pure,Array.append_empty]
         ·have dd:=OI ht hc hg hr3 k3 G3 w3 (d.args.map a2.eval) .returning s3 (RepL.mono ev3.le _ _ hds)
          refine dd.mono fun e u' w' ⟨hu,rr,v,h',G',he,hv,⟨t4,n4,hr4,k4⟩,s4,ev4⟩=>?_
          subst he;subst hu
          simp only[settle,Leaves]
          have fk:Cu P fn.results.toList env3 h' (KH K):=m5 (fun vs k=>kh hr4 k) (qc er3 hr4 k4)
          obtain⟨v',x,z1,z2,z3⟩:=mL s4 (r3.mono ev4.le) fk
          exact⟨x,z1,v',x,h',G',rfl,z2,z3,s4,((ev1.trans ev2).trans ev3).trans ev4⟩
        cases ex with
        | normal=>exact fin k3
        | ret=>exact fin k3
        | exit id=>cases k3
        | goto l=>cases k3
        | panic ch=>cases k3
        | outgrown=>cases k3
      | ret=>cases k1
      | exit id=>cases k1
      | goto l=>cases k1
      | panic ch=>cases k1
      | outgrown=>cases k1
    ·cases k
theorem PG (ht:mB tb) (hc:iP P call) {f:FuncId}{fn:Func}(hf:P.funcs[f]?=some fn) {args:List AV}{t:HT}{n:Nat}{h:ab}{K:AV→HT→Nat→Bool}(hr:HR t n h) (k:(Jb P tb fn).f call args t n K=true):ACall P f args h (KH K):=by
 unfold Jb at k
 split at k
 ·cases k
 ·split at k
  ·exact Qn ht hc hf hr k
  ·exact M6 ht hc hf hr k
theorem L6 {sp:Ej}(ht:mB tb) (hs:JK P sp):∀ d,iP P (N3 P tb sp d)
 | 0=>fun f args t n h K hr k=>by cases k
 | d+1=>fun f args t n h K hr k=>by
   have k:(match sp f args t n K with
    | some b=>b
    | none=>match P.funcs[f]? with
      | some fn=>(Jb P tb fn).f (N3 P tb sp d) args t n K
      | none=>false)=true:=k
   split at k
   ·rename_i b hb;subst k;exact hs f args t n h K hr hb
   ·split at k
    ·rename_i fn hf;exact PG ht (L6 ht hs d) hf hr k
    ·cases k
