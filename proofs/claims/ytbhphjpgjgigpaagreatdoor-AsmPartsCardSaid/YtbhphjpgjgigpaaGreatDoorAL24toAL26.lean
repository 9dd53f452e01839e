import Derived.Test.YtbhphjpgjgigpaaGreatDoorAL20toAL23
import Derived.ScopeJumps
import Derived.Defers
set_option linter.all false
set_option autoImplicit true
set_option relaxedAutoImplicit true
set_option maxRecDepth 100000
namespace Go.Proofs.YtbhphjpgjgigpaaGreatDoor.AL
noncomputable section
section
variable [Tabs]
section
variable {P:Program}{e:ET}{env:Env}{t:HT}{n:Nat}{h:ab}{K:AV→HT→Nat→Bool}{call:jT}
def iC (P:Program) (call:jT):Prop:=∀ (f:FuncId) (args:List AV) (t:HT) (n:Nat) (h:ab) (K:AV→HT→Nat→Bool),HR t n h→call f args t n K=true→ACall P f args h (KH K)
theorem kh {r:AV}(hr:HR t n h) (k:K r t n=true):KH K r h:=⟨t,n,hr,k⟩
theorem l9 (er:ER e env) (hr:HR t n h) {x:Operand}{g:AV→(AV→Bool)→Bool}{p:AV→(AV→Prop)→Prop}(hg:∀ v K,g v K=true→p v fun r=>K r=true) (hm:∀ v K K',(∀ r,K r→K' r)→p v K→p v K')
  (k:(q1 x g).f call e t n K=true):bJ (opv env x) fun v=>p v fun r=>KH K r h:=by
 obtain⟨v,h1,k⟩:=bm er k
 rw[h1]
 exact hm _ _ _ (fun r k=>kh hr k) (hg _ _ k)
theorem A0 (er:ER e env) (hr:HR t n h) {x:Operand}{g:AV→HT→(AV→Bool)→Bool}{p:AV→ab→(AV→Prop)→Prop}(hg:∀ v K,g v t K=true→p v h fun r=>K r=true) (hm:∀ v K K',(∀ r,K r→K' r)→p v h K→p v h K')
  (k:(q1t x g).f call e t n K=true):bJ (opv env x) fun v=>p v h fun r=>KH K r h:=by
 obtain⟨v,h1,k⟩:=bm er k
 rw[h1]
 exact hm _ _ _ (fun r k=>kh hr k) (hg _ _ k)
theorem sb (er:ER e env) (hr:HR t n h) {x y:Operand}{g:AV→AV→(AV→Bool)→Bool}{p:AV→AV→(AV→Prop)→Prop}(hg:∀ v u K,g v u K=true→p v u fun r=>K r=true) (hm:∀ v u K K',(∀ r,K r→K' r)→p v u K→p v u K')
  (k:(q2 x y g).f call e t n K=true):dX (opv env x) (opv env y) fun v u=>p v u fun r=>KH K r h:=by
 obtain⟨v,h1,k⟩:=bm er k
 obtain⟨u,h2,k⟩:=bm er k
 rw[h1,h2]
 exact hm _ _ _ _ (fun r k=>kh hr k) (hg _ _ _ k)
theorem TX (er:ER e env) (hr:HR t n h) {x y:Operand}{g:AV→AV→HT→(AV→Bool)→Bool}{p:AV→AV→ab→(AV→Prop)→Prop}(hg:∀ v u K,g v u t K=true→p v u h fun r=>K r=true) (hm:∀ v u K K',(∀ r,K r→K' r)→p v u h K→p v u h K')
  (k:(q2t x y g).f call e t n K=true):dX (opv env x) (opv env y) fun v u=>p v u h fun r=>KH K r h:=by
 obtain⟨v,h1,k⟩:=bm er k
 obtain⟨u,h2,k⟩:=bm er k
 rw[h1,h2]
 exact hm _ _ _ _ (fun r k=>kh hr k) (hg _ _ _ k)
theorem CZ (er:ER e env) (hr:HR t n h) {x:Operand}{g:AV→HT→Nat→(AV→HT→Nat→Bool)→Bool}{p:AV→ab→(QT)→Prop}(hg:∀ v K,g v t n K=true→p v h (KH K))
  (k:(e1 x g).f call e t n K=true):bJ (opv env x) fun v=>p v h (KH K):=by
 obtain⟨v,h1,k⟩:=bm er k
 rw[h1]
 exact hg _ _ k
theorem PP (er:ER e env) (hr:HR t n h) {x y:Operand}{g:AV→AV→HT→Nat→(AV→HT→Nat→Bool)→Bool}{p:AV→AV→ab→(QT)→Prop}(hg:∀ v u K,g v u t n K=true→p v u h (KH K))
  (k:(e2 x y g).f call e t n K=true):dX (opv env x) (opv env y) fun v u=>p v u h (KH K):=by
 obtain⟨v,h1,k⟩:=bm er k
 obtain⟨u,h2,k⟩:=bm er k
 rw[h1,h2]
 exact hg _ _ _ k
theorem S1 (er:ER e env) (hr:HR t n h) {x y:Operand}{g:AV→AV→HT→Nat→(HT→Nat→Bool)→Bool}{p:AV→AV→ab→(ab→Prop)→Prop}(hg:∀ v u K,g v u t n K=true→p v u h (KS K))
  (k:(s2 x y g).f call e t n K=true):dX (opv env x) (opv env y) fun v u=>p v u h fun h'=>KH K (.tup []) h':=by
 obtain⟨v,h1,k⟩:=bm er k
 obtain⟨u,h2,k⟩:=bm er k
 rw[h1,h2]
 exact hg _ _ _ k
theorem Qi (er:ER e env) (hr:HR t n h) {x y z:Operand}{g:AV→AV→AV→HT→Nat→(HT→Nat→Bool)→Bool}{p:AV→AV→AV→ab→(ab→Prop)→Prop}(hg:∀ v u w K,g v u w t n K=true→p v u w h (KS K))
  (k:(s3 x y z g).f call e t n K=true):dX (opv env x) (opv env y) fun v u=>bJ (opv env z) fun w=>p v u w h fun h'=>KH K (.tup []) h':=by
 obtain⟨v,h1,k⟩:=bm er k
 obtain⟨u,h2,k⟩:=bm er k
 obtain⟨w,h3,k⟩:=bm er k
 rw[h1,h2,h3]
 exact hg _ _ _ _ k
omit [Tabs] in
theorem bc {X:Prop}(k:noO.f call e t n K=true):X:=by cases k
theorem cD {o:Option AV}{K K':AV→Prop}(hk:∀ v,K v→K' v) (k:bJ o K):bJ o K':=by
 unfold bJ at *;split at k
 ·exact hk _ k
 ·exact k.elim
theorem Mt (er:ER e env) (hr:HR t n h) {ty:TypeId}{is:List Nat}{xs:List Operand}(k:(Kk P ty is xs).f call e t n K=true):dC (i3 env xs) fun vs=>tc P ty is vs fun r=>KH K r h:=by
 unfold Kk at k
 split at k
 ·split at k
  ·split at k
   ·obtain⟨vs,h1,k⟩:=jB er k
    rw[h1]
    show tc P ty is vs _
    unfold tc
    simp only[*,if_true]
    split at k
    ·simp only[*]
     exact tq (fun r k=>kh hr k) _ _ ⟨MG _ _ k⟩
    ·cases k
   ·exact bc k
  ·exact bc k
 ·exact bc k
theorem Ai (er:ER e env) (hr:HR t n h) {ty:TypeId}{m:Nat}{is:List Nat}{xs:List Operand}(k:(tr P ty m is xs).f call e t n K=true):dC (i3 env xs) fun vs=>fO P ty m is vs fun r=>KH K r h:=by
 unfold tr at k
 split at k
 ·split at k
  ·split at k
   ·split at k
    ·rename_i hc
     obtain⟨vs,h1,k⟩:=jB er k
     rw[h1]
     show fO P ty m is vs _
     unfold fO
     simp only[*,if_true]
     exact k7 (fun r k=>kh hr k) _ _ _ ⟨Ab _ _ _ k⟩
    ·exact bc k
   ·exact bc k
  ·exact bc k
 ·exact bc k
theorem OW (hcall:iC P call) (er:ER e env) (hr:HR t n h) {c:Call}(k:(OV P c).f call e t n K=true):dC (i3 env c.args.toList) fun vs=>(match c.callee with
  | .value f=>bJ (opv env f) fun v=>qu P v vs h (KH K)
  | .builtin .len=>(match vs,c.argTypes.toList with|[v],[t]=>w4 P t v h fun r=>KH K r h|_,_=>False)
  | .builtin .append=>(match vs,c.argTypes.toList with|[v,u],[t,t2]=>wd P t t2 v u h (KH K)|_,_=>False)
  | .builtin .max=>(match vs with|[v,u]=>xA v u fun r=>KH K r h|_=>False)
  | .builtin .min=>(match vs with|[v,u]=>BZ v u fun r=>KH K r h|_=>False)
  | _=>False):=by
 have two:∀ {x y:Operand} {F:AV→AV→Prop},(dX (opv env x) (opv env y) F)→∃ v u,i3 env [x,y]=some [v,u]∧F v u:=fun {x y F} k=>by
  obtain⟨v,h1,k⟩:=ar k
  obtain⟨u,h2,k⟩:=ar k
  exact⟨v,u,by simp[i3,h1,h2],k⟩
 have one:∀ {x:Operand} {F:AV→Prop},(bJ (opv env x) F)→∃ v,i3 env [x]=some [v]∧F v:=fun {x F} k=>by
  obtain⟨v,h1,k⟩:=ar k
  exact⟨v,by simp[i3,h1],k⟩
 unfold OV at k
 split at k
 ·rename_i f hc
  obtain⟨vs,h1,k⟩:=jB er k
  obtain⟨v,h2,k⟩:=bm er k
  rw[h1]
  simp only[dC,hc,h2,bJ]
  unfold S6 at k
  unfold qu
  split at k
  ·exact hcall _ _ _ _ _ _ hr k
  ·cases k
 ·rename_i hc
  split at k
  ·rename_i x ty ha ht
   unfold Ur at k
   split at k
   ·obtain⟨v,h1,k⟩:=one (l9 er hr (p:=fun v K=>ce v K) (fun _ _ k=>⟨Ox k⟩) (fun _ _ _ hk k=>vt hk _ k) k)
    rw[ha,h1]
    simp only[dC,hc,w4, *]
   ·obtain⟨v,h1,k⟩:=one (l9 er hr (p:=fun v K=>bd v K) (fun _ _ k=>⟨PJ _ k⟩) (fun _ _ _ hk k=>vI hk _ k) k)
    rw[ha,h1]
    simp only[dC,hc,w4, *]
   ·obtain⟨v,h1,k⟩:=one (A0 er hr (p:=fun v h K=>DF v h K) (fun _ _ k=>⟨Qj hr k⟩) (fun _ _ _ hk k=>va hk _ _ k) k)
    rw[ha,h1]
    simp only[dC,hc,w4, *]
   ·exact bc k
  ·exact bc k
 ·rename_i hc
  split at k
  ·rename_i x y ty ty2 ha ht
   unfold Lw at k
   split at k
   ·split at k
    ·split at k
     ·rename_i hok
      obtain⟨v,u,h1,k⟩:=two (PP er hr (p:=fun v u h K=>bF _ _ v u h K) (fun _ _ _ k=>⟨JC hr k⟩) k)
      rw[ha,h1]
      simp only[dC,hc,wd, *,if_true]
     ·exact bc k
    ·exact bc k
   ·exact bc k
  ·exact bc k
 ·rename_i hc
  split at k
  ·rename_i x y ha
   obtain⟨v,u,h1,k⟩:=two (sb er hr (p:=fun v u K=>xA v u K) (fun _ _ _ k=>⟨SJ _ _ k⟩) (fun _ _ _ _ hk k=>w8 hk _ _ k) k)
   rw[ha,h1]
   simp only[dC,hc, *]
  ·exact bc k
 ·rename_i hc
  split at k
  ·rename_i x y ha
   obtain⟨v,u,h1,k⟩:=two (sb er hr (p:=fun v u K=>BZ v u K) (fun _ _ _ k=>⟨Rx _ _ k⟩) (fun _ _ _ _ hk k=>xj hk _ _ k) k)
   rw[ha,h1]
   simp only[dC,hc, *]
  ·exact bc k
 ·exact bc k
theorem Q8 (hcall:iC P call) (er:ER e env) (hr:HR t n h) {o:Oper}(k:(QE P o.op).f call e t n K=true):sK P env h o (KH K):=by
 obtain⟨dst,op,ty,pos,after,guard⟩:=o
 cases op<;>simp only[QE]at k<;>simp only[sK]
 case move x=>obtain⟨v,h1,k⟩:=bm er k;rw[h1];exact kh hr k
 case assign x=>obtain⟨v,h1,k⟩:=bm er k;rw[h1];exact kh hr k
 case pick c a b=>
  obtain⟨v,h1,k⟩:=bm er k
  obtain⟨u,h2,k⟩:=bm er k
  obtain⟨w,h3,k⟩:=bm er k
  rw[h1,h2,h3]
  show ifB v (KH K u h) (KH K w h)
  unfold SY at k
  unfold ifB
  split at k
  ·exact kh hr k
  ·exact kh hr k
  ·cases k
 case alloc el=>
  unfold Ub at k
  unfold Re
  split at k
  ·split at k
   ·split at k
    ·simp only[*,if_true];exact⟨Lc hr k⟩
    ·exact bc k
   ·exact bc k
  ·exact bc k
 case box el x=>exact CZ er hr (p:=fun v h K=>lQ v h K) (fun _ _ k=>⟨SP hr k⟩) k
 case build=>exact Mt er hr k
 case buildSlice=>exact Ai er hr k
 case load ty x=>
  unfold S5 at k
  split at k
  ·split at k
   ·refine cD (fun v k=>?_) (A0 er hr (p:=fun v h K=>ay _ v h K) (fun _ _ k=>⟨xx hr k⟩) (fun _ _ _ hk k=>fK hk _ _ _ k) k)
    unfold iT;simp only[*,if_true]
   ·refine cD (fun v k=>?_) (A0 er hr (p:=fun v h K=>ah v h K) (fun _ _ k=>⟨xM hr k⟩) (fun _ _ _ hk k=>fJ hk _ _ k) k)
    unfold iT;simp only[*,Bool.false_eq_true,if_false]
  ·exact bc k
 case store ty x u=>
  unfold O0 at k
  split at k
  ·refine cD (fun v k=>cD (fun y k=>?_) k) (S1 er hr (p:=fun v u h K=>au _ v u h K) (fun _ _ _ k=>⟨MM hr k⟩) k)
   unfold ES;simp only[*]
  ·exact bc k
 case nilCheck x=>exact l9 er hr (p:=fun v K=>aE v K) (fun _ _ k=>⟨Rq _ k⟩) (fun _ _ _ hk k=>xO hk _ k) k
 case binOp op ty x y yt=>
  unfold Us at k
  unfold IQ
  split at k
  ·simp only[*];exact sb er hr (p:=fun v u K=>Dr op v u K) (fun _ _ _ k=>⟨OG _ _ _ k⟩) (fun _ _ _ _ hk k=>vd hk _ _ _ k) k
  ·simp only[*];exact sb er hr (p:=fun v u K=>Dn op v u K) (fun _ _ _ k=>⟨Pb _ _ _ k⟩) (fun _ _ _ _ hk k=>u4 hk _ _ _ k) k
  ·simp only[*];exact sb er hr (p:=fun v u K=>ag op v u K) (fun _ _ _ k=>⟨FO k⟩) (fun _ _ _ _ hk k=>pM hk _ _ _ k) k
  ·simp only[*];exact sb er hr (p:=fun v u K=>ag op v u K) (fun _ _ _ k=>⟨FO k⟩) (fun _ _ _ _ hk k=>pM hk _ _ _ k) k
  ·simp only[*];exact sb er hr (p:=fun v u K=>ag op v u K) (fun _ _ _ k=>⟨FO k⟩) (fun _ _ _ _ hk k=>pM hk _ _ _ k) k
  ·exact bc k
 case unOp op ty x=>exact l9 er hr (p:=fun v K=>qUn op v K) (fun _ _ k=>⟨Tj k⟩) (fun _ _ _ hk k=>AP hk _ _ k) k
 case convert s d x=>
  unfold S0 at k
  unfold yC
  split at k
  ·simp only[*];exact l9 er hr (p:=fun v K=>ct _ v K) (fun _ _ k=>⟨KL k⟩) (fun _ _ _ hk k=>qO hk _ _ k) k
  ·simp only[*];exact l9 er hr (p:=fun v K=>oA _ v K) (fun _ _ k=>⟨Jy k⟩) (fun _ _ _ hk k=>qM hk _ _ k) k
  ·simp only[*];exact l9 er hr (p:=fun v K=>tV v K) (fun _ _ k=>⟨Kf _ k⟩) (fun _ _ _ hk k=>qB hk _ k) k
  ·exact bc k
 case makeInterface ty x=>
  unfold PI at k
  split at k
  ·exact bc k
  ·rename_i hn ht
   refine cD (fun v k=>?_) (l9 er hr (p:=fun v K=>td ty v K) (fun _ _ k=>⟨NQ _ _ k⟩) (fun _ _ _ hk k=>sD hk _ _ k) k)
   unfold wY
   split
   ·rename_i he;rw[ht]at he;cases he;exact (hn _ rfl).elim
   ·exact k
   ·rename_i he;rw[ht]at he;cases he
  ·exact bc k
 case makeFunc f fi ca=>
  obtain⟨vs,h1,k⟩:=jB er k
  obtain⟨ws,h2,k⟩:=jB er k
  rw[h1,h2];exact kh hr k
 case slice ty x lo hi mx=>
  unfold QJ at k
  split at k
  ·obtain⟨v,h1,k⟩:=bm er k
   obtain⟨l,h2,k⟩:=mS er k
   obtain⟨u,h3,k⟩:=mS er k
   rw[h1,h2,h3]
   show kL P ty v l u none _
   unfold kL;simp only[*]
   exact q0 (fun r k=>kh hr k) _ _ _ ⟨Ko k⟩
  ·split at k
   ·obtain⟨v,h1,k⟩:=bm er k
    obtain⟨l,h2,k⟩:=mS er k
    obtain⟨u,h3,k⟩:=mS er k
    rw[h1,h2,h3]
    show kL P ty v l u none _
    unfold kL;simp only[*]
    exact qC (fun r k=>kh hr k) _ _ _ _ ⟨J9 _ _ _ _ k⟩
   ·exact bc k
  ·obtain⟨v,h1,k⟩:=bm er k
   obtain⟨l,h2,k⟩:=mS er k
   obtain⟨u,h3,k⟩:=mS er k
   obtain⟨m,h4,k⟩:=bm er k
   rw[h1,h2,h3]
   simp only[zv,h4]
   show kL P ty v l u (some m) _
   split at k
   ·unfold kL;simp only[*]
    exact qh (fun r k=>kh hr k) _ ⟨Kt _ k⟩
   ·cases k
  ·exact bc k
 case fieldAddr ty x f=>
  unfold z8 at k
  split at k
  ·split at k
   ·split at k
    ·split at k
     ·exact bc k
     ·rename_i hz
      refine cD (fun v k=>?_) (l9 er hr (p:=fun v K=>ae _ v K) (fun _ _ k=>⟨CK k⟩) (fun _ _ _ hk k=>md hk _ _ k) k)
      unfold kS
      simp only[*]
      rw[if_neg (by simp)]
      trivial
    ·exact bc k
   ·exact bc k
  ·exact bc k
 case field ty x f=>
  unfold P6 SW at k
  split at k
  ·split at k
   ·split at k
    ·split at k
     ·refine cD (fun v k=>?_) (l9 er hr (p:=fun v K=>xJ _ _ v K) (fun _ _ k=>⟨Nq _ _ _ k⟩) (fun _ _ _ hk k=>tw hk _ _ _ k) k)
      unfold tD yQ;simp only[*,if_true]
     ·refine cD (fun v k=>?_) (l9 er hr (p:=fun v K=>xi _ v K) (fun _ _ k=>⟨MX _ _ k⟩) (fun _ _ _ hk k=>sA hk _ _ k) k)
      unfold tD yQ;simp only[*,Bool.false_eq_true,if_false]
    ·exact bc k
   ·exact bc k
  ·exact bc k
 case indexAddr ty x i=>
  unfold B9 at k
  unfold dW
  split at k
  ·split at k
   ·simp only[*];exact sb er hr (p:=fun v u K=>am _ v u K) (fun _ _ _ k=>⟨CS k⟩) (fun _ _ _ _ hk k=>gh hk _ _ _ k) k
   ·exact bc k
  ·split at k
   ·simp only[*];exact sb er hr (p:=fun v u K=>dK _ _ v u K) (fun _ _ _ k=>⟨rF _ _ _ _ k⟩) (fun _ _ _ _ hk k=>ed hk _ _ _ _ k) k
   ·exact bc k
  ·exact bc k
 case index ty x i=>
  unfold Pk at k
  unfold xI
  split at k
  ·simp only[*];exact sb er hr (p:=fun v u K=>bM v u K) (fun _ _ _ k=>⟨Jg k⟩) (fun _ _ _ _ hk k=>qp hk _ _ k) k
  ·exact bc k
 case extract x i=>exact l9 er hr (p:=fun v K=>aj i v K) (fun _ _ k=>⟨HC _ _ k⟩) (fun _ _ _ hk k=>oO hk _ _ k) k
 case call c=>exact OW hcall er hr k
 all_goals exact bc k
theorem GR {ty:TypeId}{g:TypeDesc→Value→ClO}{F:TypeDesc→Value→Prop}(hg:∀ d z,(g d z).f call e t n K=true→F d z) (k:(Lq P ty g).f call e t n K=true):xE P ty F:=by
 unfold Lq at k
 unfold xE
 split at k
 ·split at k
  ·split at k
   ·split at k
    ·have k:=hg _ _ k;simp only[*,if_true]
    ·exact bc k
   ·exact bc k
  ·exact bc k
 ·exact bc k
theorem Be {ty:TypeId}{g:TypeDesc→ClO}{F:TypeDesc→Prop}(hg:∀ d,(g d).f call e t n K=true→F d) (k:(IE P ty g).f call e t n K=true):vP P ty F:=by
 unfold IE at k
 unfold vP
 split at k
 ·split at k
  ·have k:=hg _ k;simp only[*]
  ·exact bc k
 ·exact bc k
theorem Ov (er:ER e env) (hr:HR t n h) {o:Oper}(k:(QW P o.op).f call e t n K=true):rU P env h o (KH K):=by
 obtain⟨dst,op,ty,pos,after,guard⟩:=o
 have wmapT:∀ {ty:TypeId} {F:TypeDesc→Value→AV→AV→Prop} {x y:Operand},xE P ty (fun d z=>dX (opv env x) (opv env y) (F d z))→dX (opv env x) (opv env y) fun a b=>xE P ty fun d z=>F d z a b:=fun {ty F x y} k=>by
  obtain⟨kt,et,d,i,z,h1,h2,h3,h4,h5,k⟩:=zO k
  refine cD (fun v k=>cD (fun y k=>?_) k) k
  unfold xE
  simp only[h1,h2,h3,h4,h5,if_true]
  exact k
 have wkeyT3:∀ {ty:TypeId} {F:TypeDesc→AV→AV→AV→Prop} {x y z:Operand},vP P ty (fun d=>dX (opv env x) (opv env y) fun a b=>bJ (opv env z) fun c=>F d a b c)→dX (opv env x) (opv env y) fun a b=>bJ (opv env z) fun c=>vP P ty fun d=>F d a b c:=fun {ty F x y z} k=>by
  obtain⟨kt,et,d,h1,h2,k⟩:=ww k
  refine cD (fun v k=>cD (fun y k=>cD (fun w k=>?_) k) k) k
  unfold vP
  simp only[h1,h2]
  exact k
 cases op<;>simp only[QW]at k<;>simp only[rU]
 case makeMap ty re=>
  cases re with
  | none=>exact⟨Io hr k⟩
  | some x=>exact bc k
 case lookup ty x i ok=>
  refine wmapT (GR (fun d z k=>?_) k)
  exact TX er hr (p:=fun v u h K=>hY d ok (ofV z) v u h K) (fun _ _ _ k=>⟨Ke hr k⟩) (fun _ _ _ _ hk k=>qK hk _ _ _ _ _ _ k) k
 case mapUpdate ty m kk v=>
  refine wkeyT3 (Be (fun d k=>?_) k)
  exact Qi er hr (p:=fun v u w h K=>dU d v u w h K) (fun _ _ _ _ k=>⟨uO hr k⟩) k
 case insert ty m kk v=>
  refine wkeyT3 (Be (fun d k=>?_) k)
  exact Qi er hr (p:=fun v u w h K=>dU d v u w h K) (fun _ _ _ _ k=>⟨uO hr k⟩) k
 case mapEntry ty m kk=>
  refine wmapT (GR (fun d z k=>?_) k)
  exact PP er hr (p:=fun v u h K=>mR d (ofV z) v u h K) (fun _ _ _ k=>⟨FF hr k⟩) k
 case entryStore ty m s v=>exact Qi er hr (p:=fun v u w h K=>jH v u w h K) (fun _ _ _ _ k=>⟨Bt hr k⟩) k
 case range ty x=>
  split at k
  ·simp only[*];exact CZ er hr (p:=fun v h K=>qg v h K) (fun _ _ k=>⟨Ju hr k⟩) k
  ·simp only[*];exact CZ er hr (p:=fun v h K=>qr v h K) (fun _ _ k=>⟨JX hr k⟩) k
  ·exact bc k
 case next x b=>
  cases b
  ·exact CZ er hr (p:=fun v h K=>vz v h K) (fun _ _ k=>⟨N3 hr k⟩) k
  ·exact CZ er hr (p:=fun v h K=>vk v h K) (fun _ _ k=>⟨NF hr k⟩) k
 case entry x=>exact A0 er hr (p:=fun v h K=>vw v h K) (fun _ _ k=>⟨Nd hr k⟩) (fun _ _ _ hk k=>tj hk _ _ k) k
 case makeSlice ty l c=>
  split at k
  ·split at k
   ·split at k
    ·split at k
     ·refine cD (fun v k=>cD (fun y k=>?_) k) (PP er hr (p:=fun v u h K=>jp _ _ v u h K) (fun _ _ _ k=>⟨Cx hr k⟩) k)
      simp only[*,if_true]
     ·exact bc k
    ·exact bc k
   ·exact bc k
  ·exact bc k
 case convert s d x=>
  split at k
  ·split at k
   ·simp only[*,if_true];exact A0 er hr (p:=fun v h K=>ia v h K) (fun _ _ k=>⟨EA hr k⟩) (fun _ _ _ hk k=>m4 hk _ _ k) k
   ·exact bc k
  ·split at k
   ·simp only[*,if_true];exact CZ er hr (p:=fun v h K=>mU v h K) (fun _ _ k=>⟨Gf hr k⟩) k
   ·exact bc k
  ·exact bc k
 case binOp op ty x y yt=>
  split at k
  ·split at k
   ·split at k
    ·simp only[*,if_true]
     exact sb er hr (p:=fun v u K=>R8 op _ v u K) (fun _ _ _ k=>⟨SR _ _ _ _ k⟩) (fun _ _ _ _ hk k=>x3 hk _ _ _ _ k) k
    ·exact bc k
   ·exact bc k
  ·rename_i hns
   have:bJ (opv env x) fun a=>tU P op ty a y fun r=>KH K r h:=by
    unfold L4 at k
    unfold tU
    split at k
    ·simp only[*];exact l9 er hr (p:=fun v K=>j2 op v K) (fun _ _ k=>⟨I9 _ _ k⟩) (fun _ _ _ hk k=>vN hk _ _ k) k
    ·simp only[*];exact l9 er hr (p:=fun v K=>zR op v K) (fun _ _ k=>⟨KU _ _ k⟩) (fun _ _ _ hk k=>qe hk _ _ k) k
    ·simp only[*];exact l9 er hr (p:=fun v K=>zB op v K) (fun _ _ k=>⟨K9 _ _ k⟩) (fun _ _ _ hk k=>qW hk _ _ k) k
    ·simp only[*];exact l9 er hr (p:=fun v K=>zy op v K) (fun _ _ k=>⟨Kp _ _ k⟩) (fun _ _ _ hk k=>qI hk _ _ k) k
    ·exact bc k
   split
   ·rename_i he;exact (hns _ he).elim
   ·exact this
 case call c=>
  split at k
  ·rename_i hc
   simp only[hc]
   split at k
   ·rename_i m kk ty rest ha ht
    obtain⟨kt,et,d,h1,h2,k⟩:=ww (Be (F:=fun d=>dX (opv env m) (opv env kk) fun a b=>vV d a b h fun h'=>KH K (.tup []) h') (fun d k=>S1 er hr (p:=fun v u h K=>vV d v u h K) (fun _ _ _ k=>⟨JT hr k⟩) k) k)
    obtain⟨a,h3,k⟩:=ar k
    obtain⟨b,h4,k⟩:=ar k
    rw[ha,ht]
    simp only[i3,h3,h4,dC]
    unfold vP
    simp only[h1,h2]
    exact k
   ·exact bc k
  ·exact bc k
 all_goals exact bc k
theorem QG (hcall:iC P call) (er:ER e env) (hr:HR t n h) {o:Oper}(k:(OS P o.op).f call e t n K=true):to P env h o (KH K):=by
 unfold OS at k
 unfold to
 split at k
 ·rename_i hn;rw[if_pos hn];exact Ov er hr k
 ·rename_i hn;rw[hn,if_neg (by simp)];exact Q8 hcall er hr k
omit [Tabs] in
theorem Lv (c:UInt8):∀ (l:List UInt8) (i:Nat),NM l c i=if Lib.indexByte l c=-1 then -1 else Lib.indexByte l c+i
 | [],i=>rfl
 | b::l,i=>by
   have ih:=Lv c l (i+1)
   have hge:=Lib.indexByte_ge l c
   have e1:NM (b::l) c i=if (b==c)=true then (i:Int) else NM l c (i+1):=by
    show @Bool.casesOn (fun _=>Int) (uEq b c) (NM l c (i+1)) (.ofNat i)=_
    rw[Eu]
    cases hb:(b==c)<;>rfl
   rw[e1,ih]
   simp only[Lib.indexByte]
   by_cases hb:(b==c)=true
   ·simp[hb]
   ·simp only[hb,if_false]
    by_cases h1:Lib.indexByte l c=-1
    ·simp[h1]
    ·rw[if_neg h1,if_neg (show ¬ (Lib.indexByte l c==-1)=true by simpa using h1)]
     simp only[Bool.false_eq_true,if_false]
     rw[if_neg (by omega)];omega
omit [Tabs] in
theorem L8 (c:UInt8):∀ (l:List UInt8) (n:Nat),Ms l c n=n+Lib.countByte l c
 | [],n=>rfl
 | b::l,n=>by
   have e1:Ms (b::l) c n=Ms l c (if (b==c)=true then n+1 else n):=by
    show Ms l c (@Bool.casesOn (fun _=>Nat) (uEq b c) n (n+1))=_
    rw[Eu]
    cases hb:(b==c)<;>rfl
   rw[e1,L8 c l]
   simp only[Lib.countByte,List.count_cons]
   cases hb:(b==c)<;>simp<;>omega
omit [Tabs] in
theorem Sg {x:Ext}{vs:List AV}{K:AV→Bool}(k:TM x vs K=true):vy x vs fun r=>K r=true:=by
 unfold TM at k
 split at k
 ·rw[Ld,Lv]at k
  show K (I (Lib.indexByte _ _))=true
  split at k
  ·rename_i h1;rw[h1];exact k
  ·simpa using k
 ·rw[jI,L8]at k
  show K (I (Lib.countByte _ _))=true
  simpa using k
 ·exact k
 ·rw[jI]at k;exact k
 ·cases k
omit [Tabs] in
theorem Fw (m n:Nat):Sf m n=Nat.min m n:=by
 show @Bool.casesOn (fun _=>Nat) (Nat.ble m n) n m=min m n
 cases h:Nat.ble m n
 ·have:¬ m≤n:=fun e=>by rw[Nat.ble_eq_true_of_le e]at h;cases h
  exact (Nat.min_eq_right (Nat.le_of_not_le this)).symm
 ·exact (Nat.min_eq_left (Nat.le_of_ble_eq_true h)).symm
theorem Qg (r:HR t n h) {size:Nat}{v x:AV}{K:AV→HT→Nat→Bool}(k:ON size v x t n K=true):yh size v x h (KH K):=by
 unfold ON at k
 unfold yh
 split at k
 ·cases k
 ·rename_i m xs hx
  simp only[xz r hx]
  split at k
  ·split at k
   ·rename_i cs hc
    simp only[r.at_ _ _ hc]
    simp only[Bool.and_eq_true,decide_eq_true_eq,jI,Fw]at k
    exact⟨k.1,_,_,r.set hc,k.2⟩
   ·cases k
  ·rw[c8,Fw]at k
   exact⟨Nat.eq_of_beq_eq_true k.1,_,_,r,k.2⟩
  ·rw[c8,Fw]at k
   exact⟨Nat.eq_of_beq_eq_true k.1,_,_,r,k.2⟩
  ·cases k
theorem Nm (r:HR t n h) {size:Nat}{u v:AV}{K:HT→Nat→Bool}(k:Kr size u v t n K=true):sP size u v h (KS K):=by
 unfold Kr at k
 unfold sP
 split at k
 ·split at k
  ·rename_i cs hc
   simp only[r.at_ _ _ hc]
   simp only[Bool.and_eq_true,decide_eq_true_eq]at k
   exact⟨k.1,_,_,r.set hc,k.2⟩
  ·cases k
 ·exact⟨_,_,r,k⟩
 ·exact⟨_,_,r,k⟩
 ·cases k
theorem vS {ts:Array TypeId}{F:Value→TypeInfo→ClO}{K:AV→HT→Nat→Bool}{T:Value→TypeInfo→Prop}(hk:∀ z i,(F z i).f call e t n K=true→T z i) (k:(L6 P ts F).f call e t n K=true):BF P ts T:=by
 unfold L6 at k
 unfold BF
 split at k
 ·split at k
  ·split at k
   ·split at k
    ·split at k
     ·simp only[*,if_true]
     ·exact bc k
    ·exact bc k
   ·exact bc k
  ·exact bc k
 ·exact bc k
def my (tb:nF):Prop:=∀ g cs,tb g=some cs→Tabs.tab g=some cs
theorem M5 {tb:nF}(ht:my tb) (er:ER e env) (hr:HR t n h) {o:Oper}(k:(JZ P tb o.op).f call e t n K=true):rO P env h o (KH K):=by
 obtain⟨dst,op,ty,pos,after,guard⟩:=o
 cases op<;>simp only[JZ]at k<;>simp only[rO]<;>try exact bc k
 case call c=>
  split at k
  ·rename_i f hc
   simp only[hc]
   split at k
   ·rename_i x hx
    obtain⟨vs,h1,k⟩:=jB er k
    rw[h1]
    simp only[dC,hx]
    exact⟨x7 (fun r k=>kh hr k) (Sg k)⟩
   ·exact bc k
  ·rename_i hc
   simp only[hc]
   cases hvs:i3 env c.args.toList with
   | none=>
     exfalso
     have:BF P c.argTypes fun _ _=>False:=vS (fun z i k=>by
      split at k
      ·rename_i x y ha
       simp only[e2]at k
       obtain⟨v,h1,k⟩:=bm er k
       obtain⟨u,h2,k⟩:=bm er k
       rw[ha]at hvs;simp[i3,h1,h2]at hvs
      ·exact bc k) k
     obtain⟨_,_,_,_,_,_,_,_,_,hf⟩:=zz this
     exact hf
   | some vs=>
     refine vS (fun z i k=>?_) k
     split at k
     ·rename_i x y ha
      simp only[e2]at k
      obtain⟨v,h1,k⟩:=bm er k
      obtain⟨u,h2,k⟩:=bm er k
      rw[ha]at hvs
      simp only[i3,h1,h2,Option.some.injEq]at hvs
      subst hvs
      exact⟨Qg hr k⟩
     ·exact bc k
  ·rename_i hc
   simp only[hc]
   cases hvs:i3 env c.args.toList with
   | none=>
     exfalso
     have:BF P c.argTypes fun _ _=>False:=vS (fun z i k=>by
      split at k
      ·rename_i x ha
       obtain⟨v,h1,k⟩:=bm er k
       rw[ha]at hvs;simp[i3,h1]at hvs
      ·exact bc k) k
     obtain⟨_,_,_,_,_,_,_,_,_,hf⟩:=zz this
     exact hf
   | some vs=>
     refine vS (fun z i k=>?_) k
     split at k
     ·rename_i x ha
      obtain⟨v,h1,k⟩:=bm er k
      rw[ha]at hvs
      simp only[i3,h1,Option.some.injEq]at hvs
      subst hvs
      exact⟨Nm hr k⟩
     ·exact bc k
  ·exact bc k
 case indexAddr ty x i=>
  cases x<;>simp only at k ⊢<;>try exact bc k
  split at k
  ·rename_i cs hg
   simp only[ht _ _ hg]
   split at k
   ·split at k
    ·refine cD (fun v k=>?_) (l9 er hr (p:=fun v K=>dK _ _ (.cptr cs) v K) (fun _ _ k=>⟨rF _ _ _ _ k⟩) (fun _ _ _ hk k=>ed hk _ _ _ _ k) k)
     unfold dW;simp only[*]
    ·exact bc k
   ·exact bc k
  ·exact bc k
 case load ty x=>
  cases x<;>simp only at k ⊢<;>try exact bc k
  split at k
  ·rename_i cs hg
   simp only[ht _ _ hg]
   unfold OP at k
   unfold iT
   split at k
   ·split at k
    ·simp only[*,if_true];exact fK (fun r k=>kh hr k) _ _ _ ⟨xx hr k⟩
    ·simp only[*,Bool.false_eq_true,if_false];exact fJ (fun r k=>kh hr k) _ _ ⟨xM hr k⟩
   ·exact bc k
  ·exact bc k
theorem pW {tb:nF}(ht:my tb) (hcall:iC P call) (er:ER e env) (hr:HR t n h) {o:Oper}(k:(yA P tb o.op).f call e t n K=true):aop P env h o (KH K):=by
 unfold yA at k
 unfold aop
 split at k
 ·rename_i hn;rw[if_pos hn];exact M5 ht er hr k
 ·rename_i hn;rw[hn,if_neg (by simp)];exact QG hcall er hr k
end
end
section
structure ClR where
 f:jT→ET→HT→Nat→(ET→HT→Nat→Bool)→Bool
structure PD where
 q:Nat
 o:Oper
 e:ET
 v:AV
structure ClD where
 f:jT→ET→HT→Nat→List PD→(ET→HT→Nat→List PD→Bool)→Bool
structure ClC where
 f:jT→ET→HT→Nat→(Exit→ET→HT→Nat→Bool)→Bool
structure ClF where
 f:jT→List AV→HT→Nat→(AV→HT→Nat→Bool)→Bool
structure ClV where
 f:ET→HT→(List AV→Bool)→Bool
def noR:ClR:=⟨fun _ _ _ _ _=>false⟩
def noD:ClD:=⟨fun _ _ _ _ _ _=>false⟩
def noC:ClC:=⟨fun _ _ _ _ _=>false⟩
def noF:ClF:=⟨fun _ _ _ _ _=>false⟩
def xS (e:ET) (d:Option Tmp) (v:AV):ET:=match d with|some d=>(oY d).s e v|none=>e
def C5 (P:Program) (tb:nF) (nt:Nat) (o:Oper):ClR:=match eG nt o.dst with
 | true=>(match o.dst with
   | some d=>⟨fun c e t n K=>(yA P tb o.op).f c e t n fun v t n=>K ((oY d).s e v) t n⟩
   | none=>⟨fun c e t n K=>(yA P tb o.op).f c e t n fun _ t n=>K e t n⟩)
 | false=>noR
def ifV (v:AV) (x y:Bool):Bool:=match v with|.lit (.bool true)=>x|.lit (.bool false)=>y|_=>false
def NE (g:Bool) (v:AV) (x y z:Bool):Bool:=match v with|.lit (.bool true)=>x|.lit (.bool false)=>y|.tup []=>bA g z|_=>false
def oE (P:Program) (tb:nF) (nt:Nat) (ops:Array Oper):List Nat→ClR
 | []=>⟨fun _ e t n K=>K e t n⟩
 | i::rest=>match ops[i]? with
   | none=>noR
   | some o=>match o.guard with
     | none=>⟨fun c e t n K=>(C5 P tb nt o).f c e t n fun e t n=>(oE P tb nt ops rest).f c e t n K⟩
     | some (j,want)=>match (ops[j]?).bind (·.dst) with
       | none=>noR
       | some s=>match want with
         | true=>⟨fun c e t n K=>oM ((oY s).g e) fun v=>NE (Nj ops j) v ((C5 P tb nt o).f c e t n fun e t n=>(oE P tb nt ops rest).f c e t n K) (bA (eG nt o.dst) ((oE P tb nt ops rest).f c (xS e o.dst (.tup [])) t n K)) (bA (eG nt o.dst) ((oE P tb nt ops rest).f c (xS e o.dst (.tup [])) t n K))⟩
         | false=>⟨fun c e t n K=>oM ((oY s).g e) fun v=>NE (Nj ops j) v (bA (eG nt o.dst) ((oE P tb nt ops rest).f c (xS e o.dst (.tup [])) t n K)) ((C5 P tb nt o).f c e t n fun e t n=>(oE P tb nt ops rest).f c e t n K) (bA (eG nt o.dst) ((oE P tb nt ops rest).f c (xS e o.dst (.tup [])) t n K))⟩
def OC:Value→Value→Bool
 | .bool a,.bool b=>a==b
 | .int j a,.int k b=>kEq j k&&iEq a b
 | .string a,.string b=>sEq a b
 | .pointer none,.pointer none=>true
 | .map none,.map none=>true
 | .nilFunc,.nilFunc=>true
 | .nilIface,.nilIface=>true
 | _,_=>false
theorem QY {a b:Value}(h:OC a b=true):a=b:=by
 unfold OC at h
 split at h<;>first
  | rfl
  | (cases h;done)
  | (simp only[beq_iff_eq]at h;rw[h])
  | (simp only[Bool.and_eq_true,Lg,Lk]at h;rw[h.1,h.2])
  | (rw[EF]at h;rw[h])
def Uf:Fn→Fn→Bool
 | .func a,.func b=>Nat.beq a b
 | _,_=>false
mutual
def uf:AV→AV→Bool
 | .lit a,.lit b=>OC a b
 | .ptr i o,.ptr j p=>Nat.beq i j&&Nat.beq o p
 | .cptr a,.cptr b=>tB a b
 | .sl i o l s,.sl j p m r=>Nat.beq i j&&Nat.beq o p&&Nat.beq l m&&Nat.beq s r
 | .snap n a,.snap m b=>Nat.beq n m&&tB a b
 | .full n a,.full m b=>Nat.beq n m&&tB a b
 | .map i,.map j=>Nat.beq i j
 | .fn f a b,.fn g c d=>Uf f g&&(tB a c&&tB b d)
 | .iface t v,.iface u w=>Nat.beq t u&&uf v w
 | .agg a,.agg b=>tB a b
 | .tup a,.tup b=>tB a b
 | .sym i,.sym j=>Nat.beq i j
 | _,_=>false
def tB:List AV→List AV→Bool
 | [],[]=>true
 | a::l,b::m=>uf a b&&tB l m
 | _,_=>false
end
theorem Ru:∀ {a b:Fn},Uf a b=true→a=b
 | .func a,.func b,h=>by have:=Nat.eq_of_beq_eq_true h;rw[this]
mutual
theorem Ft:∀ (a b:AV),uf a b=true→a=b
 | .lit a,b,h=>by cases b<;>simp only[uf]at h<;>first|(cases h;done)|(rw[QY h])
 | .ptr i o,b,h=>by
   cases b<;>simp only[uf,Bool.and_eq_true]at h<;>first|(cases h;done)|skip
   rw[Nat.eq_of_beq_eq_true h.1,Nat.eq_of_beq_eq_true h.2]
 | .cptr a,b,h=>by cases b<;>simp only[uf]at h<;>first|(cases h;done)|(rw[lZ _ _ h])
 | .sl i o l s,b,h=>by
   cases b<;>simp only[uf,Bool.and_eq_true]at h<;>first|(cases h;done)|skip
   rw[Nat.eq_of_beq_eq_true h.1.1.1,Nat.eq_of_beq_eq_true h.1.1.2,Nat.eq_of_beq_eq_true h.1.2,Nat.eq_of_beq_eq_true h.2]
 | .snap n a,b,h=>by
   cases b<;>simp only[uf,Bool.and_eq_true]at h<;>first|(cases h;done)|skip
   rw[Nat.eq_of_beq_eq_true h.1,lZ _ _ h.2]
 | .full n a,b,h=>by
   cases b<;>simp only[uf,Bool.and_eq_true]at h<;>first|(cases h;done)|skip
   rw[Nat.eq_of_beq_eq_true h.1,lZ _ _ h.2]
 | .map i,b,h=>by cases b<;>simp only[uf]at h<;>first|(cases h;done)|(rw[Nat.eq_of_beq_eq_true h])
 | .fn f a c,b,h=>by
   cases b<;>simp only[uf,Bool.and_eq_true]at h<;>first|(cases h;done)|skip
   rw[Ru h.1,lZ _ _ h.2.1,lZ _ _ h.2.2]
 | .iface t v,b,h=>by
   cases b<;>simp only[uf,Bool.and_eq_true]at h<;>first|(cases h;done)|skip
   rw[Nat.eq_of_beq_eq_true h.1,Ft _ _ h.2]
 | .agg a,b,h=>by cases b<;>simp only[uf]at h<;>first|(cases h;done)|(rw[lZ _ _ h])
 | .tup a,b,h=>by cases b<;>simp only[uf]at h<;>first|(cases h;done)|(rw[lZ _ _ h])
 | .sym i,b,h=>by cases b<;>simp only[uf]at h<;>first|(cases h;done)|(rw[Nat.eq_of_beq_eq_true h])
theorem lZ:∀ (a b:List AV),tB a b=true→a=b
 | [],b,h=>by cases b<;>simp only[tB]at h<;>first|rfl|(cases h;done)
 | a::l,b,h=>by
   cases b<;>simp only[tB,Bool.and_eq_true]at h<;>first|(cases h;done)|skip
   rw[Ft _ _ h.1,lZ _ _ h.2]
end
def H7 (P:Program) (tb:nF) (c:jT) (m:Nat) (t:HT) (n:Nat) (k:Bool):List PD→Bool
 | []=>k
 | ⟨q,o,e,v⟩::r=>bI (Nat.testBit m q) (H7 P tb c m t n k r) (bA ((yA P tb o.op).f c e t n fun r _ _=>uf r v) (H7 P tb c m t n k r))
def Bm (P:Program) (tb:nF) (nt:Nat) (m i:Nat) (o:Oper):ClD:=match eG nt o.dst with
 | true=>(match qOp P o.op with
   | true=>(match hOp P o.op with
     | true=>⟨fun c e t n pd K=>(yA P tb o.op).f c e t n fun v t n=>K (xS e o.dst v) t n (⟨i,o,e,v⟩::pd)⟩
     | false=>⟨fun c e t n pd K=>(yA P tb o.op).f c e t n fun v t n=>K (xS e o.dst v) t n pd⟩)
   | false=>⟨fun c e t n pd K=>(yA P tb o.op).f c e t n fun v t n=>H7 P tb c m t n (K (xS e o.dst v) t n pd) pd⟩)
 | false=>noD
def uw (P:Program) (tb:nF) (nt:Nat) (ops:Array Oper) (ms:List (Nat×Nat)):List Nat→ClD
 | []=>⟨fun _ e t n pd K=>K e t n pd⟩
 | i::rest=>match ops[i]? with
   | none=>noD
   | some o=>match o.guard with
     | none=>⟨fun c e t n pd K=>(Bm P tb nt (nI ms i) i o).f c e t n pd fun e t n pd=>(uw P tb nt ops ms rest).f c e t n pd K⟩
     | some (j,want)=>match (ops[j]?).bind (·.dst) with
       | none=>noD
       | some s=>match want with
         | true=>⟨fun c e t n pd K=>oM ((oY s).g e) fun v=>NE (Nj ops j) v ((Bm P tb nt (nI ms i) i o).f c e t n pd fun e t n pd=>(uw P tb nt ops ms rest).f c e t n pd K) (bA (eG nt o.dst) ((uw P tb nt ops ms rest).f c (xS e o.dst (.tup [])) t n pd K)) (bA (eG nt o.dst) ((uw P tb nt ops ms rest).f c (xS e o.dst (.tup [])) t n pd K))⟩
         | false=>⟨fun c e t n pd K=>oM ((oY s).g e) fun v=>NE (Nj ops j) v (bA (eG nt o.dst) ((uw P tb nt ops ms rest).f c (xS e o.dst (.tup [])) t n pd K)) ((Bm P tb nt (nI ms i) i o).f c e t n pd fun e t n pd=>(uw P tb nt ops ms rest).f c e t n pd K) (bA (eG nt o.dst) ((uw P tb nt ops ms rest).f c (xS e o.dst (.tup [])) t n pd K))⟩
def Ug (P:Program) (ops:Array Oper) (done:List Nat):Option Nat:=
 let ready:=(List.range ops.size).filter fun i=>!done.contains i&&(match ops[i]? with|some o=>(ro o).all done.contains|none=>false)
 match ready.find? (fun i=>match ops[i]? with|some o=>qOp P o.op|none=>false) with
 | some i=>some i
 | none=>ready.head?
def Oo (P:Program) (ops:Array Oper):Nat→List Nat→List Nat
 | 0,done=>done.reverse
 | k+1,done=>match Ug P ops done with
   | some i=>Oo P ops k (i::done)
   | none=>done.reverse
def AW (P:Program) (ops:Array Oper):Option (List Nat):=
 match lf P ops (Oo P ops ops.size []) with
 | true=>some (Oo P ops ops.size [])
 | false=>match lf P ops (List.range ops.size) with
   | true=>some (List.range ops.size)
   | false=>none
def Up (body:ClC) (c:jT):Nat→ET→HT→Nat→(Exit→ET→HT→Nat→Bool)→Bool
 | 0,_,_,_,_=>false
 | k+1,e,t,n,K=>body.f c e t n fun ex e t n=>match ex with|.normal=>Up body c k e t n K|ex=>K ex e t n
def PA (body:ClC) (c:jT) (k:Nat):ET→HT→Nat→(Exit→ET→HT→Nat→Bool)→Bool:=
 @Nat.rec (fun _=>ET→HT→Nat→(Exit→ET→HT→Nat→Bool)→Bool) (fun _ _ _ _=>false) (fun _ ih e t n K=>body.f c e t n fun ex e t n=>match ex with|.normal=>ih e t n K|ex=>K ex e t n) k
def pv:Nat:=1000000
def qA:Code→Option Nat
 | .label l=>some l
 | .seq a b=>match qA a with|some l=>some l|none=>qA b
 | .cond _ a b=>match qA a with|some l=>some l|none=>qA b
 | .block _ b=>qA b
 | .loop b=>qA b
 | _=>none
def Cd (l:Nat) (again:ET→HT→Nat→Bool) (K:Exit→ET→HT→Nat→Bool):Exit→ET→HT→Nat→Bool:=
 fun ex e t n=>match ex with|.goto l'=>bA (Nat.beq l' l) (again e t n)|ex=>K ex e t n
def TU (body:ClC) (c:jT) (l:Nat):Nat→ET→HT→Nat→(Exit→ET→HT→Nat→Bool)→Bool
 | 0,_,_,_,_=>false
 | k+1,e,t,n,K=>body.f c e t n (Cd l (fun e t n=>TU body c l k e t n K) K)
def Me (body:ClC) (c:jT) (l:Nat) (k:Nat):ET→HT→Nat→(Exit→ET→HT→Nat→Bool)→Bool:=
 @Nat.rec (fun _=>ET→HT→Nat→(Exit→ET→HT→Nat→Bool)→Bool) (fun _ _ _ _=>false) (fun _ ih e t n K=>body.f c e t n (Cd l (fun e t n=>ih e t n K) K)) k
def ki (P:Program) (tb:nF) (nt:Nat) (jmp:Code→ClC):Code→ClC
 | .skip=>⟨fun _ e t n K=>K .normal e t n⟩
 | .ret=>⟨fun _ e t n K=>K .ret e t n⟩
 | .exit id=>⟨fun _ e t n K=>K (.exit id) e t n⟩
 | .goto l=>⟨fun _ e t n K=>K (.goto l) e t n⟩
 | .label _=>⟨fun _ e t n K=>K .normal e t n⟩
 | .region _ ops d=>match d with
   | false=>⟨fun c e t n K=>(oE P tb nt ops (List.range ops.size)).f c e t n fun e t n=>K .normal e t n⟩
   | true=>match AW P ops,P.follows .mixedOrders with
     | some l,true=>⟨fun c e t n K=>(uw P tb nt ops (mf ops l []) l).f c e t n [] fun e t n _=>K .normal e t n⟩
     | _,_=>noC
 | .seq x y=>⟨fun c e t n K=>(ki P tb nt jmp x).f c e t n fun ex e t n=>match ex with|.normal=>(ki P tb nt jmp y).f c e t n K|ex=>K ex e t n⟩
 | .cond x a b=>⟨fun c e t n K=>(eo x).f e fun v=>ifV v ((ki P tb nt jmp a).f c e t n K) ((ki P tb nt jmp b).f c e t n K)⟩
 | .block id x=>⟨fun c e t n K=>(ki P tb nt jmp x).f c e t n fun ex e t n=>match ex with|.exit i=>bI (Nat.beq i id) (K .normal e t n) (K (.exit i) e t n)|ex=>K ex e t n⟩
 | .loop x=>⟨fun c e t n K=>PA (ki P tb nt jmp x) c pv e t n K⟩
 | .scope x=>match qA x with
   | some l=>(match findLabel x l with
     | some rest=>⟨fun c e t n K=>(ki P tb nt jmp x).f c e t n (Cd l (fun e t n=>Me (jmp rest) c l pv e t n K) K)⟩
     | none=>noC)
   | none=>noC
 | _=>noC
def TR (P:Program) (tb:nF) (nt:Nat):Code→ClC:=ki P tb nt fun _=>noC
def Mi (P:Program) (tb:nF) (nt:Nat):Code→ClC:=ki P tb nt (TR P tb nt)
def rh (P:Program):List ResultVar→ClV
 | []=>⟨fun _ _ K=>K []⟩
 | .tmp s::rs=>⟨fun e t K=>oM ((oY s).g e) fun v=>(rh P rs).f e t fun vs=>K (v::vs)⟩
 | .cell a ty::rs=>match P.underlying ty,P.info? ty with
   | some d,some i=>(match kx d with
     | true=>⟨fun e t K=>oM ((oY a).g e) fun p=>Bb i.size p t fun v=>(rh P rs).f e t fun vs=>K (v::vs)⟩
     | false=>⟨fun e t K=>oM ((oY a).g e) fun p=>A5 p t fun v=>(rh P rs).f e t fun vs=>K (v::vs)⟩)
   | _,_=>⟨fun _ _ _=>false⟩
def Ii:Nat→List AV→ET
 | _,[]=>ee0
 | k,v::vs=>(oY k).s (Ii (k+1) vs) v
def wC (P:Program) (tb:nF) (fn:Func):ClF:=match fn.body with
 | none=>noF
 | some c => match fn.name == "runtime.NumGoroutine" with
   | true=>noF
   | false=>⟨fun call args t n K=>bA (Nat.ble args.length fn.ntmps) ((Mi P tb fn.ntmps c).f call (Ii 0 args) t n fun ex e t n=>match ex with
     | .normal=>(rh P fn.results.toList).f e t fun vs=>K (uM vs) t n
     | .ret=>(rh P fn.results.toList).f e t fun vs=>K (uM vs) t n
     | _=>false)⟩
abbrev D0:=FuncId→List AV→HT→Nat→(AV→HT→Nat→Bool)→Option Bool
variable [Tabs]
section
variable {P:Program}{nt:Nat}{call:jT}{tb:nF}
def KE (K:ET→HT→Nat→Bool) (env:Env) (h:ab):Prop:=∃ e t n,ER e env∧HR t n h∧K e t n=true
theorem ER.putD {e:ET}{env:Env}(r:ER e env) (d:Option Tmp) (v:AV):ER (xS e d v) (putD env d v):=by
 cases d with
 | none=>exact r
 | some d=>exact r.put d v
theorem ER.know {e:ET}{env:Env}(r:ER e env) {s:Nat}{v:AV}(h:(oY s).g e=some v):ER e ((s,v)::env):=fun k u hu=>by
 simp only[AL.get]
 by_cases hk:s=k
 ·subst hk;rw[if_pos rfl,← h,hu]
 ·rw[if_neg hk];exact r k u hu
theorem wa (ht:my tb) (hc:iC P call) {o:Oper}{e:ET}{env:Env}{t:HT}{n:Nat}{h:ab}{K:ET→HT→Nat→Bool}(er:ER e env) (hr:HR t n h) (k:(C5 P tb nt o).f call e t n K=true):nr P nt env h o (KE K):=by
 unfold C5 at k
 unfold nr
 split at k
 ·rename_i hd
  rw[if_pos hd]
  split at k
  ·rename_i d ho
   refine iY (fun v h' k=>?_) (pW ht hc er hr k)
   obtain⟨t',n',hr',k⟩:=k
   refine⟨_,t',n',?_,hr',k⟩
   rw[ho];exact er.put d v
  ·rename_i ho
   refine iY (fun v h' k=>?_) (pW ht hc er hr k)
   obtain⟨t',n',hr',k⟩:=k
   refine⟨_,t',n',?_,hr',k⟩
   rw[ho];exact er
 ·cases k
theorem Bf {o:Option AV}{K:AV→Bool}(k:oM o K=true):∃ v,o=some v∧K v=true:=by
 unfold oM at k;split at k
 ·exact⟨_,rfl,k⟩
 ·cases k
theorem TE {v:AV}{x y:Bool}(k:ifV v x y=true):(v=B true∧x=true)∨(v=B false∧y=true):=by
 unfold ifV at k;split at k
 ·exact .inl ⟨rfl,k⟩
 ·exact .inr ⟨rfl,k⟩
 ·cases k
theorem zF {g:Bool}{v:AV}{x y z:Bool}(k:NE g v x y z=true):(v=B true∧x=true)∨(v=B false∧y=true)∨(v=.tup []∧g=true∧z=true):=by
 unfold NE at k;split at k
 ·exact .inl ⟨rfl,k⟩
 ·exact .inr (.inl ⟨rfl,k⟩)
 ·rw[c8]at k;exact .inr (.inr ⟨rfl,k⟩)
 ·cases k
theorem IB {ops:Array Oper}{l:List Nat}{env:Env}{h:ab}{K K':Env→ab→Prop}(hk:∀ env' h',K env' h'→K' env' h') (k:gW P nt ops l env h K):gW P nt ops l env h K':=
 qn ops l env h K K' (fun env' h' _ k=>hk env' h' k) k
theorem tA {env:Env}{h:ab}{o:Oper}{K K':Env→ab→Prop}(hk:∀ env' h',K env' h'→K' env' h') (k:nr P nt env h o K):nr P nt env h o K':=
 BH (fun v h' k=>hk _ _ k) k
theorem jG (ht:my tb) (hc:iC P call) (ops:Array Oper):∀ (l:List Nat) {e:ET}{env:Env}{t:HT}{n:Nat}{h:ab}{K:ET→HT→Nat→Bool},ER e env→HR t n h→(oE P tb nt ops l).f call e t n K=true→gW P nt ops l env h (KE K)
 | [],e,env,t,n,h,K,er,hr,k=>⟨e,t,n,er,hr,k⟩
 | i::rest,e,env,t,n,h,K,er,hr,k=>by
   unfold oE at k
   unfold gW
   split at k
   ·cases k
   ·rename_i o ho
    simp only[ho]
    split at k
    ·rename_i hg
     simp only[hg]
     exact tA (fun env' h' ⟨e',t',n',er',hr',k'⟩=>jG ht hc ops rest er' hr' k') (wa ht hc er hr k)
    ·rename_i j want hg
     simp only[hg]
     split at k
     ·cases k
     ·rename_i s hs
      simp only[hs]
      split at k
      ·obtain⟨v,hv,k⟩:=Bf k
       rw[er s _ hv]
       replace k:=zF k
       rcases k with ⟨rfl,k⟩|⟨rfl,k⟩|⟨rfl,hgd,k⟩
       ·refine L9 ?_
        simp only[if_true]
        exact tA (fun env' h' ⟨e',t',n',er',hr',k'⟩=>jG ht hc ops rest er' hr' k') (wa ht hc (er.know hv) hr k)
       ·refine Mb ?_
        simp only[if_true]
        rw[c8]at k
        rw[if_pos k.1]
        exact jG ht hc ops rest ((er.know hv).putD _ _) hr k.2
       ·simp only[bJ,hgd,ifG,ifT]
        rw[c8]at k
        rw[if_pos k.1]
        exact jG ht hc ops rest ((er.know hv).putD _ _) hr k.2
      ·obtain⟨v,hv,k⟩:=Bf k
       rw[er s _ hv]
       replace k:=zF k
       rcases k with ⟨rfl,k⟩|⟨rfl,k⟩|⟨rfl,hgd,k⟩
       ·refine L9 ?_
        simp only[Bool.false_eq_true,if_false]
        rw[c8]at k
        rw[if_pos k.1]
        exact jG ht hc ops rest ((er.know hv).putD _ _) hr k.2
       ·refine Mb ?_
        simp only[Bool.false_eq_true,if_false]
        exact tA (fun env' h' ⟨e',t',n',er',hr',k'⟩=>jG ht hc ops rest er' hr' k') (wa ht hc (er.know hv) hr k)
       ·simp only[bJ,hgd,ifG,ifT]
        rw[c8]at k
        rw[if_pos k.1]
        exact jG ht hc ops rest ((er.know hv).putD _ _) hr k.2
def PR (P:Program):List PD→nA→Prop
 | [],p=>p=[]
 | ⟨q,o,e,v⟩::r,p=>∃ env p',p=(q,fun h2=>aop P env h2 o fun r _=>r=v)::p'∧ER e env∧PR P r p'
theorem AD (ht:my tb) (hc:iC P call) {m:Nat}{t:HT}{n:Nat}{h:ab}(hr:HR t n h) {k:Bool}{X:Prop}(hk:k=true→X):∀ {pd:List PD}{p:nA},PR P pd p→H7 P tb call m t n k pd=true→ph m p h X
 | [],p,hp,b=>by simp only[PR]at hp;subst hp;exact hk b
 | ⟨q,o,e,v⟩::r,p,hp,b=>by
   obtain⟨env,p',rfl,er,hp⟩:=hp
   unfold H7 at b
   unfold ph
   rcases (IL _ _ _).1 b with ⟨hq,b⟩|⟨hq,b⟩
   ·rw[if_pos hq];exact AD ht hc hr hk hp b
   ·rw[if_neg (by rw[hq];simp)]
    rw[c8]at b
    exact⟨iY (fun r h' ⟨t',n',_,k⟩=>Ft _ _ k) (pW ht hc er hr b.1),AD ht hc hr hk hp b.2⟩
def KD (P:Program) (K:ET→HT→Nat→List PD→Bool) (env:Env) (h:ab) (p:nA):Prop:=∃ e t n pd,ER e env∧HR t n h∧PR P pd p∧K e t n pd=true
theorem xC (ht:my tb) (hc:iC P call) {m i:Nat}{o:Oper}{e:ET}{env:Env}{t:HT}{n:Nat}{h:ab}{pd:List PD}{p:nA}{K:ET→HT→Nat→List PD→Bool}(er:ER e env) (hr:HR t n h) (hp:PR P pd p) (k:(Bm P tb nt m i o).f call e t n pd K=true):nB P nt m i o env h p (KD P K):=by
 unfold Bm at k
 unfold nB
 split at k
 ·rename_i hd
  rw[if_pos hd]
  split at k
  ·rename_i hq
   rw[if_pos hq]
   split at k
   ·rename_i hh
    refine iY (fun v h' k=>?_) (pW ht hc er hr k)
    obtain⟨t',n',hr',k⟩:=k
    rw[if_pos hh]
    exact⟨_,t',n',⟨i,o,e,v⟩::pd,er.putD _ _,hr',⟨env,p,rfl,er,hp⟩,k⟩
   ·rename_i hh
    refine iY (fun v h' k=>?_) (pW ht hc er hr k)
    obtain⟨t',n',hr',k⟩:=k
    rw[if_neg (by rw[hh];simp)]
    exact⟨_,t',n',_,er.putD _ _,hr',hp,k⟩
  ·rename_i hq
   rw[if_neg (by rw[hq];simp)]
   refine iY (fun v h' k=>?_) (pW ht hc er hr k)
   obtain⟨t',n',hr',k⟩:=k
   exact AD ht hc hr' (fun k=>⟨_,t',n',_,er.putD _ _,hr',hp,k⟩) hp k
 ·cases k
theorem lR (ht:my tb) (hc:iC P call) (ops:Array Oper) (ms:List (Nat×Nat)):∀ (l:List Nat) {e:ET}{env:Env}{t:HT}{n:Nat}{h:ab}{pd:List PD}{p:nA}{K:ET→HT→Nat→List PD→Bool},ER e env→HR t n h→PR P pd p→(uw P tb nt ops ms l).f call e t n pd K=true→
  iV P nt ops ms l env h p fun env' h'=>∃ e t n pd,ER e env'∧HR t n h'∧K e t n pd=true
 | [],e,env,t,n,h,pd,p,K,er,hr,hp,k=>⟨e,t,n,pd,er,hr,k⟩
 | i::rest,e,env,t,n,h,pd,p,K,er,hr,hp,k=>by
   unfold uw at k
   unfold iV
   have sm:∀ {env:Env} {K' K2:Env→ab→nA→Prop} {o:Oper},(∀ env' h' p',K' env' h' p'→K2 env' h' p')→nB P nt (nI ms i) i o env h p K'→nB P nt (nI ms i) i o env h p K2:=fun hk k=>Ag (fun v h' p' k=>hk _ _ _ k) k
   split at k
   ·cases k
   ·rename_i o ho
    simp only[ho]
    split at k
    ·rename_i hg
     simp only[hg]
     exact sm (fun env' h' p' ⟨e',t',n',pd',er',hr',hp',k'⟩=>lR ht hc ops ms rest er' hr' hp' k') (xC ht hc er hr hp k)
    ·rename_i j want hg
     simp only[hg]
     split at k
     ·cases k
     ·rename_i s hs
      simp only[hs]
      split at k
      ·obtain⟨v,hv,k⟩:=Bf k
       rw[er s _ hv]
       replace k:=zF k
       rcases k with ⟨rfl,k⟩|⟨rfl,k⟩|⟨rfl,hgd,k⟩
       ·refine L9 ?_
        simp only[if_true]
        exact sm (fun env' h' p' ⟨e',t',n',pd',er',hr',hp',k'⟩=>lR ht hc ops ms rest er' hr' hp' k') (xC ht hc (er.know hv) hr hp k)
       ·refine Mb ?_
        simp only[if_true]
        rw[c8]at k
        rw[if_pos k.1]
        exact lR ht hc ops ms rest ((er.know hv).putD _ _) hr hp k.2
       ·simp only[bJ,hgd,ifG,ifT]
        rw[c8]at k
        rw[if_pos k.1]
        exact lR ht hc ops ms rest ((er.know hv).putD _ _) hr hp k.2
      ·obtain⟨v,hv,k⟩:=Bf k
       rw[er s _ hv]
       replace k:=zF k
       rcases k with ⟨rfl,k⟩|⟨rfl,k⟩|⟨rfl,hgd,k⟩
       ·refine L9 ?_
        simp only[Bool.false_eq_true,if_false]
        rw[c8]at k
        rw[if_pos k.1]
        exact lR ht hc ops ms rest ((er.know hv).putD _ _) hr hp k.2
       ·refine Mb ?_
        simp only[Bool.false_eq_true,if_false]
        exact sm (fun env' h' p' ⟨e',t',n',pd',er',hr',hp',k'⟩=>lR ht hc ops ms rest er' hr' hp' k') (xC ht hc (er.know hv) hr hp k)
       ·simp only[bJ,hgd,ifG,ifT]
        rw[c8]at k
        rw[if_pos k.1]
        exact lR ht hc ops ms rest ((er.know hv).putD _ _) hr hp k.2
theorem Iv {ops:Array Oper}{l:List Nat}(h:AW P ops=some l):lf P ops l=true:=by
 unfold AW at h
 split at h
 ·cases h;assumption
 ·split at h
  ·cases h;assumption
  ·cases h
theorem yP {c:Code}{Q Q':Exit→Act→World→Prop}(hq:∀ e a w,Q e a w→Q' e a w):∀ (k:Nat) (a:Act) (w:World),Code.rounds P c Q k a w→Code.rounds P c Q' k a w
 | 0,a,w,h=>h
 | k+1,a,w,h=>Go.wp_mono h fun e a' w' p=>by
   cases e with
   | normal=>exact yP hq k a' w' p
   | _=>exact hq _ _ _ p
def KX (K:Exit→ET→HT→Nat→Bool) (ex:Exit) (env:Env) (h:ab):Prop:=∃ e t n,ER e env∧HR t n h∧K ex e t n=true
theorem L0 {c:Code}{body:ClC}(hb:∀ {e:ET}{env:Env}{t:HT}{n:Nat}{h:ab}{K:Exit→ET→HT→Nat→Bool},ER e env→HR t n h→body.f call e t n K=true→AWp P nt c env h (KX K)):
  ∀ (k:Nat) {e:ET} {env:Env} {t:HT} {n:Nat} {h:ab} {K:Exit→ET→HT→Nat→Bool},ER e env→HR t n h→PA body call k e t n K=true→
    ∀ (G:Gh) (w:World) (a:Act),Sim G h w→a.tmps.size=nt→EnvRep G env a.tmps→Code.rounds P c (Post G h w nt a.defers (KX K)) k a w
 | 0,e,env,t,n,h,K,er,hr,k=>by cases k
 | m+1,e,env,t,n,h,K,er,hr,k=>by
   intro G w a s hn r
   refine Go.wp_mono (hb er hr k G w a s hn r) fun ex a' w' p=>?_
   obtain⟨env',h',G',⟨e',t',n',er',hr',hk⟩,s',ev,r',hn',hd'⟩:=p
   cases ex with
   | normal=>
     have:=L0 hb m er' hr' hk G' w' a' s' hn' r'
     exact yP (fun e a2 w2 p2=>by rw[hd']at p2;exact p2.step ev) m a' w' this
   | _=>exact⟨env',h',G',⟨e',t',n',er',hr',hk⟩,s',ev,r',hn',hd'⟩
def TH (P:Program) (nt:Nat) (call:jT) (f:Code→ClC):Prop:=∀ (c:Code) {e:ET}{env:Env}{t:HT}{n:Nat}{h:ab}{K:Exit→ET→HT→Nat→Bool},ER e env→HR t n h→(f c).f call e t n K=true→AWp P nt c env h (KX K)
def wo (P:Program) (rest:Code) (l:Nat) (Q:Exit→Act→World→Prop):Nat→Act→World→Prop
 | 0,_,_=>False
 | n+1,a,w=>rest.wp P (Exit.jump l (wo P rest l Q n) Q) a w
theorem vp {rest:Code}{l:Nat}{Q Q':Exit→Act→World→Prop}(hq:∀ e a w,Q e a w→Q' e a w):∀ (k:Nat) (a:Act) (w:World),wo P rest l Q k a w→wo P rest l Q' k a w
 | 0,a,w,h=>h
 | k+1,a,w,h=>Go.wp_mono h fun e a' w' p=>by
   cases e with
   | goto l'=>exact⟨p.1,vp hq k a' w' p.2⟩
   | _=>exact hq _ _ _ p
theorem Cn {c rest:Code}{Q:Exit→Act→World→Prop}{a:Act}{w:World}(l m:Nat) (hf:findLabel c l=some rest) (first:c.wp P (Exit.jump l (wo P rest l Q m) Q) a w):(Code.scope c).wp P Q a w:=by
 refine wp_scope_jumps l (fun a w=>∃ k,wo P rest l Q k a w) (fun a w=>xW fun k=>wo P rest l Q k a w) hf (Go.wp_mono first fun e a' w' p=>?_) fun a w hJ=>?_
 ·cases e with
  | goto l'=>exact⟨p.1,m,p.2⟩
  | _=>exact p
 ·have hsp:=ti hJ
  generalize hk:xW (fun k=>wo P rest l Q k a w)=k at hsp
  cases k with
  | zero=>exact hsp.elim
  | succ k=>
    refine Go.wp_mono (show rest.wp P (Exit.jump l (wo P rest l Q k) Q) a w from hsp) fun e a' w' p=>?_
    cases e with
    | goto l'=>exact⟨p.1,⟨k,p.2⟩,Nat.lt_of_le_of_lt (xL p.2) (Nat.lt_succ_self k)⟩
    | _=>exact p
theorem IA {rest:Code}{body:ClC}{l:Nat}(hb:∀ {e:ET}{env:Env}{t:HT}{n:Nat}{h:ab}{K:Exit→ET→HT→Nat→Bool},ER e env→HR t n h→body.f call e t n K=true→AWp P nt rest env h (KX K)):
  ∀ (k:Nat) {e:ET} {env:Env} {t:HT} {n:Nat} {h:ab} {K:Exit→ET→HT→Nat→Bool},ER e env→HR t n h→Me body call l k e t n K=true→
    ∀ (G:Gh) (w:World) (a:Act),Sim G h w→a.tmps.size=nt→EnvRep G env a.tmps→wo P rest l (Post G h w nt a.defers (KX K)) k a w
 | 0,e,env,t,n,h,K,er,hr,k=>by cases k
 | m+1,e,env,t,n,h,K,er,hr,k=>by
   intro G w a s hn r
   have k:body.f call e t n (Cd l (fun e t n=>Me body call l m e t n K) K)=true:=k
   refine Go.wp_mono (hb er hr k G w a s hn r) fun ex a' w' p=>?_
   obtain⟨env',h',G',⟨e',t',n',er',hr',hk⟩,s',ev,r',hn',hd'⟩:=p
   cases ex with
   | goto l'=>
     simp only[Cd,c8]at hk
     refine⟨Nat.eq_of_beq_eq_true hk.1,?_⟩
     have:=IA hb m er' hr' hk.2 G' w' a' s' hn' r'
     exact vp (fun e a2 w2 p2=>by rw[hd']at p2;exact p2.step ev) m a' w' this
   | _=>exact⟨env',h',G',⟨e',t',n',er',hr',hk⟩,s',ev,r',hn',hd'⟩
theorem Dl (ht:my tb) (hc:iC P call) {jmp:Code→ClC}(hj:TH P nt call jmp):∀ (c:Code) {e:ET}{env:Env}{t:HT}{n:Nat}{h:ab}{K:Exit→ET→HT→Nat→Bool},ER e env→HR t n h→(ki P tb nt jmp c).f call e t n K=true→AWp P nt c env h (KX K):=by
 intro c
 induction c with
 | skip=>exact fun er hr k=>IH ⟨_,_,_,er,hr,k⟩
 | ret=>exact fun er hr k=>Ln ⟨_,_,_,er,hr,k⟩
 | exit id=>exact fun er hr k=>GS ⟨_,_,_,er,hr,k⟩
 | goto l=>exact fun er hr k=>Hu ⟨_,_,_,er,hr,k⟩
 | label l=>exact fun er hr k=>Dp ⟨_,_,_,er,hr,k⟩
 | region id ops d=>
   intro e env t n h K er hr k
   cases d with
   | false=>exact BT (IB (fun env' h' ⟨e',t',n',er',hr',k'⟩=>⟨e',t',n',er',hr',k'⟩) (jG ht hc ops _ er hr k))
   | true=>
     simp only[ki]at k
     split at k
     ·rename_i l hl hf
      refine DP hf (Iv hl) (mX ops _ l env h [] _ _ (fun env' h' _ ⟨e',t',n',pd,er',hr',k'⟩=>⟨e',t',n',er',hr',k'⟩) (lR ht hc ops _ l er hr (pd:=[]) (by simp[PR]) k))
     ·cases k
 | seq x y hx hy=>
   intro e env t n h K er hr k
   refine Ew ((hx er hr k).mono fun ex env' h' ⟨e',t',n',er',hr',k'⟩=>?_)
   cases ex with
   | normal=>exact hy er' hr' k'
   | _=>exact⟨e',t',n',er',hr',k'⟩
 | cond x a b ha hb=>
   intro e env t n h K er hr k
   obtain⟨v,hv,k⟩:=bm er k
   refine Hi ?_
   rw[hv]
   rcases TE k with ⟨rfl,k1⟩|⟨rfl,k1⟩
   ·exact ha er hr k1
   ·exact hb er hr k1
 | block id x hx=>
   intro e env t n h K er hr k
   refine Dy ((hx er hr k).mono fun ex env' h' ⟨e',t',n',er',hr',k'⟩=>?_)
   cases ex with
   | exit i=>
     simp only[IL]at k'
     rcases k' with ⟨hi,k'⟩|⟨hi,k'⟩
     ·show if i=id then _ else _
      rw[if_pos (Nat.eq_of_beq_eq_true hi)];exact⟨e',t',n',er',hr',k'⟩
     ·show if i=id then _ else _
      rw[if_neg (fun e=>by rw[Nat.beq_eq.mpr e]at hi;cases hi)];exact⟨e',t',n',er',hr',k'⟩
   | _=>exact⟨e',t',n',er',hr',k'⟩
 | loop x hx=>
   intro e env t n h K er hr k G w a s hn r
   have k':PA (ki P tb nt jmp x) call pv e t n K=true:=k
   generalize pv=m at k'
   exact wp_loop_rounds m (L0 (fun er hr k=>hx er hr k) m er hr k' G w a s hn r)
 | scope x hx=>
   intro e env t n h K er hr k
   simp only[ki]at k
   split at k
   ·rename_i l hl
    split at k
    ·rename_i rest hrest
     intro G w a s hn r
     have k':(ki P tb nt jmp x).f call e t n (Cd l (fun e t n=>Me (jmp rest) call l pv e t n K) K)=true:=k
     clear k
     generalize pv=m at k'
     refine Cn l m hrest (Go.wp_mono (hx er hr k' G w a s hn r) fun ex a' w' p=>?_)
     obtain⟨env',h',G',⟨e',t',n',er',hr',hk⟩,s',ev,r',hn',hd'⟩:=p
     cases ex with
     | goto l'=>
       simp only[Cd,c8]at hk
       refine⟨Nat.eq_of_beq_eq_true hk.1,?_⟩
       have:=IA (hj rest) m er' hr' hk.2 G' w' a' s' hn' r'
       exact vp (fun e a2 w2 p2=>by rw[hd']at p2;exact p2.step ev) m a' w' this
     | _=>exact⟨env',h',G',⟨e',t',n',er',hr',hk⟩,s',ev,r',hn',hd'⟩
    ·cases k
   ·cases k
 | _=>intro e env t n h K er hr k;cases k
theorem v6 (ht:my tb) (hc:iC P call):∀ (c:Code) {e:ET}{env:Env}{t:HT}{n:Nat}{h:ab}{K:Exit→ET→HT→Nat→Bool},ER e env→HR t n h→(Mi P tb nt c).f call e t n K=true→AWp P nt c env h (KX K):=
 Dl ht hc (Dl ht hc fun c {e env t n h K} er hr k=>by cases k)
theorem pp {e:ET}{env:Env}{t:HT}{n:Nat}{h:ab}(er:ER e env) (hr:HR t n h):∀ {rs:List ResultVar}{K:List AV→Bool},(rh P rs).f e t K=true→Ct P env h rs fun vs=>K vs=true
 | [],K,k=>k
 | .tmp s::rs,K,k=>by
   obtain⟨v,hv,k⟩:=Bf k
   unfold Ct
   rw[er s _ hv]
   exact pp er hr k
 | .cell a ty::rs,K,k=>by
   simp only[rh]at k
   unfold Ct
   split at k
   ·split at k
    ·obtain⟨v,hv,k⟩:=Bf k
     rw[er a _ hv]
     show iT P ty v h _
     unfold iT
     simp only[*,if_true]
     exact fK (fun r k=>pp er hr k) _ _ _ ⟨xx hr k⟩
    ·obtain⟨v,hv,k⟩:=Bf k
     rw[er a _ hv]
     show iT P ty v h _
     unfold iT
     simp only[*,Bool.false_eq_true,if_false]
     exact fJ (fun r k=>pp er hr k) _ _ ⟨xM hr k⟩
   ·cases k
theorem mV {env:Env}{h:ab}:∀ {rs:List ResultVar}{K K':List AV→Prop},(∀ vs,K vs→K' vs)→Ct P env h rs K→Ct P env h rs K'
 | [],K,K',hk,k=>hk _ k
 | .tmp s::rs,K,K',hk,k=>cD (fun v k=>mV (fun vs k=>hk _ k) k) k
 | .cell a ty::rs,K,K',hk,k=>cD (fun v k=>by
   unfold iT at *
   split at k
   ·split at k
    ·rename_i hd;rw[if_pos hd];exact fK (fun r k=>mV (fun vs k=>hk _ k) k) _ _ _ k
    ·rename_i hd;rw[if_neg hd];exact fJ (fun r k=>mV (fun vs k=>hk _ k) k) _ _ k
   ·exact k.elim) k
theorem wA:∀ (k:Nat) (vs:List AV),ER (Ii k vs) (ec k vs)
 | k,[]=>fun i v h=>by rw[Ii,R9]at h;cases h
 | k,v::vs=>(wA (k+1) vs).put k v
theorem Ql (ht:my tb) (hc:iC P call) {f:FuncId}{fn:Func}(hf:P.funcs[f]?=some fn) {args:List AV}{t:HT}{n:Nat}{h:ab}{K:AV→HT→Nat→Bool}(hr:HR t n h) (k:(wC P tb fn).f call args t n K=true):ACall P f args h (KH K):=by
 unfold wC at k
 split at k
 ·cases k
 ·rename_i c hb
  split at k
  ·cases k
  ·rename_i hname
   simp only[c8]at k
   obtain⟨hn,k⟩:=k
   have hn:=Nat.le_of_ble_eq_true hn
   refine⟨⟨fn,hf,hname,by simp[hb]⟩,fun G w vs s r=>?_⟩
   refine calls_of_wp hf hb ?_
   have hl:=r.length
   have hre:EnvRep G (ec 0 args) (vs.toArray++Array.replicate (fn.ntmps-vs.toArray.size) undef):=fun k a e=>by
    obtain⟨_,h1⟩:=pK args 0 k a e
    obtain⟨v,h2,h3⟩:=r.at _ _ h1
    have hk:k<vs.length:=(List.getElem?_eq_some_iff.1 h2).1
    exact⟨v,by rw[Array.getElem?_append_left (by simpa using hk)];simpa using h2,h3⟩
   have W:=v6 ht hc c (wA 0 args) hr k G w { tmps:=vs.toArray++Array.replicate (fn.ntmps-vs.toArray.size) undef,defers:=[] } s (by simp;omega) hre
   have fin:∀ {e:ET} {env':Env} {t':HT} {n':Nat} {h':ab},ER e env'→HR t' n' h'→(rh P fn.results.toList).f e t' (fun vs=>K (uM vs) t' n')=true→Cw P fn.results.toList env' h' (KH K):=fun er hr k=>
    mV (fun vs k=>kh hr k) (pp er hr k)
   refine wp_mono W fun e a w' ⟨env',h',G',⟨e',t',n',er',hr',hk⟩,s',ev,r',hn',hd'⟩=>?_
   cases e with
   | normal=>
     obtain⟨v,x,q1,q2,q3⟩:=mE s' r' (fin er' hr' hk)
     exact⟨hd',x,q1,v,x,h',G',rfl,q2,q3,s',ev⟩
   | ret=>
     obtain⟨v,x,q1,q2,q3⟩:=mE s' r' (fin er' hr' hk)
     exact⟨hd',x,q1,v,x,h',G',rfl,q2,q3,s',ev⟩
   | exit id=>cases hk
   | goto l=>cases hk
   | panic ch=>cases hk
   | outgrown=>cases hk
def Jq (P:Program) (sp:D0):Prop:=∀ (f:FuncId) (args:List AV) (t:HT) (n:Nat) (h:ab) (K:AV→HT→Nat→Bool),HR t n h→sp f args t n K=some true→ACall P f args h (KH K)
end
end
section
structure PU where
 c0:Code
 id:Nat
 o1:Oper
 oD:Oper
 g:FuncId
 args:List Operand
 rest:Code
def zw (o:Oper):Option (FuncId×List Operand):=match o.op with
 | .defer c=>(match c.callee with|.value (.func g)=>some (g,c.args.toList)|_=>none)
 | _=>none
def Fy:Code→Option PU
 | .seq c0 (.seq (.region id ops false) rest)=>match ops.toList with
   | [o1,oD]=>(match o1.guard,oD.guard,zw oD with
     | none,none,some (g,args)=>some ⟨c0,id,o1,oD,g,args,rest⟩
     | _,_,_=>none)
   | _=>none
 | _=>none
def UC (P : Program) (g : FuncId) : Bool := match P.funcs[g]? with | some fn => (fn.body.isSome && !(fn.name == "runtime.NumGoroutine")) | none => false
def J7 (P:Program) (tb:nF) (fn:Func):ClF:=match fn.body with
 | none=>noF
 | some c => match fn.name == "runtime.NumGoroutine" with
   | true=>noF
   | false=>match Fy c with
     | none=>noF
     | some d=>match P.funcs[d.g]?,eG fn.ntmps d.oD.dst with
       | some gn, true => match gn.name == "runtime.NumGoroutine" with
         | true=>noF
         | false=>⟨fun call args t n K=>bA (Nat.ble args.length fn.ntmps) ((Mi P tb fn.ntmps d.c0).f call (Ii 0 args) t n fun ex e t n=>match ex with
           | .normal=>(C5 P tb fn.ntmps d.o1).f call e t n fun e t n=>(pi d.args).f e fun vs=>(Mi P tb fn.ntmps d.rest).f call (xS e d.oD.dst (.tup [])) t n fun ex e t n=>match ex with
             | .normal=>(wC P tb gn).f call vs t n fun _ t n=>(rh P fn.results.toList).f e t fun rs=>K (uM rs) t n
             | .ret=>(wC P tb gn).f call vs t n fun _ t n=>(rh P fn.results.toList).f e t fun rs=>K (uM rs) t n
             | _=>false
           | _=>false)⟩
       | _,_=>noF
def Iz (P:Program) (tb:nF) (fn:Func):ClF:=match fn.body with
 | none=>noF
 | some c=>match Fy c with
   | none=>wC P tb fn
   | some _=>J7 P tb fn
def Ux (P:Program) (tb:nF) (sp:D0):Nat→jT
 | 0=>fun _ _ _ _ _=>false
 | k+1=>fun f args t n K=>match sp f args t n K with
   | some b=>b
   | none=>match P.funcs[f]? with
     | some fn=>(Iz P tb fn).f (Ux P tb sp k) args t n K
     | none=>false
def Mp (P:Program) (tb:nF) (sp:D0) (k:Nat):jT:=
 @Nat.rec (fun _=>jT) (fun _ _ _ _ _=>false) (fun _ ih f args t n K=>match sp f args t n K with
  | some b=>b
  | none=>match P.funcs[f]? with
    | some fn=>(Iz P tb fn).f ih args t n K
    | none=>false) k
variable [Tabs]
section
variable {P:Program}{nt:Nat}{call:jT}{tb:nF}
def T5 (P:Program) (f:FuncId) (args:List AV) (h:ab) (K:QT):Prop:=
 ∀ (G:Gh) (w:World) (vs:List Value) (u:FrameMode),Sim G h w→RepL G args vs→
   CallsD P f vs.toArray u w fun e u' w'=>u'=u∧∃ r v h' G',e=.returned v∧Rep G' r v∧K r h'∧Sim G' h' w'∧Evo G h w G' h' w'
theorem Nb (ht:my tb) (hc:iC P call) {f:FuncId}{fn:Func}(hf:P.funcs[f]?=some fn) {args:List AV}{t:HT}{n:Nat}{h:ab}{K:AV→HT→Nat→Bool}(hr:HR t n h) (k:(wC P tb fn).f call args t n K=true):T5 P f args h (KH K):=by
 unfold wC at k
 split at k
 ·cases k
 ·rename_i c hb
  split at k
  ·cases k
  ·rename_i hname
   simp only[c8]at k
   obtain⟨hn,k⟩:=k
   have hn:=Nat.le_of_ble_eq_true hn
   intro G w vs u s r
   refine callsD_of_wp hf hb ?_
   have hl:=r.length
   have hre:EnvRep G (ec 0 args) (vs.toArray++Array.replicate (fn.ntmps-vs.toArray.size) undef):=fun k a e=>by
    obtain⟨_,h1⟩:=pK args 0 k a e
    obtain⟨v,h2,h3⟩:=r.at _ _ h1
    have hk:k<vs.length:=(List.getElem?_eq_some_iff.1 h2).1
    exact⟨v,by rw[Array.getElem?_append_left (by simpa using hk)];simpa using h2,h3⟩
   have W:=v6 ht hc c (wA 0 args) hr k G w { tmps:=vs.toArray++Array.replicate (fn.ntmps-vs.toArray.size) undef,defers:=[] } s (by simp;omega) hre
   have fin:∀ {e:ET} {env':Env} {t':HT} {n':Nat} {h':ab},ER e env'→HR t' n' h'→(rh P fn.results.toList).f e t' (fun vs=>K (uM vs) t' n')=true→Cw P fn.results.toList env' h' (KH K):=fun er hr k=>
    mV (fun vs k=>kh hr k) (pp er hr k)
   refine wp_mono W fun e a w' ⟨env',h',G',⟨e',t',n',er',hr',hk⟩,s',ev,r',hn',hd'⟩=>?_
   cases e with
   | normal=>
     obtain⟨v,x,q1,q2,q3⟩:=mE s' r' (fin er' hr' hk)
     exact⟨hd',x,q1,v,x,h',G',rfl,q2,q3,s',ev⟩
   | ret=>
     obtain⟨v,x,q1,q2,q3⟩:=mE s' r' (fin er' hr' hk)
     exact⟨hd',x,q1,v,x,h',G',rfl,q2,q3,s',ev⟩
   | exit id=>cases hk
   | goto l=>cases hk
   | panic ch=>cases hk
   | outgrown=>cases hk
theorem Oe {c:Code}{d:PU}(h:Fy c=some d):c=.seq d.c0 (.seq (.region d.id #[d.o1,d.oD] false) d.rest)∧d.o1.guard=none∧d.oD.guard=none∧zw d.oD=some (d.g,d.args):=by
 unfold Fy at h
 split at h
 ·rename_i c0 id ops rest
  split at h
  ·rename_i o1 oD hops
   split at h
   ·rename_i g args h1 h2 h3
    cases h
    have:ops=#[o1,oD]:=by apply Array.toList_inj.1;simpa using hops
    subst this
    exact⟨rfl,h1,h2,h3⟩
   ·cases h
  ·cases h
 ·cases h
theorem KQ {o:Oper}{g:FuncId}{args:List Operand}(h:zw o=some (g,args)):∃ c,o.op=.defer c∧c.callee=.value (.func g)∧c.args.toList=args:=by
 unfold zw at h
 split at h
 ·rename_i c hc
  split at h
  ·rename_i g' hg
   cases h
   exact⟨c,hc,hg,rfl⟩
  ·cases h
 ·cases h
theorem Ny (ht:my tb) (hc:iC P call) {f:FuncId}{fn:Func}(hf:P.funcs[f]?=some fn) {args:List AV}{t:HT}{n:Nat}{h:ab}{K:AV→HT→Nat→Bool}(hr:HR t n h) (k:(J7 P tb fn).f call args t n K=true):ACall P f args h (KH K):=by
 unfold J7 at k
 split at k
 ·cases k
 ·rename_i c hb
  split at k
  ·cases k
  ·rename_i hname
   split at k
   ·cases k
   ·rename_i d hd
    split at k
    ·rename_i gn hg hdst
     split at k
     ·cases k
     ·rename_i hgn
      obtain⟨rfl,hg1,hg2,hdef⟩:=Oe hd
      obtain⟨dc,hop,hcal,hargs⟩:=KQ hdef
      simp only[c8]at k
      obtain⟨hn,k⟩:=k
      have hn:=Nat.le_of_ble_eq_true hn
      refine⟨⟨fn,hf,hname,by simp[hb]⟩,fun G w vs s r=>?_⟩
      refine calls_of_wp_defers hf hb ?_
      have hl:=r.length
      have hre:EnvRep G (ec 0 args) (vs.toArray++Array.replicate (fn.ntmps-vs.toArray.size) undef):=fun k a e=>by
       obtain⟨_,h1⟩:=pK args 0 k a e
       obtain⟨v,h2,h3⟩:=r.at _ _ h1
       have hk:k<vs.length:=(List.getElem?_eq_some_iff.1 h2).1
       exact⟨v,by rw[Array.getElem?_append_left (by simpa using hk)];simpa using h2,h3⟩
      have W:=v6 ht hc d.c0 (wA 0 args) hr k G w { tmps:=vs.toArray++Array.replicate (fn.ntmps-vs.toArray.size) undef,defers:=[] } s (by simp;omega) hre
      refine wp_seq (Go.wp_mono W fun ex a1 w1 p=>?_)
      obtain⟨env1,h1,G1,⟨e1,t1,n1,er1,hr1,k1⟩,s1,ev1,r1,hn1,hd1⟩:=p
      cases ex with
      | normal=>
        simp only at k1
        refine wp_seq (wp_region ?_)
        have st:=wa ht hc er1 hr1 k1
        have k1:=()
        unfold wpOps
        simp only[List.size_toArray,List.length_cons,List.length_nil,List.getElem?_toArray,List.range,List.range.loop,List.getElem?_cons_zero]
        rw[if_pos (by simp[Region.wanted,hg1])]
        refine .inl (H8 s1 hn1 r1 st fun a2 w2 ⟨env2,h2,G2,⟨e2,t2,n2,er2,hr2,k2⟩,s2,ev2,r2,hn2,hd2⟩=>?_)
        unfold wpOps
        simp only[List.getElem?_toArray,List.getElem?_cons_succ,List.getElem?_cons_zero]
        rw[if_pos (by simp[Region.wanted,hg2])]
        refine .inl ?_
        obtain⟨ds,q1,k2⟩:=jB er2 k2
        have hds:=g0 r2 q1
        unfold Oper.wp
        have hrun:(execOp a2.eval d.oD).run P w2=.ok (.defer ⟨.fn (.func d.g) #[],(d.args.map a2.eval).toArray⟩) w2:=by
         unfold execOp
         rw[hop]
         simp only[resolve,hcal,Act.eval,Deferred.ofValue,Sem.run_bind,Sem.run_pure,Result.andThen_ok]
         congr 3
         apply Array.toList_inj.1
         simp[← hargs]
        rw[hrun,Oper.upon_defer]
        unfold wpOps
        have hnA:({ a2 with defers:=⟨.fn (.func d.g) #[],(d.args.map a2.eval).toArray⟩::a2.defers }:Act).tmps.size=fn.ntmps:=hn2
        have hnB:(({ a2 with defers:=⟨.fn (.func d.g) #[],(d.args.map a2.eval).toArray⟩::a2.defers }:Act).put d.oD.dst undef).tmps.size=fn.ntmps:=by rw[put_size];exact hn2
        have rA:EnvRep G2 env2 ({ a2 with defers:=⟨.fn (.func d.g) #[],(d.args.map a2.eval).toArray⟩::a2.defers }:Act).tmps:=r2
        have rB:=rA.putD (d:=d.oD.dst) (by rw[hnA];exact hdst) (v:=.tup []) (x:=undef) (by simp[Rep,RepL,undef])
        have W2:=v6 ht hc d.rest (er2.putD d.oD.dst (.tup [])) hr2 k2 G2 w2 _ s2 hnB rB
        refine wp_mono W2 fun ex a3 w3 ⟨env3,h3,G3,⟨e3,t3,n3,er3,hr3,k3⟩,s3,ev3,r3,hn3,hd3⟩=>?_
        rw[put_defers]at hd3
        have hd3:a3.defers=[⟨.fn (.func d.g) #[],(d.args.map a2.eval).toArray⟩]:=by rw[hd3,hd2,hd1]
        have fin:(wC P tb gn).f call ds t3 n3 (fun _ t n=>(rh P fn.results.toList).f e3 t fun rs=>K (uM rs) t n)=true→Leaves P fn a3.tmps (fun e w'=>∃ r v h' G',e=.returned v∧Rep G' r v∧KH K r h'∧Sim G' h' w'∧Evo G h w G' h' w') a3.defers .returning w3:=fun k3=>by
         rw[hd3]
         have hbody:gn.body.isNone=false:=by
          cases hbb:gn.body with
          | none=>unfold wC at k3;rw[hbb]at k3;cases k3
          | some _=>rfl
         refine leaves_cons (f:=d.g) (args:=(d.args.map a2.eval).toArray) (by simp) ?_ ?_
         ·simp only[invoke,callFunc,Sem.run_bind,run_program,Result.andThen_ok,hg,hgn,hbody,Bool.false_eq_true,if_false,Sem.run_pure,Array.append_empty]
         ·have dd:=Nb ht hc hg hr3 k3 G3 w3 (d.args.map a2.eval) .returning s3 (RepL.mono ev3.le _ _ hds)
          refine dd.mono fun e u' w' ⟨hu,rr,v,h',G',he,hv,⟨t4,n4,hr4,k4⟩,s4,ev4⟩=>?_
          subst he;subst hu
          simp only[settle,Leaves]
          have fk:Cw P fn.results.toList env3 h' (KH K):=mV (fun vs k=>kh hr4 k) (pp er3 hr4 k4)
          obtain⟨v',x,z1,z2,z3⟩:=mE s4 (r3.mono ev4.le) fk
          exact⟨x,z1,v',x,h',G',rfl,z2,z3,s4,((ev1.trans ev2).trans ev3).trans ev4⟩
        cases ex with
        | normal=>exact fin k3
        | ret=>exact fin k3
        | exit id=>cases k3
        | goto l=>cases k3
        | panic ch=>cases k3
        | outgrown=>cases k3
      | ret=>cases k1
      | exit id=>cases k1
      | goto l=>cases k1
      | panic ch=>cases k1
      | outgrown=>cases k1
    ·cases k
theorem PK (ht:my tb) (hc:iC P call) {f:FuncId}{fn:Func}(hf:P.funcs[f]?=some fn) {args:List AV}{t:HT}{n:Nat}{h:ab}{K:AV→HT→Nat→Bool}(hr:HR t n h) (k:(Iz P tb fn).f call args t n K=true):ACall P f args h (KH K):=by
 unfold Iz at k
 split at k
 ·cases k
 ·split at k
  ·exact Ql ht hc hf hr k
  ·exact Ny ht hc hf hr k
theorem Lu {sp:D0}(ht:my tb) (hs:Jq P sp):∀ d,iC P (Mp P tb sp d)
 | 0=>fun f args t n h K hr k=>by cases k
 | d+1=>fun f args t n h K hr k=>by
   have k:(match sp f args t n K with
    | some b=>b
    | none=>match P.funcs[f]? with
      | some fn=>(Iz P tb fn).f (Mp P tb sp d) args t n K
      | none=>false)=true:=k
   split at k
   ·rename_i b hb;subst k;exact hs f args t n h K hr hb
   ·split at k
    ·rename_i fn hf;exact PK ht (Lu ht hs d) hf hr k
    ·cases k
