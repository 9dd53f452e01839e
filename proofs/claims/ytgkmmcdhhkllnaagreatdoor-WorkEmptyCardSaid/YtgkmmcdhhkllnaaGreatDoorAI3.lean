import Derived.Test.YtgkmmcdhhkllnaaGreatDoorMP1toAI2
set_option linter.all false
set_option autoImplicit true
set_option relaxedAutoImplicit true
set_option maxRecDepth 100000
namespace Go.Proofs.YtgkmmcdhhkllnaaGreatDoor.AL
noncomputable section
variable [Tabs]
abbrev U32 (n:Int):AV:=.lit (.int .u32 n)
def UN (at_ bits:Nat) (step less v:Int):Option Int:=
 if v<less then none else if Nk .i64 step bits≤v-less then none else if (v-less).tmod step≠0 then none else some (Nk .u32 (IntKind.u32.wrap ((v-less).tdiv step)) at_)
def dW (v:Int):Prop:=-4503599627370496≤v∧v≤4503599627370496
def PutK (m:Option Int) (h:ae) (Q:QT):Prop:=∀ b h',Fr [] h h'→(∀ n,m=some n→b=n)→Q (.tup [U32 b,B m.isSome]) h'
theorem PutK.none {h h':ae}{Q:QT}{m:Option Int}(k:PutK m h Q) (f:Fr [] h h') (b:Int) (e:m=.none):Q (.tup [U32 b,B false]) h':=by
 subst e;exact k b h' f (fun n h=>by cases h)
theorem PutK.some {h h':ae}{Q:QT}{m:Option Int}(k:PutK m h Q) (f:Fr [] h h') {b:Int}(e:m=.some b):Q (.tup [U32 b,B true]) h':=by
 subst e;exact k b h' f (fun n h=>by cases h;rfl)
theorem PutK.is {h h':ae}{Q:QT}{m:Option Int}(k:PutK m h Q) (f:Fr [] h h') {b:Int}{p:Bool}(e:m=if p=true then .some b else .none):Q (.tup [U32 b,B p]) h':=by
 cases p with
 | true=>exact k.some f (by simpa using e)
 | false=>exact k.none f b (by simpa using e)
theorem dl (at_ bits:Nat) (step less v:Int) (hv:dW v) (hs:0<step∧step≤4) (hl:0≤less∧less≤1) {h:ae}{Q:QT}(k:PutK (UN at_ bits step less v) h Q):C nP [.agg [.lit (.int .u64 at_),.lit (.int .u64 bits),I step,I less],I v] h Q:=by
 unfold dW at hv
 refine Dd _ _ _ _ ?_
 unfold zw
 refine bB (St.start h) rfl fun i h1 s1=>?_
 (repeat (first|refine aj ?_|refine aJ ?_|refine ag ‹_› (.head _) rfl ?_))
 refine ah (fun hb=>?_) (fun hb=>?_)<;>simp only[za,zb,zc,zd,ze,zf,zg,zh,zi,u8i,zj,zk,zl]at hb
 ·exact k.none s1.fr _ (by unfold UN;rw[if_pos hb])
 (repeat (first|refine aj ?_|refine cD (by omega) ?_|refine ag ‹_› (.head _) rfl ?_))
 refine kP (by omega) ?_
 (repeat refine bz ?_)
 refine ah (fun hb2=>?_) (fun hb2=>?_)<;>simp only[za,zb,zc,zd,ze,zf,zg,zh,zi,u8i,zj,zk,zl]at hb2
 ·exact k.none s1.fr _ (by unfold UN;rw[if_neg (by omega)];exact if_pos hb2)
 (repeat (first|refine aj ?_|refine cD (by omega) ?_|refine ag ‹_› (.head _) rfl ?_))
 refine mJ (by omega) ?_
 (repeat refine bU ?_)
 refine ah (fun hb3=>?_) (fun hb3=>?_)<;>simp only[za,zb,zc,zd,ze,zf,zg,zh,zi,u8i,zj,zk,zl]at hb3
 ·exact k.none s1.fr _ (by unfold UN;rw[if_neg (by omega)];exact (if_neg (Int.not_le.2 hb2)).trans (if_pos hb3))
 (repeat (first|refine aj ?_|refine cD (by omega) ?_|refine ag ‹_› (.head _) rfl ?_))
 have ht:0≤(v-less).tdiv step:=Int.tdiv_nonneg (by omega) (by omega)
 have ht2:(v-less).tdiv step≤v-less:=by
  rw[Int.tdiv_eq_ediv_of_nonneg (by omega)]
  exact Int.ediv_le_self _ (by omega)
 refine nY (by omega) (by omega) ?_
 refine ew ?_
 (repeat (first|refine aj ?_|refine ag ‹_› (.head _) rfl ?_))
 refine kP (by omega) ?_
 refine k.some s1.fr ?_
 unfold UN
 rw[if_neg (by omega)]
 exact (if_neg (Int.not_le.2 hb2)).trans (if_neg (by simpa using hb3))
def Nf (v:Int) (b:Nat):Bool:=decide (-(2^b:Nat)≤v)&&decide (v<(2^b:Nat))
theorem QA:∀ b∈[8,15,19,24],Op.negFloat .f64 (FloatKind.f64.nearest (2^b:Nat))=FloatKind.f64.nearest (-(2^b:Nat)):=by decide
theorem BG (hL:dz) (v:Int) (hv:dW v) (b:Nat) (hb:b∈[8,15,19,24]) {h:ae}{Q:QT}(k:Q (B (Nf v b)) h):C oX [I v,I ((b+1:Nat):Int)] h Q:=by
 unfold dW at hv
 have hb2:b≤24:=by simp at hb;omega
 have hpow:2^b≤2^24:=Nat.pow_le_pow_right (by omega) hb2
 have hn:=QA b hb
 have hL':=hL b hb
 unfold Nf at k
 generalize 2^b=X at hpow hn hL' k
 refine Oj _ _ _ _ ?_
 unfold NE
 refine cD (by omega) ?_
 rw[show (((b+1:Nat):Int)-1)=(b:Nat) by omega]
 refine hL' _ _ ?_
 refine⟨?_⟩
 refine⟨?_⟩
 refine eJ (r:=.bool (decide (-(X:Int)≤v))) ?_ ?_
 ·simp only[cC,yy,if_true]
  rw[hn,Ab v _ (by omega) (by omega)]
  congr 2
  rw[Bool.eq_iff_iff]
  simp only[Bool.or_eq_true,beq_iff_eq,Option.some.injEq,decide_eq_true_eq,compare,compareOfLessAndEq]
  split
  ·simp;omega
  ·split
   ·simp;omega
   ·simp;omega
 ·cases hc:decide (-(X:Int)≤v) with
  | false=>
    refine ah (fun h=>by cases h) (fun _=>?_)
    rw[hc]at k;exact k
  | true=>
    refine ah (fun _=>?_) (fun h=>by cases h)
    refine⟨?_⟩
    refine eJ (r:=.bool (decide (v<(X:Int)))) ?_ ?_
    ·simp only[cC,yy,if_true]
     rw[Ab v _ (by omega) (by omega)]
     congr 2
     rw[Bool.eq_iff_iff]
     simp only[beq_iff_eq,Option.some.injEq,decide_eq_true_eq,compare,compareOfLessAndEq]
     split
     ·simp;omega
     ·split
      ·simp;omega
      ·simp;omega
    ·rw[hc]at k;exact k
theorem Zz (k:Str) {h:ae}{Q:QT}(q:Q (.lit (.int .u64 (if k=[89] then 4 else 0))) h):C ip [T k] h Q:=by
 refine LY _ _ _ ?_
 unfold JQ
 (repeat refine aU ?_)
 refine ah (fun hb=>?_) (fun hb=>?_)<;>simp only[za,zb,zc,zd,ze,zf,zg,zh,zi,u8i,zj,zk,zl]at hb
 ·rw[if_pos hb]at q;exact q
 ·rw[if_neg hb]at q;exact q
def Cq (sh:Nat) (v:Int):Option Int:=if v<0∨(7<v∧v<24)∨31<v then none else some (Nk .u32 (IntKind.u32.wrap (v-v.tdiv 24*16)) sh)
theorem FQ (k:Str) (sh:Nat) (hsh:((if k=[89] then 4 else 0:Nat))=sh) {v:Int}(hv:-4503599627370496≤v∧v≤4503599627370496) {h h1:ae}{Q:QT}(q:PutK (Cq sh v) h Q) (f:Fr [] h h1) (h4:¬(v<0∨(7<v∧v<24)∨31<v)):
  ai .quo (I v) (I 24) (fun t46=>ai .mul t46 (I 16) fun t47=>ai .sub (I v) t47 fun t48=>ck .u32 t48 fun t49=>C ip [T k] h1 fun t51 h4=>ai .shl t49 t51 fun t52=>Q (.tup [t52,(B true)]) h4):=by
 refine nY (by omega) (by rw[Int.tdiv_eq_ediv_of_nonneg (by omega)];omega) ?_
 have hq:0≤v.tdiv 24∧v.tdiv 24≤1:=by rw[Int.tdiv_eq_ediv_of_nonneg (by omega)];omega
 refine vp (by omega) ?_
 refine cD (by omega) ?_
 refine ew ?_
 refine Zz _ ?_
 refine kP (by split<;>omega) ?_
 refine q.some f ?_
 unfold Cq
 rw[if_neg h4,← hsh]
 split<;>rfl
def acX (v:Int):Option Int:=if Nf v 19=true then some (IntKind.u32.wrap (orI .i64 (orI .i64 (Nk .i64 (Fz .i64 (Mh .i64 v 16) 15) 11) (Nk .i64 (Fz .i64 (Mh .i64 v 11) 31) 16)) (Fz .i64 v 2047))) else none
def c8P (v:Int):Option Int:=(aap v).map fun x=>IntKind.u32.wrap (orI .i64 (orI .i64 (Nk .i64 x.1 10) (Nk .i64 x.2.1 8)) x.2.2)
def acL (v:Int):Option Int:=if Nf v 15=true then some (IntKind.u32.wrap (Fz .i64 v 65535)) else none
def t8P (v:Int):Option Int:=if v.tmod 2=0 then (if Nf v 8=true then some (IntKind.u32.wrap (Fz .i64 (v.tdiv 2) 255)) else none) else none
def tP (b:Nat) (v:Int):Option Int:=if v.tmod 2=0 then (if Nf v b=true then some (IntKind.u32.wrap (Fz .i64 v (2^(b+1)-1:Nat))) else none) else none
def plainTab:List (Str×Nat×Nat×Int×Int):=[([85,53],4,5,1,0),([85,55],4,7,1,0),([79,53],4,5,1,1),([77,49],8,4,1,0),([77,50],8,4,2,0),([77,52],8,4,4,0),([79,49],10,1,1,0),([73,50],8,2,1,0),([68],21,5,1,0),([65],16,5,1,0),([66],11,5,1,0),([79,50],20,2,1,0),([73,52],16,4,1,0)]
def pj (k:Str) (v:Int):Option Int:=match plainTab.lookup k with
 | some (a,b,s,l)=>UN a b s l v
 | none=>if k=[88] then Cq 0 v else if k=[89] then Cq 4 v else if k=[76,50,48] then acX v else if k=[67,56] then c8P v else if k=[83,49,54] then acL v else if k=[84,56] then t8P v else if k=[84,50,52] then tP 24 v else tP 15 v
theorem UZ (v:Int) (hv:dW v) {h:ae}{Q:QT}(q:PutK (pj [85,53] v) h Q):C bC [T [85,53],I v] h Q:=by
 refine bT _ _ _ _ ?_
 unfold dT
 refine bh _ _ _ ?_
 unfold bO
 have s0:=St.start h
 (repeat (first|refine aG rfl ?_|refine aU ?_|refine aF ‹_› (.head _) (nle rfl) ?_|refine aD rfl ?_|refine aM ‹_› fun _ _ _=>?_|refine ax ‹_› .head rfl rfl rfl (nle rfl) fun _ _=>?_))
 have s:=(by assumption:St h [] _ _)
 refine dl 4 5 1 0 v hv (by decide) (by decide) fun b h2 f2 hb=>?_
 (repeat refine aG rfl ?_)
 exact q b _ (St.call s f2).fr hb
theorem VH (v:Int) (hv:dW v) {h:ae}{Q:QT}(q:PutK (pj [85,55] v) h Q):C bC [T [85,55],I v] h Q:=by
 refine bT _ _ _ _ ?_
 unfold dT
 refine bh _ _ _ ?_
 unfold bO
 have s0:=St.start h
 (repeat (first|refine aG rfl ?_|refine aU ?_|refine aF ‹_› (.head _) (nle rfl) ?_|refine aD rfl ?_|refine aM ‹_› fun _ _ _=>?_|refine ax ‹_› .head rfl rfl rfl (nle rfl) fun _ _=>?_))
 have s:=(by assumption:St h [] _ _)
 refine dl 4 7 1 0 v hv (by decide) (by decide) fun b h2 f2 hb=>?_
 (repeat refine aG rfl ?_)
 exact q b _ (St.call s f2).fr hb
theorem Wb (v:Int) (hv:dW v) {h:ae}{Q:QT}(q:PutK (pj [79,53] v) h Q):C bC [T [79,53],I v] h Q:=by
 refine bT _ _ _ _ ?_
 unfold dT
 refine bh _ _ _ ?_
 unfold bO
 have s0:=St.start h
 (repeat (first|refine aG rfl ?_|refine aU ?_|refine aF ‹_› (.head _) (nle rfl) ?_|refine aD rfl ?_|refine aM ‹_› fun _ _ _=>?_|refine ax ‹_› .head rfl rfl rfl (nle rfl) fun _ _=>?_))
 have s:=(by assumption:St h [] _ _)
 refine dl 4 5 1 1 v hv (by decide) (by decide) fun b h2 f2 hb=>?_
 (repeat refine aG rfl ?_)
 exact q b _ (St.call s f2).fr hb
theorem Wd (v:Int) (hv:dW v) {h:ae}{Q:QT}(q:PutK (pj [77,49] v) h Q):C bC [T [77,49],I v] h Q:=by
 refine bT _ _ _ _ ?_
 unfold dT
 refine bh _ _ _ ?_
 unfold bO
 have s0:=St.start h
 (repeat (first|refine aG rfl ?_|refine aU ?_|refine aF ‹_› (.head _) (nle rfl) ?_|refine aD rfl ?_|refine aM ‹_› fun _ _ _=>?_|refine ax ‹_› .head rfl rfl rfl (nle rfl) fun _ _=>?_))
 have s:=(by assumption:St h [] _ _)
 refine dl 8 4 1 0 v hv (by decide) (by decide) fun b h2 f2 hb=>?_
 (repeat refine aG rfl ?_)
 exact q b _ (St.call s f2).fr hb
theorem UW (v:Int) (hv:dW v) {h:ae}{Q:QT}(q:PutK (pj [77,50] v) h Q):C bC [T [77,50],I v] h Q:=by
 refine bT _ _ _ _ ?_
 unfold dT
 refine bh _ _ _ ?_
 unfold bO
 have s0:=St.start h
 (repeat (first|refine aG rfl ?_|refine aU ?_|refine aF ‹_› (.head _) (nle rfl) ?_|refine aD rfl ?_|refine aM ‹_› fun _ _ _=>?_|refine ax ‹_› .head rfl rfl rfl (nle rfl) fun _ _=>?_))
 have s:=(by assumption:St h [] _ _)
 refine dl 8 4 2 0 v hv (by decide) (by decide) fun b h2 f2 hb=>?_
 (repeat refine aG rfl ?_)
 exact q b _ (St.call s f2).fr hb
theorem VJ (v:Int) (hv:dW v) {h:ae}{Q:QT}(q:PutK (pj [77,52] v) h Q):C bC [T [77,52],I v] h Q:=by
 refine bT _ _ _ _ ?_
 unfold dT
 refine bh _ _ _ ?_
 unfold bO
 have s0:=St.start h
 (repeat (first|refine aG rfl ?_|refine aU ?_|refine aF ‹_› (.head _) (nle rfl) ?_|refine aD rfl ?_|refine aM ‹_› fun _ _ _=>?_|refine ax ‹_› .head rfl rfl rfl (nle rfl) fun _ _=>?_))
 have s:=(by assumption:St h [] _ _)
 refine dl 8 4 4 0 v hv (by decide) (by decide) fun b h2 f2 hb=>?_
 (repeat refine aG rfl ?_)
 exact q b _ (St.call s f2).fr hb
theorem UU (v:Int) (hv:dW v) {h:ae}{Q:QT}(q:PutK (pj [79,49] v) h Q):C bC [T [79,49],I v] h Q:=by
 refine bT _ _ _ _ ?_
 unfold dT
 refine bh _ _ _ ?_
 unfold bO
 have s0:=St.start h
 (repeat (first|refine aG rfl ?_|refine aU ?_|refine aF ‹_› (.head _) (nle rfl) ?_|refine aD rfl ?_|refine aM ‹_› fun _ _ _=>?_|refine ax ‹_› .head rfl rfl rfl (nle rfl) fun _ _=>?_))
 have s:=(by assumption:St h [] _ _)
 refine dl 10 1 1 0 v hv (by decide) (by decide) fun b h2 f2 hb=>?_
 (repeat refine aG rfl ?_)
 exact q b _ (St.call s f2).fr hb
theorem VI (v:Int) (hv:dW v) {h:ae}{Q:QT}(q:PutK (pj [73,50] v) h Q):C bC [T [73,50],I v] h Q:=by
 refine bT _ _ _ _ ?_
 unfold dT
 refine bh _ _ _ ?_
 unfold bO
 have s0:=St.start h
 (repeat (first|refine aG rfl ?_|refine aU ?_|refine aF ‹_› (.head _) (nle rfl) ?_|refine aD rfl ?_|refine aM ‹_› fun _ _ _=>?_|refine ax ‹_› .head rfl rfl rfl (nle rfl) fun _ _=>?_))
 have s:=(by assumption:St h [] _ _)
 refine dl 8 2 1 0 v hv (by decide) (by decide) fun b h2 f2 hb=>?_
 (repeat refine aG rfl ?_)
 exact q b _ (St.call s f2).fr hb
theorem Zt (v:Int) (hv:dW v) {h:ae}{Q:QT}(q:PutK (pj [68] v) h Q):C bC [T [68],I v] h Q:=by
 refine bT _ _ _ _ ?_
 unfold dT
 refine bh _ _ _ ?_
 unfold bO
 have s0:=St.start h
 (repeat (first|refine aG rfl ?_|refine aU ?_|refine aF ‹_› (.head _) (nle rfl) ?_|refine aD rfl ?_|refine aM ‹_› fun _ _ _=>?_|refine ax ‹_› .head rfl rfl rfl (nle rfl) fun _ _=>?_))
 have s:=(by assumption:St h [] _ _)
 refine dl 21 5 1 0 v hv (by decide) (by decide) fun b h2 f2 hb=>?_
 (repeat refine aG rfl ?_)
 exact q b _ (St.call s f2).fr hb
theorem Xd (v:Int) (hv:dW v) {h:ae}{Q:QT}(q:PutK (pj [65] v) h Q):C bC [T [65],I v] h Q:=by
 refine bT _ _ _ _ ?_
 unfold dT
 refine bh _ _ _ ?_
 unfold bO
 have s0:=St.start h
 (repeat (first|refine aG rfl ?_|refine aU ?_|refine aF ‹_› (.head _) (nle rfl) ?_|refine aD rfl ?_|refine aM ‹_› fun _ _ _=>?_|refine ax ‹_› .head rfl rfl rfl (nle rfl) fun _ _=>?_))
 have s:=(by assumption:St h [] _ _)
 refine dl 16 5 1 0 v hv (by decide) (by decide) fun b h2 f2 hb=>?_
 (repeat refine aG rfl ?_)
 exact q b _ (St.call s f2).fr hb
theorem Zo (v:Int) (hv:dW v) {h:ae}{Q:QT}(q:PutK (pj [66] v) h Q):C bC [T [66],I v] h Q:=by
 refine bT _ _ _ _ ?_
 unfold dT
 refine bh _ _ _ ?_
 unfold bO
 have s0:=St.start h
 (repeat (first|refine aG rfl ?_|refine aU ?_|refine aF ‹_› (.head _) (nle rfl) ?_|refine aD rfl ?_|refine aM ‹_› fun _ _ _=>?_|refine ax ‹_› .head rfl rfl rfl (nle rfl) fun _ _=>?_))
 have s:=(by assumption:St h [] _ _)
 refine dl 11 5 1 0 v hv (by decide) (by decide) fun b h2 f2 hb=>?_
 (repeat refine aG rfl ?_)
 exact q b _ (St.call s f2).fr hb
theorem Wq (v:Int) (hv:dW v) {h:ae}{Q:QT}(q:PutK (pj [79,50] v) h Q):C bC [T [79,50],I v] h Q:=by
 refine bT _ _ _ _ ?_
 unfold dT
 refine bh _ _ _ ?_
 unfold bO
 have s0:=St.start h
 (repeat (first|refine aG rfl ?_|refine aU ?_|refine aF ‹_› (.head _) (nle rfl) ?_|refine aD rfl ?_|refine aM ‹_› fun _ _ _=>?_|refine ax ‹_› .head rfl rfl rfl (nle rfl) fun _ _=>?_))
 have s:=(by assumption:St h [] _ _)
 refine dl 20 2 1 0 v hv (by decide) (by decide) fun b h2 f2 hb=>?_
 (repeat refine aG rfl ?_)
 exact q b _ (St.call s f2).fr hb
theorem Uy (v:Int) (hv:dW v) {h:ae}{Q:QT}(q:PutK (pj [73,52] v) h Q):C bC [T [73,52],I v] h Q:=by
 refine bT _ _ _ _ ?_
 unfold dT
 refine bh _ _ _ ?_
 unfold bO
 have s0:=St.start h
 (repeat (first|refine aG rfl ?_|refine aU ?_|refine aF ‹_› (.head _) (nle rfl) ?_|refine aD rfl ?_|refine aM ‹_› fun _ _ _=>?_|refine ax ‹_› .head rfl rfl rfl (nle rfl) fun _ _=>?_))
 have s:=(by assumption:St h [] _ _)
 refine dl 16 4 1 0 v hv (by decide) (by decide) fun b h2 f2 hb=>?_
 (repeat refine aG rfl ?_)
 exact q b _ (St.call s f2).fr hb
theorem XZ (v:Int) (hv:dW v) {h:ae}{Q:QT}(q:PutK (pj [88] v) h Q):C bC [T [88],I v] h Q:=by
 have q:PutK (Cq 0 v) h Q:=q
 unfold dW at hv
 refine bT _ _ _ _ ?_
 unfold dT
 refine bh _ _ _ ?_
 unfold bO
 have s0:=St.start h
 (repeat (first|refine aG rfl ?_|refine aJ ?_|refine aU ?_|refine aF ‹_› (.head _) (nle rfl) ?_|refine aD rfl ?_|refine aM ‹_› fun _ _ _=>?_|refine ax ‹_› .head rfl rfl rfl (nle rfl) fun _ _=>?_))
 have s:=(by assumption:St h [] _ _)
 refine ah (fun hb=>?_) (fun hb=>?_)<;>simp only[za,zb,zc,zd,ze,zf,zg,zh,zi,u8i,zj,zk,zl]at hb
 ·exact q.none s.fr _ (by unfold Cq;rw[if_pos (by omega)])
 (repeat refine bD ?_)
 cases h7:decide (7<v) with
 | true=>
   refine m5 (ah (fun _=>?_) (fun hb=>by cases hb)) ⟨_,rfl⟩
   simp at h7
   (repeat refine aJ ?_)
   refine ah (fun h24=>?_) (fun h24=>?_)<;>simp only[za,zb,zc,zd,ze,zf,zg,zh,zi,u8i,zj,zk,zl]at h24
   ·exact q.none s.fr _ (by unfold Cq;rw[if_pos (by omega)])
   ·(repeat refine bD ?_)
    refine ah (fun h31=>?_) (fun h31=>?_)<;>simp only[za,zb,zc,zd,ze,zf,zg,zh,zi,u8i,zj,zk,zl]at h31
    ·exact q.none s.fr _ (by unfold Cq;rw[if_pos (by omega)])
    ·exact FQ _ 0 rfl hv q s.fr (by omega)
 | false=>
   refine m5 (ah (fun hb=>by cases hb) (fun _=>?_)) ⟨_,rfl⟩
   simp at h7
   (repeat refine bD ?_)
   refine ah (fun h31=>?_) (fun h31=>?_)<;>simp only[za,zb,zc,zd,ze,zf,zg,zh,zi,u8i,zj,zk,zl]at h31
   ·exact q.none s.fr _ (by unfold Cq;rw[if_pos (by omega)])
   ·exact FQ _ 0 rfl hv q s.fr (by omega)
theorem Xr (v:Int) (hv:dW v) {h:ae}{Q:QT}(q:PutK (pj [89] v) h Q):C bC [T [89],I v] h Q:=by
 have q:PutK (Cq 4 v) h Q:=q
 unfold dW at hv
 refine bT _ _ _ _ ?_
 unfold dT
 refine bh _ _ _ ?_
 unfold bO
 have s0:=St.start h
 (repeat (first|refine aG rfl ?_|refine aJ ?_|refine aU ?_|refine aF ‹_› (.head _) (nle rfl) ?_|refine aD rfl ?_|refine aM ‹_› fun _ _ _=>?_|refine ax ‹_› .head rfl rfl rfl (nle rfl) fun _ _=>?_))
 have s:=(by assumption:St h [] _ _)
 refine ah (fun hb=>?_) (fun hb=>?_)<;>simp only[za,zb,zc,zd,ze,zf,zg,zh,zi,u8i,zj,zk,zl]at hb
 ·exact q.none s.fr _ (by unfold Cq;rw[if_pos (by omega)])
 (repeat refine bD ?_)
 cases h7:decide (7<v) with
 | true=>
   refine m5 (ah (fun _=>?_) (fun hb=>by cases hb)) ⟨_,rfl⟩
   simp at h7
   (repeat refine aJ ?_)
   refine ah (fun h24=>?_) (fun h24=>?_)<;>simp only[za,zb,zc,zd,ze,zf,zg,zh,zi,u8i,zj,zk,zl]at h24
   ·exact q.none s.fr _ (by unfold Cq;rw[if_pos (by omega)])
   ·(repeat refine bD ?_)
    refine ah (fun h31=>?_) (fun h31=>?_)<;>simp only[za,zb,zc,zd,ze,zf,zg,zh,zi,u8i,zj,zk,zl]at h31
    ·exact q.none s.fr _ (by unfold Cq;rw[if_pos (by omega)])
    ·exact FQ _ 4 rfl hv q s.fr (by omega)
 | false=>
   refine m5 (ah (fun hb=>by cases hb) (fun _=>?_)) ⟨_,rfl⟩
   simp at h7
   (repeat refine bD ?_)
   refine ah (fun h31=>?_) (fun h31=>?_)<;>simp only[za,zb,zc,zd,ze,zf,zg,zh,zi,u8i,zj,zk,zl]at h31
   ·exact q.none s.fr _ (by unfold Cq;rw[if_pos (by omega)])
   ·exact FQ _ 4 rfl hv q s.fr (by omega)
theorem Sq (hL:dz) (v:Int) (hv:dW v) {h:ae}{Q:QT}(q:PutK (pj [76,50,48] v) h Q):C bC [T [76,50,48],I v] h Q:=by
 have q:PutK (acX v) h Q:=q
 refine bT _ _ _ _ ?_
 unfold dT
 refine bh _ _ _ ?_
 unfold bO
 have s0:=St.start h
 (repeat (first|refine aG rfl ?_|refine aU ?_|refine aF ‹_› (.head _) (nle rfl) ?_|refine aD rfl ?_|refine aM ‹_› fun _ _ _=>?_|refine ax ‹_› .head rfl rfl rfl (nle rfl) fun _ _=>?_))
 have s:=(by assumption:St h [] _ _)
 refine Oi v ?_
 (repeat refine aG rfl ?_)
 refine kP (by decide) ?_
 refine kP (by decide) ?_
 refine u0 ?_
 refine u0 ?_
 refine ew ?_
 refine BG hL v hv 19 (by decide) ?_
 exact q.is s.fr rfl
theorem Q7 (hL:dz) (v:Int) (hv:dW v) {h:ae}{Q:QT}(q:PutK (pj [83,49,54] v) h Q):C bC [T [83,49,54],I v] h Q:=by
 have q:PutK (acL v) h Q:=q
 refine bT _ _ _ _ ?_
 unfold dT
 refine bh _ _ _ ?_
 unfold bO
 have s0:=St.start h
 (repeat (first|refine aG rfl ?_|refine aU ?_|refine aF ‹_› (.head _) (nle rfl) ?_|refine aD rfl ?_|refine aM ‹_› fun _ _ _=>?_|refine ax ‹_› .head rfl rfl rfl (nle rfl) fun _ _=>?_))
 have s:=(by assumption:St h [] _ _)
 refine pV ?_
 refine ew ?_
 refine BG hL v hv 15 (by decide) ?_
 exact q.is s.fr rfl
theorem WN (v:Int) (hv:dW v) {h:ae}{Q:QT}(q:PutK (pj [67,56] v) h Q):C bC [T [67,56],I v] h Q:=by
 have q:PutK (c8P v) h Q:=q
 refine bT _ _ _ _ ?_
 unfold dT
 refine bh _ _ _ ?_
 unfold bO
 have s0:=St.start h
 (repeat (first|refine aG rfl ?_|refine aU ?_|refine aF ‹_› (.head _) (nle rfl) ?_|refine aD rfl ?_|refine aM ‹_› fun _ _ _=>?_|refine ax ‹_› .head rfl rfl rfl (nle rfl) fun _ _=>?_))
 have s:=(by assumption:St h [] _ _)
 refine aaM v fun h2 f2=>?_
 have s2:=s.call f2
 unfold c8P at q
 cases hs:aap v with
 | none=>
   rw[hs]at q
   refine aG rfl ?_
   refine aG rfl ?_
   refine aG rfl ?_
   refine aG rfl ?_
   refine kP (by decide) ?_
   refine kP (by decide) ?_
   refine u0 ?_
   refine u0 ?_
   refine ew ?_
   exact q.none s2.fr _ rfl
 | some x=>
   obtain⟨f,sc,ui⟩:=x
   rw[hs]at q
   refine aG rfl ?_
   refine aG rfl ?_
   refine aG rfl ?_
   refine aG rfl ?_
   refine kP (by decide) ?_
   refine kP (by decide) ?_
   refine u0 ?_
   refine u0 ?_
   refine ew ?_
   exact q.some s2.fr rfl
theorem UY (hL:dz) (v:Int) (hv:dW v) {h:ae}{Q:QT}(q:PutK (pj [84,56] v) h Q):C bC [T [84,56],I v] h Q:=by
 have q:PutK (t8P v) h Q:=q
 have hv':=hv
 unfold dW at hv'
 refine bT _ _ _ _ ?_
 unfold dT
 refine bh _ _ _ ?_
 unfold bO
 have s0:=St.start h
 (repeat (first|refine aG rfl ?_|refine aU ?_|refine aF ‹_› (.head _) (nle rfl) ?_|refine aD rfl ?_|refine aM ‹_› fun _ _ _=>?_|refine ax ‹_› .head rfl rfl rfl (nle rfl) fun _ _=>?_))
 have s:=(by assumption:St h [] _ _)
 refine mJ (by decide) ?_
 refine bU ?_
 refine ah (fun hb=>?_) (fun hb=>?_)<;>simp only[za,zb,zc,zd,ze,zf,zg,zh,zi,u8i,zj,zk,zl]at hb
 ·exact q.none s.fr _ (by unfold t8P;rw[if_neg hb])
 refine oT _ _ _ ?_
 unfold uq
 (repeat refine aU ?_)
 refine BG hL v hv 8 (by decide) ?_
 refine bm ?_
 have hb:v.tmod 2=0:=by simpa using hb
 cases hf:Nf v 8 with
 | false=>
   refine ah (fun _=>?_) (fun hb=>by cases hb)
   exact q.none s.fr _ (by unfold t8P;rw[if_pos hb,if_neg (by simp[hf])])
 | true=>
   refine ah (fun hb=>by cases hb) (fun _=>?_)
   have q:=q.some s.fr (by unfold t8P;rw[if_pos hb,if_pos (by simp[hf])])
   (repeat refine aU ?_)
   refine nY (by decide) (by
    have:=Int.natAbs_tdiv_le_natAbs v 2
    omega) ?_
   refine pV ?_
   refine ew ?_
   exact q
theorem Sb (hL:dz) (v:Int) (hv:dW v) {h:ae}{Q:QT}(q:PutK (pj [84,49,53] v) h Q):C bC [T [84,49,53],I v] h Q:=by
 have q:PutK (tP 15 v) h Q:=q
 have hv':=hv
 unfold dW at hv'
 refine bT _ _ _ _ ?_
 unfold dT
 refine bh _ _ _ ?_
 unfold bO
 have s0:=St.start h
 (repeat (first|refine aG rfl ?_|refine aU ?_|refine aF ‹_› (.head _) (nle rfl) ?_|refine aD rfl ?_|refine aM ‹_› fun _ _ _=>?_|refine ax ‹_› .head rfl rfl rfl (nle rfl) fun _ _=>?_))
 have s:=(by assumption:St h [] _ _)
 refine mJ (by decide) ?_
 refine bU ?_
 refine ah (fun hb=>?_) (fun hb=>?_)<;>simp only[za,zb,zc,zd,ze,zf,zg,zh,zi,u8i,zj,zk,zl]at hb
 ·exact q.none s.fr _ (by unfold tP;rw[if_neg hb])
 refine oT _ _ _ ?_
 unfold uq
 (repeat refine aU ?_)
 refine BG hL v hv 15 (by decide) ?_
 refine bm ?_
 have hb:v.tmod 2=0:=by simpa using hb
 cases hf:Nf v 15 with
 | false=>
   refine ah (fun _=>?_) (fun hb=>by cases hb)
   exact q.none s.fr _ (by unfold tP;rw[if_pos hb,if_neg (by simp[hf])])
 | true=>
   refine ah (fun hb=>by cases hb) (fun _=>?_)
   have q:=q.some s.fr (by unfold tP;rw[if_pos hb,if_pos (by simp[hf])])
   (repeat refine aU ?_)
   refine oT _ _ _ ?_
   unfold uq
   (repeat refine aU ?_)
   refine kP (by decide) ?_
   refine eJ (r:=.int .i64 (2^16-1:Nat)) (by rfl) ?_
   refine pV ?_
   refine ew ?_
   exact q
theorem Sh (hL:dz) (v:Int) (hv:dW v) {h:ae}{Q:QT}(q:PutK (pj [84,50,52] v) h Q):C bC [T [84,50,52],I v] h Q:=by
 have q:PutK (tP 24 v) h Q:=q
 have hv':=hv
 unfold dW at hv'
 refine bT _ _ _ _ ?_
 unfold dT
 refine bh _ _ _ ?_
 unfold bO
 have s0:=St.start h
 (repeat (first|refine aG rfl ?_|refine aU ?_|refine aF ‹_› (.head _) (nle rfl) ?_|refine aD rfl ?_|refine aM ‹_› fun _ _ _=>?_|refine ax ‹_› .head rfl rfl rfl (nle rfl) fun _ _=>?_))
 have s:=(by assumption:St h [] _ _)
 refine mJ (by decide) ?_
 refine bU ?_
 refine ah (fun hb=>?_) (fun hb=>?_)<;>simp only[za,zb,zc,zd,ze,zf,zg,zh,zi,u8i,zj,zk,zl]at hb
 ·exact q.none s.fr _ (by unfold tP;rw[if_neg hb])
 refine oT _ _ _ ?_
 unfold uq
 (repeat refine aU ?_)
 refine BG hL v hv 24 (by decide) ?_
 refine bm ?_
 have hb:v.tmod 2=0:=by simpa using hb
 cases hf:Nf v 24 with
 | false=>
   refine ah (fun _=>?_) (fun hb=>by cases hb)
   exact q.none s.fr _ (by unfold tP;rw[if_pos hb,if_neg (by simp[hf])])
 | true=>
   refine ah (fun hb=>by cases hb) (fun _=>?_)
   have q:=q.some s.fr (by unfold tP;rw[if_pos hb,if_pos (by simp[hf])])
   (repeat refine aU ?_)
   refine oT _ _ _ ?_
   unfold uq
   (repeat refine aU ?_)
   refine kP (by decide) ?_
   refine eJ (r:=.int .i64 (2^25-1:Nat)) (by rfl) ?_
   refine pV ?_
   refine ew ?_
   exact q
def Z4:List Str:=[[85,53],[85,55],[79,53],[77,49],[77,50],[77,52],[79,49],[73,50],[68],[65],[66],[79,50],[73,52],[88],[89],[76,50,48],[67,56],[83,49,54],[84,56],[84,49,53],[84,50,52]]
omit [Tabs] in
theorem WO:∀ r∈tbl,∀ k∈cV r.kinds,k∈Z4:=by decide
theorem ace (hL:dz) {k:Str}(hk:k∈Z4) (v:Int) (hv:dW v) {h:ae}{Q:QT}(q:PutK (pj k v) h Q):C bC [T k,I v] h Q:=by
 simp only[Z4,List.mem_cons,List.not_mem_nil,or_false]at hk
 rcases hk with rfl|rfl|rfl|rfl|rfl|rfl|rfl|rfl|rfl|rfl|rfl|rfl|rfl|rfl|rfl|rfl|rfl|rfl|rfl|rfl|rfl
 ·exact UZ v hv q
 ·exact VH v hv q
 ·exact Wb v hv q
 ·exact Wd v hv q
 ·exact UW v hv q
 ·exact VJ v hv q
 ·exact UU v hv q
 ·exact VI v hv q
 ·exact Zt v hv q
 ·exact Xd v hv q
 ·exact Zo v hv q
 ·exact Wq v hv q
 ·exact Uy v hv q
 ·exact XZ v hv q
 ·exact Xr v hv q
 ·exact Sq hL v hv q
 ·exact WN v hv q
 ·exact Q7 hL v hv q
 ·exact UY hL v hv q
 ·exact Sb hL v hv q
 ·exact Sh hL v hv q
