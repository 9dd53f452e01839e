import Derived.Test.YtgkmmcdhhkllnaaGreatDoorMP1toAI2
set_option linter.all false
set_option autoImplicit true
set_option relaxedAutoImplicit true
set_option maxRecDepth 100000
namespace Go.Proofs.YtgkmmcdhhkllnaaGreatDoor.AL
noncomputable section
variable [Tabs]
abbrev U32 (n:Int):AV:=.lit (.int .u32 n)
def US (at_ bits:Nat) (step less v:Int):Option Int:=
 if v<less then none else if Mp .i64 step bits≤v-less then none else if (v-less).tmod step≠0 then none else some (Mp .u32 (IntKind.u32.wrap ((v-less).tdiv step)) at_)
def dW (v:Int):Prop:=-4503599627370496≤v∧v≤4503599627370496
def PutK (m:Option Int) (h:ae) (Q:QT):Prop:=∀ b h',Fr [] h h'→(∀ n,m=some n→b=n)→Q (.tup [U32 b,B m.isSome]) h'
theorem PutK.none {h h':ae}{Q:QT}{m:Option Int}(k:PutK m h Q) (f:Fr [] h h') (b:Int) (e:m=.none):Q (.tup [U32 b,B false]) h':=by
 subst e;exact k b h' f (fun n h=>by cases h)
theorem PutK.some {h h':ae}{Q:QT}{m:Option Int}(k:PutK m h Q) (f:Fr [] h h') {b:Int}(e:m=.some b):Q (.tup [U32 b,B true]) h':=by
 subst e;exact k b h' f (fun n h=>by cases h;rfl)
theorem PutK.is {h h':ae}{Q:QT}{m:Option Int}(k:PutK m h Q) (f:Fr [] h h') {b:Int}{p:Bool}(e:m=if p=true then .some b else .none):Q (.tup [U32 b,B p]) h':=by
 cases p with
 | true=>exact k.some f (by simpa using e)
 | false=>exact k.none f b (by simpa using e)
theorem dl (at_ bits:Nat) (step less v:Int) (hv:dW v) (hs:0<step∧step≤4) (hl:0≤less∧less≤1) {h:ae}{Q:QT}(k:PutK (US at_ bits step less v) h Q):C nZ [.agg [.lit (.int .u64 at_),.lit (.int .u64 bits),I step,I less],I v] h Q:=by
 unfold dW at hv
 refine Dh _ _ _ _ ?_
 unfold zB
 refine bC (St.start h) rfl fun i h1 s1=>?_
 (repeat (first|refine aj ?_|refine aJ ?_|refine ag ‹_› (.head _) rfl ?_))
 refine ah (fun hb=>?_) (fun hb=>?_)<;>simp only[za,zb,zc,zd,ze,zf,zg,zh,zi,u8i,zj,zk,zl]at hb
 ·exact k.none s1.fr _ (by unfold US;rw[if_pos hb])
 (repeat (first|refine aj ?_|refine cC (by omega) ?_|refine ag ‹_› (.head _) rfl ?_))
 refine kM (by omega) ?_
 (repeat refine bz ?_)
 refine ah (fun hb2=>?_) (fun hb2=>?_)<;>simp only[za,zb,zc,zd,ze,zf,zg,zh,zi,u8i,zj,zk,zl]at hb2
 ·exact k.none s1.fr _ (by unfold US;rw[if_neg (by omega)];exact if_pos hb2)
 (repeat (first|refine aj ?_|refine cC (by omega) ?_|refine ag ‹_› (.head _) rfl ?_))
 refine mX (by omega) ?_
 (repeat refine cc ?_)
 refine ah (fun hb3=>?_) (fun hb3=>?_)<;>simp only[za,zb,zc,zd,ze,zf,zg,zh,zi,u8i,zj,zk,zl]at hb3
 ·exact k.none s1.fr _ (by unfold US;rw[if_neg (by omega)];exact (if_neg (Int.not_le.2 hb2)).trans (if_pos hb3))
 (repeat (first|refine aj ?_|refine cC (by omega) ?_|refine ag ‹_› (.head _) rfl ?_))
 have ht:0≤(v-less).tdiv step:=Int.tdiv_nonneg (by omega) (by omega)
 have ht2:(v-less).tdiv step≤v-less:=by
  rw[Int.tdiv_eq_ediv_of_nonneg (by omega)]
  exact Int.ediv_le_self _ (by omega)
 refine nI (by omega) (by omega) ?_
 refine eF ?_
 (repeat (first|refine aj ?_|refine ag ‹_› (.head _) rfl ?_))
 refine kM (by omega) ?_
 refine k.some s1.fr ?_
 unfold US
 rw[if_neg (by omega)]
 exact (if_neg (Int.not_le.2 hb2)).trans (if_neg (by simpa using hb3))
def Mm (v:Int) (b:Nat):Bool:=decide (-(2^b:Nat)≤v)&&decide (v<(2^b:Nat))
theorem PI:∀ b∈[8,15,19,24],Op.negFloat .f64 (FloatKind.f64.nearest (2^b:Nat))=FloatKind.f64.nearest (-(2^b:Nat)):=by decide
theorem Cl (hL:dJ) (v:Int) (hv:dW v) (b:Nat) (hb:b∈[8,15,19,24]) {h:ae}{Q:QT}(k:Q (B (Mm v b)) h):C o6 [I v,I ((b+1:Nat):Int)] h Q:=by
 unfold dW at hv
 have hb2:b≤24:=by simp at hb;omega
 have hpow:2^b≤2^24:=Nat.pow_le_pow_right (by omega) hb2
 have hn:=PI b hb
 have hL':=hL b hb
 unfold Mm at k
 generalize 2^b=X at hpow hn hL' k
 refine PW _ _ _ _ ?_
 unfold OH
 refine cC (by omega) ?_
 rw[show (((b+1:Nat):Int)-1)=(b:Nat) by omega]
 refine hL' _ _ ?_
 refine⟨?_⟩
 refine⟨?_⟩
 refine eJ (r:=.bool (decide (-(X:Int)≤v))) ?_ ?_
 ·simp only[cD,wW,if_true]
  rw[hn,zL v _ (by omega) (by omega)]
  congr 2
  rw[Bool.eq_iff_iff]
  simp only[Bool.or_eq_true,beq_iff_eq,Option.some.injEq,decide_eq_true_eq,compare,compareOfLessAndEq]
  split
  ·simp;omega
  ·split
   ·simp;omega
   ·simp;omega
 ·cases hc:decide (-(X:Int)≤v) with
  | false=>
    refine ah (fun h=>by cases h) (fun _=>?_)
    rw[hc]at k;exact k
  | true=>
    refine ah (fun _=>?_) (fun h=>by cases h)
    refine⟨?_⟩
    refine eJ (r:=.bool (decide (v<(X:Int)))) ?_ ?_
    ·simp only[cD,wW,if_true]
     rw[zL v _ (by omega) (by omega)]
     congr 2
     rw[Bool.eq_iff_iff]
     simp only[beq_iff_eq,Option.some.injEq,decide_eq_true_eq,compare,compareOfLessAndEq]
     split
     ·simp;omega
     ·split
      ·simp;omega
      ·simp;omega
    ·rw[hc]at k;exact k
theorem ZE (k:Str) {h:ae}{Q:QT}(q:Q (.lit (.int .u64 (if k=[89] then 4 else 0))) h):C iI [T k] h Q:=by
 refine Mt _ _ _ ?_
 unfold JY
 (repeat refine aU ?_)
 refine ah (fun hb=>?_) (fun hb=>?_)<;>simp only[za,zb,zc,zd,ze,zf,zg,zh,zi,u8i,zj,zk,zl]at hb
 ·rw[if_pos hb]at q;exact q
 ·rw[if_neg hb]at q;exact q
def CC (sh:Nat) (v:Int):Option Int:=if v<0∨(7<v∧v<24)∨31<v then none else some (Mp .u32 (IntKind.u32.wrap (v-v.tdiv 24*16)) sh)
theorem FN (k:Str) (sh:Nat) (hsh:((if k=[89] then 4 else 0:Nat))=sh) {v:Int}(hv:-4503599627370496≤v∧v≤4503599627370496) {h h1:ae}{Q:QT}(q:PutK (CC sh v) h Q) (f:Fr [] h h1) (h4:¬(v<0∨(7<v∧v<24)∨31<v)):
  ai .quo (I v) (I 24) (fun t46=>ai .mul t46 (I 16) fun t47=>ai .sub (I v) t47 fun t48=>cj .u32 t48 fun t49=>C iI [T k] h1 fun t51 h4=>ai .shl t49 t51 fun t52=>Q (.tup [t52,(B true)]) h4):=by
 refine nI (by omega) (by rw[Int.tdiv_eq_ediv_of_nonneg (by omega)];omega) ?_
 have hq:0≤v.tdiv 24∧v.tdiv 24≤1:=by rw[Int.tdiv_eq_ediv_of_nonneg (by omega)];omega
 refine vx (by omega) ?_
 refine cC (by omega) ?_
 refine eF ?_
 refine ZE _ ?_
 refine kM (by split<;>omega) ?_
 refine q.some f ?_
 unfold CC
 rw[if_neg h4,← hsh]
 split<;>rfl
def ac9 (v:Int):Option Int:=if Mm v 19=true then some (IntKind.u32.wrap (orI .i64 (orI .i64 (Mp .i64 (Fm .i64 (Nx .i64 v 16) 15) 11) (Mp .i64 (Fm .i64 (Nx .i64 v 11) 31) 16)) (Fm .i64 v 2047))) else none
def c8P (v:Int):Option Int:=(aa5 v).map fun x=>IntKind.u32.wrap (orI .i64 (orI .i64 (Mp .i64 x.1 10) (Mp .i64 x.2.1 8)) x.2.2)
def adl (v:Int):Option Int:=if Mm v 15=true then some (IntKind.u32.wrap (Fm .i64 v 65535)) else none
def t8P (v:Int):Option Int:=if v.tmod 2=0 then (if Mm v 8=true then some (IntKind.u32.wrap (Fm .i64 (v.tdiv 2) 255)) else none) else none
def tP (b:Nat) (v:Int):Option Int:=if v.tmod 2=0 then (if Mm v b=true then some (IntKind.u32.wrap (Fm .i64 v (2^(b+1)-1:Nat))) else none) else none
def plainTab:List (Str×Nat×Nat×Int×Int):=[([85,53],4,5,1,0),([85,55],4,7,1,0),([79,53],4,5,1,1),([77,49],8,4,1,0),([77,50],8,4,2,0),([77,52],8,4,4,0),([79,49],10,1,1,0),([73,50],8,2,1,0),([68],21,5,1,0),([65],16,5,1,0),([66],11,5,1,0),([79,50],20,2,1,0),([73,52],16,4,1,0)]
def pg (k:Str) (v:Int):Option Int:=match plainTab.lookup k with
 | some (a,b,s,l)=>US a b s l v
 | none=>if k=[88] then CC 0 v else if k=[89] then CC 4 v else if k=[76,50,48] then ac9 v else if k=[67,56] then c8P v else if k=[83,49,54] then adl v else if k=[84,56] then t8P v else if k=[84,50,52] then tP 24 v else tP 15 v
theorem Vt (v:Int) (hv:dW v) {h:ae}{Q:QT}(q:PutK (pg [85,53] v) h Q):C bB [T [85,53],I v] h Q:=by
 refine bU _ _ _ _ ?_
 unfold dT
 refine bj _ _ _ ?_
 unfold bO
 have s0:=St.start h
 (repeat (first|refine aG rfl ?_|refine aU ?_|refine aF ‹_› (.head _) (nle rfl) ?_|refine aD rfl ?_|refine aM ‹_› fun _ _ _=>?_|refine ax ‹_› .head rfl rfl rfl (nle rfl) fun _ _=>?_))
 have s:=(by assumption:St h [] _ _)
 refine dl 4 5 1 0 v hv (by decide) (by decide) fun b h2 f2 hb=>?_
 (repeat refine aG rfl ?_)
 exact q b _ (St.call s f2).fr hb
theorem WT (v:Int) (hv:dW v) {h:ae}{Q:QT}(q:PutK (pg [85,55] v) h Q):C bB [T [85,55],I v] h Q:=by
 refine bU _ _ _ _ ?_
 unfold dT
 refine bj _ _ _ ?_
 unfold bO
 have s0:=St.start h
 (repeat (first|refine aG rfl ?_|refine aU ?_|refine aF ‹_› (.head _) (nle rfl) ?_|refine aD rfl ?_|refine aM ‹_› fun _ _ _=>?_|refine ax ‹_› .head rfl rfl rfl (nle rfl) fun _ _=>?_))
 have s:=(by assumption:St h [] _ _)
 refine dl 4 7 1 0 v hv (by decide) (by decide) fun b h2 f2 hb=>?_
 (repeat refine aG rfl ?_)
 exact q b _ (St.call s f2).fr hb
theorem WC (v:Int) (hv:dW v) {h:ae}{Q:QT}(q:PutK (pg [79,53] v) h Q):C bB [T [79,53],I v] h Q:=by
 refine bU _ _ _ _ ?_
 unfold dT
 refine bj _ _ _ ?_
 unfold bO
 have s0:=St.start h
 (repeat (first|refine aG rfl ?_|refine aU ?_|refine aF ‹_› (.head _) (nle rfl) ?_|refine aD rfl ?_|refine aM ‹_› fun _ _ _=>?_|refine ax ‹_› .head rfl rfl rfl (nle rfl) fun _ _=>?_))
 have s:=(by assumption:St h [] _ _)
 refine dl 4 5 1 1 v hv (by decide) (by decide) fun b h2 f2 hb=>?_
 (repeat refine aG rfl ?_)
 exact q b _ (St.call s f2).fr hb
theorem Vj (v:Int) (hv:dW v) {h:ae}{Q:QT}(q:PutK (pg [77,49] v) h Q):C bB [T [77,49],I v] h Q:=by
 refine bU _ _ _ _ ?_
 unfold dT
 refine bj _ _ _ ?_
 unfold bO
 have s0:=St.start h
 (repeat (first|refine aG rfl ?_|refine aU ?_|refine aF ‹_› (.head _) (nle rfl) ?_|refine aD rfl ?_|refine aM ‹_› fun _ _ _=>?_|refine ax ‹_› .head rfl rfl rfl (nle rfl) fun _ _=>?_))
 have s:=(by assumption:St h [] _ _)
 refine dl 8 4 1 0 v hv (by decide) (by decide) fun b h2 f2 hb=>?_
 (repeat refine aG rfl ?_)
 exact q b _ (St.call s f2).fr hb
theorem VC (v:Int) (hv:dW v) {h:ae}{Q:QT}(q:PutK (pg [77,50] v) h Q):C bB [T [77,50],I v] h Q:=by
 refine bU _ _ _ _ ?_
 unfold dT
 refine bj _ _ _ ?_
 unfold bO
 have s0:=St.start h
 (repeat (first|refine aG rfl ?_|refine aU ?_|refine aF ‹_› (.head _) (nle rfl) ?_|refine aD rfl ?_|refine aM ‹_› fun _ _ _=>?_|refine ax ‹_› .head rfl rfl rfl (nle rfl) fun _ _=>?_))
 have s:=(by assumption:St h [] _ _)
 refine dl 8 4 2 0 v hv (by decide) (by decide) fun b h2 f2 hb=>?_
 (repeat refine aG rfl ?_)
 exact q b _ (St.call s f2).fr hb
theorem Vy (v:Int) (hv:dW v) {h:ae}{Q:QT}(q:PutK (pg [77,52] v) h Q):C bB [T [77,52],I v] h Q:=by
 refine bU _ _ _ _ ?_
 unfold dT
 refine bj _ _ _ ?_
 unfold bO
 have s0:=St.start h
 (repeat (first|refine aG rfl ?_|refine aU ?_|refine aF ‹_› (.head _) (nle rfl) ?_|refine aD rfl ?_|refine aM ‹_› fun _ _ _=>?_|refine ax ‹_› .head rfl rfl rfl (nle rfl) fun _ _=>?_))
 have s:=(by assumption:St h [] _ _)
 refine dl 8 4 4 0 v hv (by decide) (by decide) fun b h2 f2 hb=>?_
 (repeat refine aG rfl ?_)
 exact q b _ (St.call s f2).fr hb
theorem WW (v:Int) (hv:dW v) {h:ae}{Q:QT}(q:PutK (pg [79,49] v) h Q):C bB [T [79,49],I v] h Q:=by
 refine bU _ _ _ _ ?_
 unfold dT
 refine bj _ _ _ ?_
 unfold bO
 have s0:=St.start h
 (repeat (first|refine aG rfl ?_|refine aU ?_|refine aF ‹_› (.head _) (nle rfl) ?_|refine aD rfl ?_|refine aM ‹_› fun _ _ _=>?_|refine ax ‹_› .head rfl rfl rfl (nle rfl) fun _ _=>?_))
 have s:=(by assumption:St h [] _ _)
 refine dl 10 1 1 0 v hv (by decide) (by decide) fun b h2 f2 hb=>?_
 (repeat refine aG rfl ?_)
 exact q b _ (St.call s f2).fr hb
theorem Vv (v:Int) (hv:dW v) {h:ae}{Q:QT}(q:PutK (pg [73,50] v) h Q):C bB [T [73,50],I v] h Q:=by
 refine bU _ _ _ _ ?_
 unfold dT
 refine bj _ _ _ ?_
 unfold bO
 have s0:=St.start h
 (repeat (first|refine aG rfl ?_|refine aU ?_|refine aF ‹_› (.head _) (nle rfl) ?_|refine aD rfl ?_|refine aM ‹_› fun _ _ _=>?_|refine ax ‹_› .head rfl rfl rfl (nle rfl) fun _ _=>?_))
 have s:=(by assumption:St h [] _ _)
 refine dl 8 2 1 0 v hv (by decide) (by decide) fun b h2 f2 hb=>?_
 (repeat refine aG rfl ?_)
 exact q b _ (St.call s f2).fr hb
theorem YD (v:Int) (hv:dW v) {h:ae}{Q:QT}(q:PutK (pg [68] v) h Q):C bB [T [68],I v] h Q:=by
 refine bU _ _ _ _ ?_
 unfold dT
 refine bj _ _ _ ?_
 unfold bO
 have s0:=St.start h
 (repeat (first|refine aG rfl ?_|refine aU ?_|refine aF ‹_› (.head _) (nle rfl) ?_|refine aD rfl ?_|refine aM ‹_› fun _ _ _=>?_|refine ax ‹_› .head rfl rfl rfl (nle rfl) fun _ _=>?_))
 have s:=(by assumption:St h [] _ _)
 refine dl 21 5 1 0 v hv (by decide) (by decide) fun b h2 f2 hb=>?_
 (repeat refine aG rfl ?_)
 exact q b _ (St.call s f2).fr hb
theorem Z2 (v:Int) (hv:dW v) {h:ae}{Q:QT}(q:PutK (pg [65] v) h Q):C bB [T [65],I v] h Q:=by
 refine bU _ _ _ _ ?_
 unfold dT
 refine bj _ _ _ ?_
 unfold bO
 have s0:=St.start h
 (repeat (first|refine aG rfl ?_|refine aU ?_|refine aF ‹_› (.head _) (nle rfl) ?_|refine aD rfl ?_|refine aM ‹_› fun _ _ _=>?_|refine ax ‹_› .head rfl rfl rfl (nle rfl) fun _ _=>?_))
 have s:=(by assumption:St h [] _ _)
 refine dl 16 5 1 0 v hv (by decide) (by decide) fun b h2 f2 hb=>?_
 (repeat refine aG rfl ?_)
 exact q b _ (St.call s f2).fr hb
theorem Xy (v:Int) (hv:dW v) {h:ae}{Q:QT}(q:PutK (pg [66] v) h Q):C bB [T [66],I v] h Q:=by
 refine bU _ _ _ _ ?_
 unfold dT
 refine bj _ _ _ ?_
 unfold bO
 have s0:=St.start h
 (repeat (first|refine aG rfl ?_|refine aU ?_|refine aF ‹_› (.head _) (nle rfl) ?_|refine aD rfl ?_|refine aM ‹_› fun _ _ _=>?_|refine ax ‹_› .head rfl rfl rfl (nle rfl) fun _ _=>?_))
 have s:=(by assumption:St h [] _ _)
 refine dl 11 5 1 0 v hv (by decide) (by decide) fun b h2 f2 hb=>?_
 (repeat refine aG rfl ?_)
 exact q b _ (St.call s f2).fr hb
theorem Vp (v:Int) (hv:dW v) {h:ae}{Q:QT}(q:PutK (pg [79,50] v) h Q):C bB [T [79,50],I v] h Q:=by
 refine bU _ _ _ _ ?_
 unfold dT
 refine bj _ _ _ ?_
 unfold bO
 have s0:=St.start h
 (repeat (first|refine aG rfl ?_|refine aU ?_|refine aF ‹_› (.head _) (nle rfl) ?_|refine aD rfl ?_|refine aM ‹_› fun _ _ _=>?_|refine ax ‹_› .head rfl rfl rfl (nle rfl) fun _ _=>?_))
 have s:=(by assumption:St h [] _ _)
 refine dl 20 2 1 0 v hv (by decide) (by decide) fun b h2 f2 hb=>?_
 (repeat refine aG rfl ?_)
 exact q b _ (St.call s f2).fr hb
theorem WA (v:Int) (hv:dW v) {h:ae}{Q:QT}(q:PutK (pg [73,52] v) h Q):C bB [T [73,52],I v] h Q:=by
 refine bU _ _ _ _ ?_
 unfold dT
 refine bj _ _ _ ?_
 unfold bO
 have s0:=St.start h
 (repeat (first|refine aG rfl ?_|refine aU ?_|refine aF ‹_› (.head _) (nle rfl) ?_|refine aD rfl ?_|refine aM ‹_› fun _ _ _=>?_|refine ax ‹_› .head rfl rfl rfl (nle rfl) fun _ _=>?_))
 have s:=(by assumption:St h [] _ _)
 refine dl 16 4 1 0 v hv (by decide) (by decide) fun b h2 f2 hb=>?_
 (repeat refine aG rfl ?_)
 exact q b _ (St.call s f2).fr hb
theorem Yp (v:Int) (hv:dW v) {h:ae}{Q:QT}(q:PutK (pg [88] v) h Q):C bB [T [88],I v] h Q:=by
 have q:PutK (CC 0 v) h Q:=q
 unfold dW at hv
 refine bU _ _ _ _ ?_
 unfold dT
 refine bj _ _ _ ?_
 unfold bO
 have s0:=St.start h
 (repeat (first|refine aG rfl ?_|refine aJ ?_|refine aU ?_|refine aF ‹_› (.head _) (nle rfl) ?_|refine aD rfl ?_|refine aM ‹_› fun _ _ _=>?_|refine ax ‹_› .head rfl rfl rfl (nle rfl) fun _ _=>?_))
 have s:=(by assumption:St h [] _ _)
 refine ah (fun hb=>?_) (fun hb=>?_)<;>simp only[za,zb,zc,zd,ze,zf,zg,zh,zi,u8i,zj,zk,zl]at hb
 ·exact q.none s.fr _ (by unfold CC;rw[if_pos (by omega)])
 (repeat refine bL ?_)
 cases h7:decide (7<v) with
 | true=>
   refine pk (ah (fun _=>?_) (fun hb=>by cases hb)) ⟨_,rfl⟩
   simp at h7
   (repeat refine aJ ?_)
   refine ah (fun h24=>?_) (fun h24=>?_)<;>simp only[za,zb,zc,zd,ze,zf,zg,zh,zi,u8i,zj,zk,zl]at h24
   ·exact q.none s.fr _ (by unfold CC;rw[if_pos (by omega)])
   ·(repeat refine bL ?_)
    refine ah (fun h31=>?_) (fun h31=>?_)<;>simp only[za,zb,zc,zd,ze,zf,zg,zh,zi,u8i,zj,zk,zl]at h31
    ·exact q.none s.fr _ (by unfold CC;rw[if_pos (by omega)])
    ·exact FN _ 0 rfl hv q s.fr (by omega)
 | false=>
   refine pk (ah (fun hb=>by cases hb) (fun _=>?_)) ⟨_,rfl⟩
   simp at h7
   (repeat refine bL ?_)
   refine ah (fun h31=>?_) (fun h31=>?_)<;>simp only[za,zb,zc,zd,ze,zf,zg,zh,zi,u8i,zj,zk,zl]at h31
   ·exact q.none s.fr _ (by unfold CC;rw[if_pos (by omega)])
   ·exact FN _ 0 rfl hv q s.fr (by omega)
theorem XD (v:Int) (hv:dW v) {h:ae}{Q:QT}(q:PutK (pg [89] v) h Q):C bB [T [89],I v] h Q:=by
 have q:PutK (CC 4 v) h Q:=q
 unfold dW at hv
 refine bU _ _ _ _ ?_
 unfold dT
 refine bj _ _ _ ?_
 unfold bO
 have s0:=St.start h
 (repeat (first|refine aG rfl ?_|refine aJ ?_|refine aU ?_|refine aF ‹_› (.head _) (nle rfl) ?_|refine aD rfl ?_|refine aM ‹_› fun _ _ _=>?_|refine ax ‹_› .head rfl rfl rfl (nle rfl) fun _ _=>?_))
 have s:=(by assumption:St h [] _ _)
 refine ah (fun hb=>?_) (fun hb=>?_)<;>simp only[za,zb,zc,zd,ze,zf,zg,zh,zi,u8i,zj,zk,zl]at hb
 ·exact q.none s.fr _ (by unfold CC;rw[if_pos (by omega)])
 (repeat refine bL ?_)
 cases h7:decide (7<v) with
 | true=>
   refine pk (ah (fun _=>?_) (fun hb=>by cases hb)) ⟨_,rfl⟩
   simp at h7
   (repeat refine aJ ?_)
   refine ah (fun h24=>?_) (fun h24=>?_)<;>simp only[za,zb,zc,zd,ze,zf,zg,zh,zi,u8i,zj,zk,zl]at h24
   ·exact q.none s.fr _ (by unfold CC;rw[if_pos (by omega)])
   ·(repeat refine bL ?_)
    refine ah (fun h31=>?_) (fun h31=>?_)<;>simp only[za,zb,zc,zd,ze,zf,zg,zh,zi,u8i,zj,zk,zl]at h31
    ·exact q.none s.fr _ (by unfold CC;rw[if_pos (by omega)])
    ·exact FN _ 4 rfl hv q s.fr (by omega)
 | false=>
   refine pk (ah (fun hb=>by cases hb) (fun _=>?_)) ⟨_,rfl⟩
   simp at h7
   (repeat refine bL ?_)
   refine ah (fun h31=>?_) (fun h31=>?_)<;>simp only[za,zb,zc,zd,ze,zf,zg,zh,zi,u8i,zj,zk,zl]at h31
   ·exact q.none s.fr _ (by unfold CC;rw[if_pos (by omega)])
   ·exact FN _ 4 rfl hv q s.fr (by omega)
theorem Rm (hL:dJ) (v:Int) (hv:dW v) {h:ae}{Q:QT}(q:PutK (pg [76,50,48] v) h Q):C bB [T [76,50,48],I v] h Q:=by
 have q:PutK (ac9 v) h Q:=q
 refine bU _ _ _ _ ?_
 unfold dT
 refine bj _ _ _ ?_
 unfold bO
 have s0:=St.start h
 (repeat (first|refine aG rfl ?_|refine aU ?_|refine aF ‹_› (.head _) (nle rfl) ?_|refine aD rfl ?_|refine aM ‹_› fun _ _ _=>?_|refine ax ‹_› .head rfl rfl rfl (nle rfl) fun _ _=>?_))
 have s:=(by assumption:St h [] _ _)
 refine NQ v ?_
 (repeat refine aG rfl ?_)
 refine kM (by decide) ?_
 refine kM (by decide) ?_
 refine vy ?_
 refine vy ?_
 refine eF ?_
 refine Cl hL v hv 19 (by decide) ?_
 exact q.is s.fr rfl
theorem R8 (hL:dJ) (v:Int) (hv:dW v) {h:ae}{Q:QT}(q:PutK (pg [83,49,54] v) h Q):C bB [T [83,49,54],I v] h Q:=by
 have q:PutK (adl v) h Q:=q
 refine bU _ _ _ _ ?_
 unfold dT
 refine bj _ _ _ ?_
 unfold bO
 have s0:=St.start h
 (repeat (first|refine aG rfl ?_|refine aU ?_|refine aF ‹_› (.head _) (nle rfl) ?_|refine aD rfl ?_|refine aM ‹_› fun _ _ _=>?_|refine ax ‹_› .head rfl rfl rfl (nle rfl) fun _ _=>?_))
 have s:=(by assumption:St h [] _ _)
 refine pZ ?_
 refine eF ?_
 refine Cl hL v hv 15 (by decide) ?_
 exact q.is s.fr rfl
theorem Wx (v:Int) (hv:dW v) {h:ae}{Q:QT}(q:PutK (pg [67,56] v) h Q):C bB [T [67,56],I v] h Q:=by
 have q:PutK (c8P v) h Q:=q
 refine bU _ _ _ _ ?_
 unfold dT
 refine bj _ _ _ ?_
 unfold bO
 have s0:=St.start h
 (repeat (first|refine aG rfl ?_|refine aU ?_|refine aF ‹_› (.head _) (nle rfl) ?_|refine aD rfl ?_|refine aM ‹_› fun _ _ _=>?_|refine ax ‹_› .head rfl rfl rfl (nle rfl) fun _ _=>?_))
 have s:=(by assumption:St h [] _ _)
 refine aaP v fun h2 f2=>?_
 have s2:=s.call f2
 unfold c8P at q
 cases hs:aa5 v with
 | none=>
   rw[hs]at q
   refine aG rfl ?_
   refine aG rfl ?_
   refine aG rfl ?_
   refine aG rfl ?_
   refine kM (by decide) ?_
   refine kM (by decide) ?_
   refine vy ?_
   refine vy ?_
   refine eF ?_
   exact q.none s2.fr _ rfl
 | some x=>
   obtain⟨f,sc,ui⟩:=x
   rw[hs]at q
   refine aG rfl ?_
   refine aG rfl ?_
   refine aG rfl ?_
   refine aG rfl ?_
   refine kM (by decide) ?_
   refine kM (by decide) ?_
   refine vy ?_
   refine vy ?_
   refine eF ?_
   exact q.some s2.fr rfl
theorem Vx (hL:dJ) (v:Int) (hv:dW v) {h:ae}{Q:QT}(q:PutK (pg [84,56] v) h Q):C bB [T [84,56],I v] h Q:=by
 have q:PutK (t8P v) h Q:=q
 have hv':=hv
 unfold dW at hv'
 refine bU _ _ _ _ ?_
 unfold dT
 refine bj _ _ _ ?_
 unfold bO
 have s0:=St.start h
 (repeat (first|refine aG rfl ?_|refine aU ?_|refine aF ‹_› (.head _) (nle rfl) ?_|refine aD rfl ?_|refine aM ‹_› fun _ _ _=>?_|refine ax ‹_› .head rfl rfl rfl (nle rfl) fun _ _=>?_))
 have s:=(by assumption:St h [] _ _)
 refine mX (by decide) ?_
 refine cc ?_
 refine ah (fun hb=>?_) (fun hb=>?_)<;>simp only[za,zb,zc,zd,ze,zf,zg,zh,zi,u8i,zj,zk,zl]at hb
 ·exact q.none s.fr _ (by unfold t8P;rw[if_neg hb])
 refine oJ _ _ _ ?_
 unfold uw
 (repeat refine aU ?_)
 refine Cl hL v hv 8 (by decide) ?_
 refine bi ?_
 have hb:v.tmod 2=0:=by simpa using hb
 cases hf:Mm v 8 with
 | false=>
   refine ah (fun _=>?_) (fun hb=>by cases hb)
   exact q.none s.fr _ (by unfold t8P;rw[if_pos hb,if_neg (by simp[hf])])
 | true=>
   refine ah (fun hb=>by cases hb) (fun _=>?_)
   have q:=q.some s.fr (by unfold t8P;rw[if_pos hb,if_pos (by simp[hf])])
   (repeat refine aU ?_)
   refine nI (by decide) (by
    have:=Int.natAbs_tdiv_le_natAbs v 2
    omega) ?_
   refine pZ ?_
   refine eF ?_
   exact q
theorem Q8 (hL:dJ) (v:Int) (hv:dW v) {h:ae}{Q:QT}(q:PutK (pg [84,49,53] v) h Q):C bB [T [84,49,53],I v] h Q:=by
 have q:PutK (tP 15 v) h Q:=q
 have hv':=hv
 unfold dW at hv'
 refine bU _ _ _ _ ?_
 unfold dT
 refine bj _ _ _ ?_
 unfold bO
 have s0:=St.start h
 (repeat (first|refine aG rfl ?_|refine aU ?_|refine aF ‹_› (.head _) (nle rfl) ?_|refine aD rfl ?_|refine aM ‹_› fun _ _ _=>?_|refine ax ‹_› .head rfl rfl rfl (nle rfl) fun _ _=>?_))
 have s:=(by assumption:St h [] _ _)
 refine mX (by decide) ?_
 refine cc ?_
 refine ah (fun hb=>?_) (fun hb=>?_)<;>simp only[za,zb,zc,zd,ze,zf,zg,zh,zi,u8i,zj,zk,zl]at hb
 ·exact q.none s.fr _ (by unfold tP;rw[if_neg hb])
 refine oJ _ _ _ ?_
 unfold uw
 (repeat refine aU ?_)
 refine Cl hL v hv 15 (by decide) ?_
 refine bi ?_
 have hb:v.tmod 2=0:=by simpa using hb
 cases hf:Mm v 15 with
 | false=>
   refine ah (fun _=>?_) (fun hb=>by cases hb)
   exact q.none s.fr _ (by unfold tP;rw[if_pos hb,if_neg (by simp[hf])])
 | true=>
   refine ah (fun hb=>by cases hb) (fun _=>?_)
   have q:=q.some s.fr (by unfold tP;rw[if_pos hb,if_pos (by simp[hf])])
   (repeat refine aU ?_)
   refine oJ _ _ _ ?_
   unfold uw
   (repeat refine aU ?_)
   refine kM (by decide) ?_
   refine eJ (r:=.int .i64 (2^16-1:Nat)) (by rfl) ?_
   refine pZ ?_
   refine eF ?_
   exact q
theorem SG (hL:dJ) (v:Int) (hv:dW v) {h:ae}{Q:QT}(q:PutK (pg [84,50,52] v) h Q):C bB [T [84,50,52],I v] h Q:=by
 have q:PutK (tP 24 v) h Q:=q
 have hv':=hv
 unfold dW at hv'
 refine bU _ _ _ _ ?_
 unfold dT
 refine bj _ _ _ ?_
 unfold bO
 have s0:=St.start h
 (repeat (first|refine aG rfl ?_|refine aU ?_|refine aF ‹_› (.head _) (nle rfl) ?_|refine aD rfl ?_|refine aM ‹_› fun _ _ _=>?_|refine ax ‹_› .head rfl rfl rfl (nle rfl) fun _ _=>?_))
 have s:=(by assumption:St h [] _ _)
 refine mX (by decide) ?_
 refine cc ?_
 refine ah (fun hb=>?_) (fun hb=>?_)<;>simp only[za,zb,zc,zd,ze,zf,zg,zh,zi,u8i,zj,zk,zl]at hb
 ·exact q.none s.fr _ (by unfold tP;rw[if_neg hb])
 refine oJ _ _ _ ?_
 unfold uw
 (repeat refine aU ?_)
 refine Cl hL v hv 24 (by decide) ?_
 refine bi ?_
 have hb:v.tmod 2=0:=by simpa using hb
 cases hf:Mm v 24 with
 | false=>
   refine ah (fun _=>?_) (fun hb=>by cases hb)
   exact q.none s.fr _ (by unfold tP;rw[if_pos hb,if_neg (by simp[hf])])
 | true=>
   refine ah (fun hb=>by cases hb) (fun _=>?_)
   have q:=q.some s.fr (by unfold tP;rw[if_pos hb,if_pos (by simp[hf])])
   (repeat refine aU ?_)
   refine oJ _ _ _ ?_
   unfold uw
   (repeat refine aU ?_)
   refine kM (by decide) ?_
   refine eJ (r:=.int .i64 (2^25-1:Nat)) (by rfl) ?_
   refine pZ ?_
   refine eF ?_
   exact q
def aan:List Str:=[[85,53],[85,55],[79,53],[77,49],[77,50],[77,52],[79,49],[73,50],[68],[65],[66],[79,50],[73,52],[88],[89],[76,50,48],[67,56],[83,49,54],[84,56],[84,49,53],[84,50,52]]
omit [Tabs] in
theorem Xp:∀ r∈tbl,∀ k∈cV r.kinds,k∈aan:=by decide
theorem ab8 (hL:dJ) {k:Str}(hk:k∈aan) (v:Int) (hv:dW v) {h:ae}{Q:QT}(q:PutK (pg k v) h Q):C bB [T k,I v] h Q:=by
 simp only[aan,List.mem_cons,List.not_mem_nil,or_false]at hk
 rcases hk with rfl|rfl|rfl|rfl|rfl|rfl|rfl|rfl|rfl|rfl|rfl|rfl|rfl|rfl|rfl|rfl|rfl|rfl|rfl|rfl|rfl
 ·exact Vt v hv q
 ·exact WT v hv q
 ·exact WC v hv q
 ·exact Vj v hv q
 ·exact VC v hv q
 ·exact Vy v hv q
 ·exact WW v hv q
 ·exact Vv v hv q
 ·exact YD v hv q
 ·exact Z2 v hv q
 ·exact Xy v hv q
 ·exact Vp v hv q
 ·exact WA v hv q
 ·exact Yp v hv q
 ·exact XD v hv q
 ·exact Rm hL v hv q
 ·exact Wx v hv q
 ·exact R8 hL v hv q
 ·exact Vx hL v hv q
 ·exact Q8 hL v hv q
 ·exact SG hL v hv q
