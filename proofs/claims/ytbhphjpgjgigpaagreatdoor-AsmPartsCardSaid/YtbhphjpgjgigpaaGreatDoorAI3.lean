import Derived.Test.YtbhphjpgjgigpaaGreatDoorSBtoAI2
set_option linter.all false
set_option autoImplicit true
set_option relaxedAutoImplicit true
set_option maxRecDepth 100000
namespace Go.Proofs.YtbhphjpgjgigpaaGreatDoor.AL
noncomputable section
variable [Tabs]
abbrev U32 (n:Int):AV:=.lit (.int .u32 n)
def NG (at_ bits:Nat) (step less v:Int):Option Int:=
 if v<less then none else if Fz .i64 step bits≤v-less then none else if (v-less).tmod step≠0 then none else some (Fz .u32 (IntKind.u32.wrap ((v-less).tdiv step)) at_)
def dp (v:Int):Prop:=-4503599627370496≤v∧v≤4503599627370496
def PutK (m:Option Int) (h:ab) (Q:QT):Prop:=∀ b h',Fr [] h h'→(∀ n,m=some n→b=n)→Q (.tup [U32 b,B m.isSome]) h'
theorem PutK.none {h h':ab}{Q:QT}{m:Option Int}(k:PutK m h Q) (f:Fr [] h h') (b:Int) (e:m=.none):Q (.tup [U32 b,B false]) h':=by
 subst e;exact k b h' f (fun n h=>by cases h)
theorem PutK.some {h h':ab}{Q:QT}{m:Option Int}(k:PutK m h Q) (f:Fr [] h h') {b:Int}(e:m=.some b):Q (.tup [U32 b,B true]) h':=by
 subst e;exact k b h' f (fun n h=>by cases h;rfl)
theorem PutK.is {h h':ab}{Q:QT}{m:Option Int}(k:PutK m h Q) (f:Fr [] h h') {b:Int}{p:Bool}(e:m=if p=true then .some b else .none):Q (.tup [U32 b,B p]) h':=by
 cases p with
 | true=>exact k.some f (by simpa using e)
 | false=>exact k.none f b (by simpa using e)
theorem cQ (at_ bits:Nat) (step less v:Int) (hv:dp v) (hs:0<step∧step≤4) (hl:0≤less∧less≤1) {h:ab}{Q:QT}(k:PutK (NG at_ bits step less v) h Q):C kO [.agg [.lit (.int .u64 at_),.lit (.int .u64 bits),I step,I less],I v] h Q:=by
 unfold dp at hv
 refine xT _ _ _ _ ?_
 unfold uI
 refine dz (St.start h) rfl fun i h1 s1=>?_
 (repeat (first|refine ak ?_|refine aL ?_|refine ai ‹_› (.head _) rfl ?_))
 refine af (fun hb=>?_) (fun hb=>?_)<;>simp only[za,zb,zc,zd,ze,zf,zg,zh,zi,u8i,zj,zk,zl]at hb
 ·exact k.none s1.fr _ (by unfold NG;rw[if_pos hb])
 (repeat (first|refine ak ?_|refine dh (by omega) ?_|refine ai ‹_› (.head _) rfl ?_))
 refine iB (by omega) ?_
 (repeat refine cO ?_)
 refine af (fun hb2=>?_) (fun hb2=>?_)<;>simp only[za,zb,zc,zd,ze,zf,zg,zh,zi,u8i,zj,zk,zl]at hb2
 ·exact k.none s1.fr _ (by unfold NG;rw[if_neg (by omega)];exact if_pos hb2)
 (repeat (first|refine ak ?_|refine dh (by omega) ?_|refine ai ‹_› (.head _) rfl ?_))
 refine pm (by omega) ?_
 (repeat refine cr ?_)
 refine af (fun hb3=>?_) (fun hb3=>?_)<;>simp only[za,zb,zc,zd,ze,zf,zg,zh,zi,u8i,zj,zk,zl]at hb3
 ·exact k.none s1.fr _ (by unfold NG;rw[if_neg (by omega)];exact (if_neg (Int.not_le.2 hb2)).trans (if_pos hb3))
 (repeat (first|refine ak ?_|refine dh (by omega) ?_|refine ai ‹_› (.head _) rfl ?_))
 have ht:0≤(v-less).tdiv step:=Int.tdiv_nonneg (by omega) (by omega)
 have ht2:(v-less).tdiv step≤v-less:=by
  rw[Int.tdiv_eq_ediv_of_nonneg (by omega)]
  exact Int.ediv_le_self _ (by omega)
 refine mc (by omega) (by omega) ?_
 refine eB ?_
 (repeat (first|refine ak ?_|refine ai ‹_› (.head _) rfl ?_))
 refine iB (by omega) ?_
 refine k.some s1.fr ?_
 unfold NG
 rw[if_neg (by omega)]
 exact (if_neg (Int.not_le.2 hb2)).trans (if_neg (by simpa using hb3))
def Av (v:Int) (b:Nat):Bool:=decide (-(2^b:Nat)≤v)&&decide (v<(2^b:Nat))
theorem GF:∀ b∈[8,15,19,24],Op.negFloat .f64 (FloatKind.f64.nearest (2^b:Nat))=FloatKind.f64.nearest (-(2^b:Nat)):=by decide
theorem wy (hL:da) (v:Int) (hv:dp v) (b:Nat) (hb:b∈[8,15,19,24]) {h:ab}{Q:QT}(k:Q (B (Av v b)) h):C lV [I v,I ((b+1:Nat):Int)] h Q:=by
 unfold dp at hv
 have hb2:b≤24:=by simp at hb;omega
 have hpow:2^b≤2^24:=Nat.pow_le_pow_right (by omega) hb2
 have hn:=GF b hb
 have hL':=hL b hb
 unfold Av at k
 generalize 2^b=X at hpow hn hL' k
 refine Gn _ _ _ _ ?_
 unfold Hr
 refine dh (by omega) ?_
 rw[show (((b+1:Nat):Int)-1)=(b:Nat) by omega]
 refine hL' _ _ ?_
 refine⟨?_⟩
 refine⟨?_⟩
 refine d7 (r:=.bool (decide (-(X:Int)≤v))) ?_ ?_
 ·simp only[ck,te,if_true]
  rw[hn,u1 v _ (by omega) (by omega)]
  congr 2
  rw[Bool.eq_iff_iff]
  simp only[Bool.or_eq_true,beq_iff_eq,Option.some.injEq,decide_eq_true_eq,compare,compareOfLessAndEq]
  split
  ·simp;omega
  ·split
   ·simp;omega
   ·simp;omega
 ·cases hc:decide (-(X:Int)≤v) with
  | false=>
    refine af (fun h=>by cases h) (fun _=>?_)
    rw[hc]at k;exact k
  | true=>
    refine af (fun _=>?_) (fun h=>by cases h)
    refine⟨?_⟩
    refine d7 (r:=.bool (decide (v<(X:Int)))) ?_ ?_
    ·simp only[ck,te,if_true]
     rw[u1 v _ (by omega) (by omega)]
     congr 2
     rw[Bool.eq_iff_iff]
     simp only[beq_iff_eq,Option.some.injEq,decide_eq_true_eq,compare,compareOfLessAndEq]
     split
     ·simp;omega
     ·split
      ·simp;omega
      ·simp;omega
    ·rw[hc]at k;exact k
theorem OU (k:Str) {h:ab}{Q:QT}(q:Q (.lit (.int .u64 (if k=[89] then 4 else 0))) h):C fV [T k] h Q:=by
 refine EQ _ _ _ ?_
 unfold DK
 (repeat refine be ?_)
 refine af (fun hb=>?_) (fun hb=>?_)<;>simp only[za,zb,zc,zd,ze,zf,zg,zh,zi,u8i,zj,zk,zl]at hb
 ·rw[if_pos hb]at q;exact q
 ·rw[if_neg hb]at q;exact q
def wu (sh:Nat) (v:Int):Option Int:=if v<0∨(7<v∧v<24)∨31<v then none else some (Fz .u32 (IntKind.u32.wrap (v-v.tdiv 24*16)) sh)
theorem zI (k:Str) (sh:Nat) (hsh:((if k=[89] then 4 else 0:Nat))=sh) {v:Int}(hv:-4503599627370496≤v∧v≤4503599627370496) {h h1:ab}{Q:QT}(q:PutK (wu sh v) h Q) (f:Fr [] h h1) (h4:¬(v<0∨(7<v∧v<24)∨31<v)):
  ag .quo (I v) (I 24) (fun t46=>ag .mul t46 (I 16) fun t47=>ag .sub (I v) t47 fun t48=>ct .u32 t48 fun t49=>C fV [T k] h1 fun t51 h4=>ag .shl t49 t51 fun t52=>Q (.tup [t52,(B true)]) h4):=by
 refine mc (by omega) (by rw[Int.tdiv_eq_ediv_of_nonneg (by omega)];omega) ?_
 have hq:0≤v.tdiv 24∧v.tdiv 24≤1:=by rw[Int.tdiv_eq_ediv_of_nonneg (by omega)];omega
 refine x9 (by omega) ?_
 refine dh (by omega) ?_
 refine eB ?_
 refine OU _ ?_
 refine iB (by split<;>omega) ?_
 refine q.some f ?_
 unfold wu
 rw[if_neg h4,← hsh]
 split<;>rfl
def T9 (v:Int):Option Int:=if Av v 19=true then some (IntKind.u32.wrap (orI .i64 (orI .i64 (Fz .i64 (zo .i64 (Gg .i64 v 16) 15) 11) (Fz .i64 (zo .i64 (Gg .i64 v 11) 31) 16)) (zo .i64 v 2047))) else none
def c8P (v:Int):Option Int:=(Ry v).map fun x=>IntKind.u32.wrap (orI .i64 (orI .i64 (Fz .i64 x.1 10) (Fz .i64 x.2.1 8)) x.2.2)
def Sd (v:Int):Option Int:=if Av v 15=true then some (IntKind.u32.wrap (zo .i64 v 65535)) else none
def t8P (v:Int):Option Int:=if v.tmod 2=0 then (if Av v 8=true then some (IntKind.u32.wrap (zo .i64 (v.tdiv 2) 255)) else none) else none
def tP (b:Nat) (v:Int):Option Int:=if v.tmod 2=0 then (if Av v b=true then some (IntKind.u32.wrap (zo .i64 v (2^(b+1)-1:Nat))) else none) else none
def plainTab:List (Str×Nat×Nat×Int×Int):=[([85,53],4,5,1,0),([85,55],4,7,1,0),([79,53],4,5,1,1),([77,49],8,4,1,0),([77,50],8,4,2,0),([77,52],8,4,4,0),([79,49],10,1,1,0),([73,50],8,2,1,0),([68],21,5,1,0),([65],16,5,1,0),([66],11,5,1,0),([79,50],20,2,1,0),([73,52],16,4,1,0)]
def iA (k:Str) (v:Int):Option Int:=match plainTab.lookup k with
 | some (a,b,s,l)=>NG a b s l v
 | none=>if k=[88] then wu 0 v else if k=[89] then wu 4 v else if k=[76,50,48] then T9 v else if k=[67,56] then c8P v else if k=[83,49,54] then Sd v else if k=[84,56] then t8P v else if k=[84,50,52] then tP 24 v else tP 15 v
theorem Mq (v:Int) (hv:dp v) {h:ab}{Q:QT}(q:PutK (iA [85,53] v) h Q):C bo [T [85,53],I v] h Q:=by
 refine bG _ _ _ _ ?_
 unfold dm
 refine aZ _ _ _ ?_
 unfold bB
 have s0:=St.start h
 (repeat (first|refine aw rfl ?_|refine be ?_|refine aQ ‹_› (.head _) (nle rfl) ?_|refine aK rfl ?_|refine bf ‹_› fun _ _ _=>?_|refine aB ‹_› .head rfl rfl rfl (nle rfl) fun _ _=>?_))
 have s:=(by assumption:St h [] _ _)
 refine cQ 4 5 1 0 v hv (by decide) (by decide) fun b h2 f2 hb=>?_
 (repeat refine aw rfl ?_)
 exact q b _ (St.call s f2).fr hb
theorem MK (v:Int) (hv:dp v) {h:ab}{Q:QT}(q:PutK (iA [85,55] v) h Q):C bo [T [85,55],I v] h Q:=by
 refine bG _ _ _ _ ?_
 unfold dm
 refine aZ _ _ _ ?_
 unfold bB
 have s0:=St.start h
 (repeat (first|refine aw rfl ?_|refine be ?_|refine aQ ‹_› (.head _) (nle rfl) ?_|refine aK rfl ?_|refine bf ‹_› fun _ _ _=>?_|refine aB ‹_› .head rfl rfl rfl (nle rfl) fun _ _=>?_))
 have s:=(by assumption:St h [] _ _)
 refine cQ 4 7 1 0 v hv (by decide) (by decide) fun b h2 f2 hb=>?_
 (repeat refine aw rfl ?_)
 exact q b _ (St.call s f2).fr hb
theorem NX (v:Int) (hv:dp v) {h:ab}{Q:QT}(q:PutK (iA [79,53] v) h Q):C bo [T [79,53],I v] h Q:=by
 refine bG _ _ _ _ ?_
 unfold dm
 refine aZ _ _ _ ?_
 unfold bB
 have s0:=St.start h
 (repeat (first|refine aw rfl ?_|refine be ?_|refine aQ ‹_› (.head _) (nle rfl) ?_|refine aK rfl ?_|refine bf ‹_› fun _ _ _=>?_|refine aB ‹_› .head rfl rfl rfl (nle rfl) fun _ _=>?_))
 have s:=(by assumption:St h [] _ _)
 refine cQ 4 5 1 1 v hv (by decide) (by decide) fun b h2 f2 hb=>?_
 (repeat refine aw rfl ?_)
 exact q b _ (St.call s f2).fr hb
theorem NV (v:Int) (hv:dp v) {h:ab}{Q:QT}(q:PutK (iA [77,49] v) h Q):C bo [T [77,49],I v] h Q:=by
 refine bG _ _ _ _ ?_
 unfold dm
 refine aZ _ _ _ ?_
 unfold bB
 have s0:=St.start h
 (repeat (first|refine aw rfl ?_|refine be ?_|refine aQ ‹_› (.head _) (nle rfl) ?_|refine aK rfl ?_|refine bf ‹_› fun _ _ _=>?_|refine aB ‹_› .head rfl rfl rfl (nle rfl) fun _ _=>?_))
 have s:=(by assumption:St h [] _ _)
 refine cQ 8 4 1 0 v hv (by decide) (by decide) fun b h2 f2 hb=>?_
 (repeat refine aw rfl ?_)
 exact q b _ (St.call s f2).fr hb
theorem MT (v:Int) (hv:dp v) {h:ab}{Q:QT}(q:PutK (iA [77,50] v) h Q):C bo [T [77,50],I v] h Q:=by
 refine bG _ _ _ _ ?_
 unfold dm
 refine aZ _ _ _ ?_
 unfold bB
 have s0:=St.start h
 (repeat (first|refine aw rfl ?_|refine be ?_|refine aQ ‹_› (.head _) (nle rfl) ?_|refine aK rfl ?_|refine bf ‹_› fun _ _ _=>?_|refine aB ‹_› .head rfl rfl rfl (nle rfl) fun _ _=>?_))
 have s:=(by assumption:St h [] _ _)
 refine cQ 8 4 2 0 v hv (by decide) (by decide) fun b h2 f2 hb=>?_
 (repeat refine aw rfl ?_)
 exact q b _ (St.call s f2).fr hb
theorem Ng (v:Int) (hv:dp v) {h:ab}{Q:QT}(q:PutK (iA [77,52] v) h Q):C bo [T [77,52],I v] h Q:=by
 refine bG _ _ _ _ ?_
 unfold dm
 refine aZ _ _ _ ?_
 unfold bB
 have s0:=St.start h
 (repeat (first|refine aw rfl ?_|refine be ?_|refine aQ ‹_› (.head _) (nle rfl) ?_|refine aK rfl ?_|refine bf ‹_› fun _ _ _=>?_|refine aB ‹_› .head rfl rfl rfl (nle rfl) fun _ _=>?_))
 have s:=(by assumption:St h [] _ _)
 refine cQ 8 4 4 0 v hv (by decide) (by decide) fun b h2 f2 hb=>?_
 (repeat refine aw rfl ?_)
 exact q b _ (St.call s f2).fr hb
theorem M3 (v:Int) (hv:dp v) {h:ab}{Q:QT}(q:PutK (iA [79,49] v) h Q):C bo [T [79,49],I v] h Q:=by
 refine bG _ _ _ _ ?_
 unfold dm
 refine aZ _ _ _ ?_
 unfold bB
 have s0:=St.start h
 (repeat (first|refine aw rfl ?_|refine be ?_|refine aQ ‹_› (.head _) (nle rfl) ?_|refine aK rfl ?_|refine bf ‹_› fun _ _ _=>?_|refine aB ‹_› .head rfl rfl rfl (nle rfl) fun _ _=>?_))
 have s:=(by assumption:St h [] _ _)
 refine cQ 10 1 1 0 v hv (by decide) (by decide) fun b h2 f2 hb=>?_
 (repeat refine aw rfl ?_)
 exact q b _ (St.call s f2).fr hb
theorem NC (v:Int) (hv:dp v) {h:ab}{Q:QT}(q:PutK (iA [73,50] v) h Q):C bo [T [73,50],I v] h Q:=by
 refine bG _ _ _ _ ?_
 unfold dm
 refine aZ _ _ _ ?_
 unfold bB
 have s0:=St.start h
 (repeat (first|refine aw rfl ?_|refine be ?_|refine aQ ‹_› (.head _) (nle rfl) ?_|refine aK rfl ?_|refine bf ‹_› fun _ _ _=>?_|refine aB ‹_› .head rfl rfl rfl (nle rfl) fun _ _=>?_))
 have s:=(by assumption:St h [] _ _)
 refine cQ 8 2 1 0 v hv (by decide) (by decide) fun b h2 f2 hb=>?_
 (repeat refine aw rfl ?_)
 exact q b _ (St.call s f2).fr hb
theorem Q7 (v:Int) (hv:dp v) {h:ab}{Q:QT}(q:PutK (iA [68] v) h Q):C bo [T [68],I v] h Q:=by
 refine bG _ _ _ _ ?_
 unfold dm
 refine aZ _ _ _ ?_
 unfold bB
 have s0:=St.start h
 (repeat (first|refine aw rfl ?_|refine be ?_|refine aQ ‹_› (.head _) (nle rfl) ?_|refine aK rfl ?_|refine bf ‹_› fun _ _ _=>?_|refine aB ‹_› .head rfl rfl rfl (nle rfl) fun _ _=>?_))
 have s:=(by assumption:St h [] _ _)
 refine cQ 21 5 1 0 v hv (by decide) (by decide) fun b h2 f2 hb=>?_
 (repeat refine aw rfl ?_)
 exact q b _ (St.call s f2).fr hb
theorem Qq (v:Int) (hv:dp v) {h:ab}{Q:QT}(q:PutK (iA [65] v) h Q):C bo [T [65],I v] h Q:=by
 refine bG _ _ _ _ ?_
 unfold dm
 refine aZ _ _ _ ?_
 unfold bB
 have s0:=St.start h
 (repeat (first|refine aw rfl ?_|refine be ?_|refine aQ ‹_› (.head _) (nle rfl) ?_|refine aK rfl ?_|refine bf ‹_› fun _ _ _=>?_|refine aB ‹_› .head rfl rfl rfl (nle rfl) fun _ _=>?_))
 have s:=(by assumption:St h [] _ _)
 refine cQ 16 5 1 0 v hv (by decide) (by decide) fun b h2 f2 hb=>?_
 (repeat refine aw rfl ?_)
 exact q b _ (St.call s f2).fr hb
theorem OL (v:Int) (hv:dp v) {h:ab}{Q:QT}(q:PutK (iA [66] v) h Q):C bo [T [66],I v] h Q:=by
 refine bG _ _ _ _ ?_
 unfold dm
 refine aZ _ _ _ ?_
 unfold bB
 have s0:=St.start h
 (repeat (first|refine aw rfl ?_|refine be ?_|refine aQ ‹_› (.head _) (nle rfl) ?_|refine aK rfl ?_|refine bf ‹_› fun _ _ _=>?_|refine aB ‹_› .head rfl rfl rfl (nle rfl) fun _ _=>?_))
 have s:=(by assumption:St h [] _ _)
 refine cQ 11 5 1 0 v hv (by decide) (by decide) fun b h2 f2 hb=>?_
 (repeat refine aw rfl ?_)
 exact q b _ (St.call s f2).fr hb
theorem Ob (v:Int) (hv:dp v) {h:ab}{Q:QT}(q:PutK (iA [79,50] v) h Q):C bo [T [79,50],I v] h Q:=by
 refine bG _ _ _ _ ?_
 unfold dm
 refine aZ _ _ _ ?_
 unfold bB
 have s0:=St.start h
 (repeat (first|refine aw rfl ?_|refine be ?_|refine aQ ‹_› (.head _) (nle rfl) ?_|refine aK rfl ?_|refine bf ‹_› fun _ _ _=>?_|refine aB ‹_› .head rfl rfl rfl (nle rfl) fun _ _=>?_))
 have s:=(by assumption:St h [] _ _)
 refine cQ 20 2 1 0 v hv (by decide) (by decide) fun b h2 f2 hb=>?_
 (repeat refine aw rfl ?_)
 exact q b _ (St.call s f2).fr hb
theorem N8 (v:Int) (hv:dp v) {h:ab}{Q:QT}(q:PutK (iA [73,52] v) h Q):C bo [T [73,52],I v] h Q:=by
 refine bG _ _ _ _ ?_
 unfold dm
 refine aZ _ _ _ ?_
 unfold bB
 have s0:=St.start h
 (repeat (first|refine aw rfl ?_|refine be ?_|refine aQ ‹_› (.head _) (nle rfl) ?_|refine aK rfl ?_|refine bf ‹_› fun _ _ _=>?_|refine aB ‹_› .head rfl rfl rfl (nle rfl) fun _ _=>?_))
 have s:=(by assumption:St h [] _ _)
 refine cQ 16 4 1 0 v hv (by decide) (by decide) fun b h2 f2 hb=>?_
 (repeat refine aw rfl ?_)
 exact q b _ (St.call s f2).fr hb
theorem QD (v:Int) (hv:dp v) {h:ab}{Q:QT}(q:PutK (iA [88] v) h Q):C bo [T [88],I v] h Q:=by
 have q:PutK (wu 0 v) h Q:=q
 unfold dp at hv
 refine bG _ _ _ _ ?_
 unfold dm
 refine aZ _ _ _ ?_
 unfold bB
 have s0:=St.start h
 (repeat (first|refine aw rfl ?_|refine aL ?_|refine be ?_|refine aQ ‹_› (.head _) (nle rfl) ?_|refine aK rfl ?_|refine bf ‹_› fun _ _ _=>?_|refine aB ‹_› .head rfl rfl rfl (nle rfl) fun _ _=>?_))
 have s:=(by assumption:St h [] _ _)
 refine af (fun hb=>?_) (fun hb=>?_)<;>simp only[za,zb,zc,zd,ze,zf,zg,zh,zi,u8i,zj,zk,zl]at hb
 ·exact q.none s.fr _ (by unfold wu;rw[if_pos (by omega)])
 (repeat refine cH ?_)
 cases h7:decide (7<v) with
 | true=>
   refine oI (af (fun _=>?_) (fun hb=>by cases hb)) ⟨_,rfl⟩
   simp at h7
   (repeat refine aL ?_)
   refine af (fun h24=>?_) (fun h24=>?_)<;>simp only[za,zb,zc,zd,ze,zf,zg,zh,zi,u8i,zj,zk,zl]at h24
   ·exact q.none s.fr _ (by unfold wu;rw[if_pos (by omega)])
   ·(repeat refine cH ?_)
    refine af (fun h31=>?_) (fun h31=>?_)<;>simp only[za,zb,zc,zd,ze,zf,zg,zh,zi,u8i,zj,zk,zl]at h31
    ·exact q.none s.fr _ (by unfold wu;rw[if_pos (by omega)])
    ·exact zI _ 0 rfl hv q s.fr (by omega)
 | false=>
   refine oI (af (fun hb=>by cases hb) (fun _=>?_)) ⟨_,rfl⟩
   simp at h7
   (repeat refine cH ?_)
   refine af (fun h31=>?_) (fun h31=>?_)<;>simp only[za,zb,zc,zd,ze,zf,zg,zh,zi,u8i,zj,zk,zl]at h31
   ·exact q.none s.fr _ (by unfold wu;rw[if_pos (by omega)])
   ·exact zI _ 0 rfl hv q s.fr (by omega)
theorem Pq (v:Int) (hv:dp v) {h:ab}{Q:QT}(q:PutK (iA [89] v) h Q):C bo [T [89],I v] h Q:=by
 have q:PutK (wu 4 v) h Q:=q
 unfold dp at hv
 refine bG _ _ _ _ ?_
 unfold dm
 refine aZ _ _ _ ?_
 unfold bB
 have s0:=St.start h
 (repeat (first|refine aw rfl ?_|refine aL ?_|refine be ?_|refine aQ ‹_› (.head _) (nle rfl) ?_|refine aK rfl ?_|refine bf ‹_› fun _ _ _=>?_|refine aB ‹_› .head rfl rfl rfl (nle rfl) fun _ _=>?_))
 have s:=(by assumption:St h [] _ _)
 refine af (fun hb=>?_) (fun hb=>?_)<;>simp only[za,zb,zc,zd,ze,zf,zg,zh,zi,u8i,zj,zk,zl]at hb
 ·exact q.none s.fr _ (by unfold wu;rw[if_pos (by omega)])
 (repeat refine cH ?_)
 cases h7:decide (7<v) with
 | true=>
   refine oI (af (fun _=>?_) (fun hb=>by cases hb)) ⟨_,rfl⟩
   simp at h7
   (repeat refine aL ?_)
   refine af (fun h24=>?_) (fun h24=>?_)<;>simp only[za,zb,zc,zd,ze,zf,zg,zh,zi,u8i,zj,zk,zl]at h24
   ·exact q.none s.fr _ (by unfold wu;rw[if_pos (by omega)])
   ·(repeat refine cH ?_)
    refine af (fun h31=>?_) (fun h31=>?_)<;>simp only[za,zb,zc,zd,ze,zf,zg,zh,zi,u8i,zj,zk,zl]at h31
    ·exact q.none s.fr _ (by unfold wu;rw[if_pos (by omega)])
    ·exact zI _ 4 rfl hv q s.fr (by omega)
 | false=>
   refine oI (af (fun hb=>by cases hb) (fun _=>?_)) ⟨_,rfl⟩
   simp at h7
   (repeat refine cH ?_)
   refine af (fun h31=>?_) (fun h31=>?_)<;>simp only[za,zb,zc,zd,ze,zf,zg,zh,zi,u8i,zj,zk,zl]at h31
   ·exact q.none s.fr _ (by unfold wu;rw[if_pos (by omega)])
   ·exact zI _ 4 rfl hv q s.fr (by omega)
theorem Ky (hL:da) (v:Int) (hv:dp v) {h:ab}{Q:QT}(q:PutK (iA [76,50,48] v) h Q):C bo [T [76,50,48],I v] h Q:=by
 have q:PutK (T9 v) h Q:=q
 refine bG _ _ _ _ ?_
 unfold dm
 refine aZ _ _ _ ?_
 unfold bB
 have s0:=St.start h
 (repeat (first|refine aw rfl ?_|refine be ?_|refine aQ ‹_› (.head _) (nle rfl) ?_|refine aK rfl ?_|refine bf ‹_› fun _ _ _=>?_|refine aB ‹_› .head rfl rfl rfl (nle rfl) fun _ _=>?_))
 have s:=(by assumption:St h [] _ _)
 refine GH v ?_
 (repeat refine aw rfl ?_)
 refine iB (by decide) ?_
 refine iB (by decide) ?_
 refine qc ?_
 refine qc ?_
 refine eB ?_
 refine wy hL v hv 19 (by decide) ?_
 exact q.is s.fr rfl
theorem Je (hL:da) (v:Int) (hv:dp v) {h:ab}{Q:QT}(q:PutK (iA [83,49,54] v) h Q):C bo [T [83,49,54],I v] h Q:=by
 have q:PutK (Sd v) h Q:=q
 refine bG _ _ _ _ ?_
 unfold dm
 refine aZ _ _ _ ?_
 unfold bB
 have s0:=St.start h
 (repeat (first|refine aw rfl ?_|refine be ?_|refine aQ ‹_› (.head _) (nle rfl) ?_|refine aK rfl ?_|refine bf ‹_› fun _ _ _=>?_|refine aB ‹_› .head rfl rfl rfl (nle rfl) fun _ _=>?_))
 have s:=(by assumption:St h [] _ _)
 refine mK ?_
 refine eB ?_
 refine wy hL v hv 15 (by decide) ?_
 exact q.is s.fr rfl
theorem N7 (v:Int) (hv:dp v) {h:ab}{Q:QT}(q:PutK (iA [67,56] v) h Q):C bo [T [67,56],I v] h Q:=by
 have q:PutK (c8P v) h Q:=q
 refine bG _ _ _ _ ?_
 unfold dm
 refine aZ _ _ _ ?_
 unfold bB
 have s0:=St.start h
 (repeat (first|refine aw rfl ?_|refine be ?_|refine aQ ‹_› (.head _) (nle rfl) ?_|refine aK rfl ?_|refine bf ‹_› fun _ _ _=>?_|refine aB ‹_› .head rfl rfl rfl (nle rfl) fun _ _=>?_))
 have s:=(by assumption:St h [] _ _)
 refine Sr v fun h2 f2=>?_
 have s2:=s.call f2
 unfold c8P at q
 cases hs:Ry v with
 | none=>
   rw[hs]at q
   refine aw rfl ?_
   refine aw rfl ?_
   refine aw rfl ?_
   refine aw rfl ?_
   refine iB (by decide) ?_
   refine iB (by decide) ?_
   refine qc ?_
   refine qc ?_
   refine eB ?_
   exact q.none s2.fr _ rfl
 | some x=>
   obtain⟨f,sc,ui⟩:=x
   rw[hs]at q
   refine aw rfl ?_
   refine aw rfl ?_
   refine aw rfl ?_
   refine aw rfl ?_
   refine iB (by decide) ?_
   refine iB (by decide) ?_
   refine qc ?_
   refine qc ?_
   refine eB ?_
   exact q.some s2.fr rfl
theorem NP (hL:da) (v:Int) (hv:dp v) {h:ab}{Q:QT}(q:PutK (iA [84,56] v) h Q):C bo [T [84,56],I v] h Q:=by
 have q:PutK (t8P v) h Q:=q
 have hv':=hv
 unfold dp at hv'
 refine bG _ _ _ _ ?_
 unfold dm
 refine aZ _ _ _ ?_
 unfold bB
 have s0:=St.start h
 (repeat (first|refine aw rfl ?_|refine be ?_|refine aQ ‹_› (.head _) (nle rfl) ?_|refine aK rfl ?_|refine bf ‹_› fun _ _ _=>?_|refine aB ‹_› .head rfl rfl rfl (nle rfl) fun _ _=>?_))
 have s:=(by assumption:St h [] _ _)
 refine pm (by decide) ?_
 refine cr ?_
 refine af (fun hb=>?_) (fun hb=>?_)<;>simp only[za,zb,zc,zd,ze,zf,zg,zh,zi,u8i,zj,zk,zl]at hb
 ·exact q.none s.fr _ (by unfold t8P;rw[if_neg hb])
 refine l0 _ _ _ ?_
 unfold pr
 (repeat refine be ?_)
 refine wy hL v hv 8 (by decide) ?_
 refine dy ?_
 have hb:v.tmod 2=0:=by simpa using hb
 cases hf:Av v 8 with
 | false=>
   refine af (fun _=>?_) (fun hb=>by cases hb)
   exact q.none s.fr _ (by unfold t8P;rw[if_pos hb,if_neg (by simp[hf])])
 | true=>
   refine af (fun hb=>by cases hb) (fun _=>?_)
   have q:=q.some s.fr (by unfold t8P;rw[if_pos hb,if_pos (by simp[hf])])
   (repeat refine be ?_)
   refine mc (by decide) (by
    have:=Int.natAbs_tdiv_le_natAbs v 2
    omega) ?_
   refine mK ?_
   refine eB ?_
   exact q
theorem Jk (hL:da) (v:Int) (hv:dp v) {h:ab}{Q:QT}(q:PutK (iA [84,49,53] v) h Q):C bo [T [84,49,53],I v] h Q:=by
 have q:PutK (tP 15 v) h Q:=q
 have hv':=hv
 unfold dp at hv'
 refine bG _ _ _ _ ?_
 unfold dm
 refine aZ _ _ _ ?_
 unfold bB
 have s0:=St.start h
 (repeat (first|refine aw rfl ?_|refine be ?_|refine aQ ‹_› (.head _) (nle rfl) ?_|refine aK rfl ?_|refine bf ‹_› fun _ _ _=>?_|refine aB ‹_› .head rfl rfl rfl (nle rfl) fun _ _=>?_))
 have s:=(by assumption:St h [] _ _)
 refine pm (by decide) ?_
 refine cr ?_
 refine af (fun hb=>?_) (fun hb=>?_)<;>simp only[za,zb,zc,zd,ze,zf,zg,zh,zi,u8i,zj,zk,zl]at hb
 ·exact q.none s.fr _ (by unfold tP;rw[if_neg hb])
 refine l0 _ _ _ ?_
 unfold pr
 (repeat refine be ?_)
 refine wy hL v hv 15 (by decide) ?_
 refine dy ?_
 have hb:v.tmod 2=0:=by simpa using hb
 cases hf:Av v 15 with
 | false=>
   refine af (fun _=>?_) (fun hb=>by cases hb)
   exact q.none s.fr _ (by unfold tP;rw[if_pos hb,if_neg (by simp[hf])])
 | true=>
   refine af (fun hb=>by cases hb) (fun _=>?_)
   have q:=q.some s.fr (by unfold tP;rw[if_pos hb,if_pos (by simp[hf])])
   (repeat refine be ?_)
   refine l0 _ _ _ ?_
   unfold pr
   (repeat refine be ?_)
   refine iB (by decide) ?_
   refine d7 (r:=.int .i64 (2^16-1:Nat)) (by rfl) ?_
   refine mK ?_
   refine eB ?_
   exact q
theorem Kw (hL:da) (v:Int) (hv:dp v) {h:ab}{Q:QT}(q:PutK (iA [84,50,52] v) h Q):C bo [T [84,50,52],I v] h Q:=by
 have q:PutK (tP 24 v) h Q:=q
 have hv':=hv
 unfold dp at hv'
 refine bG _ _ _ _ ?_
 unfold dm
 refine aZ _ _ _ ?_
 unfold bB
 have s0:=St.start h
 (repeat (first|refine aw rfl ?_|refine be ?_|refine aQ ‹_› (.head _) (nle rfl) ?_|refine aK rfl ?_|refine bf ‹_› fun _ _ _=>?_|refine aB ‹_› .head rfl rfl rfl (nle rfl) fun _ _=>?_))
 have s:=(by assumption:St h [] _ _)
 refine pm (by decide) ?_
 refine cr ?_
 refine af (fun hb=>?_) (fun hb=>?_)<;>simp only[za,zb,zc,zd,ze,zf,zg,zh,zi,u8i,zj,zk,zl]at hb
 ·exact q.none s.fr _ (by unfold tP;rw[if_neg hb])
 refine l0 _ _ _ ?_
 unfold pr
 (repeat refine be ?_)
 refine wy hL v hv 24 (by decide) ?_
 refine dy ?_
 have hb:v.tmod 2=0:=by simpa using hb
 cases hf:Av v 24 with
 | false=>
   refine af (fun _=>?_) (fun hb=>by cases hb)
   exact q.none s.fr _ (by unfold tP;rw[if_pos hb,if_neg (by simp[hf])])
 | true=>
   refine af (fun hb=>by cases hb) (fun _=>?_)
   have q:=q.some s.fr (by unfold tP;rw[if_pos hb,if_pos (by simp[hf])])
   (repeat refine be ?_)
   refine l0 _ _ _ ?_
   unfold pr
   (repeat refine be ?_)
   refine iB (by decide) ?_
   refine d7 (r:=.int .i64 (2^25-1:Nat)) (by rfl) ?_
   refine mK ?_
   refine eB ?_
   exact q
def RE:List Str:=[[85,53],[85,55],[79,53],[77,49],[77,50],[77,52],[79,49],[73,50],[68],[65],[66],[79,50],[73,52],[88],[89],[76,50,48],[67,56],[83,49,54],[84,56],[84,49,53],[84,50,52]]
omit [Tabs] in
theorem Pp:∀ r∈tbl,∀ k∈cM r.kinds,k∈RE:=by decide
theorem Tb (hL:da) {k:Str}(hk:k∈RE) (v:Int) (hv:dp v) {h:ab}{Q:QT}(q:PutK (iA k v) h Q):C bo [T k,I v] h Q:=by
 simp only[RE,List.mem_cons,List.not_mem_nil,or_false]at hk
 rcases hk with rfl|rfl|rfl|rfl|rfl|rfl|rfl|rfl|rfl|rfl|rfl|rfl|rfl|rfl|rfl|rfl|rfl|rfl|rfl|rfl|rfl
 ·exact Mq v hv q
 ·exact MK v hv q
 ·exact NX v hv q
 ·exact NV v hv q
 ·exact MT v hv q
 ·exact Ng v hv q
 ·exact M3 v hv q
 ·exact NC v hv q
 ·exact Q7 v hv q
 ·exact Qq v hv q
 ·exact OL v hv q
 ·exact Ob v hv q
 ·exact N8 v hv q
 ·exact QD v hv q
 ·exact Pq v hv q
 ·exact Ky hL v hv q
 ·exact N7 v hv q
 ·exact Je hL v hv q
 ·exact NP hL v hv q
 ·exact Jk hL v hv q
 ·exact Kw hL v hv q
