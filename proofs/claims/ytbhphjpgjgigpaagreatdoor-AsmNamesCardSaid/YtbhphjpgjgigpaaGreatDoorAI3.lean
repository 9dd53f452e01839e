import Derived.Test.YtbhphjpgjgigpaaGreatDoorSBtoAI2
set_option linter.all false
set_option autoImplicit true
set_option relaxedAutoImplicit true
set_option maxRecDepth 100000
namespace Go.Proofs.YtbhphjpgjgigpaaGreatDoor.AL
noncomputable section
variable [Tabs]
abbrev U32 (n:Int):AV:=.lit (.int .u32 n)
def ON (at_ bits:Nat) (step less v:Int):Option Int:=
 if v<less then none else if Gs .i64 step bits≤v-less then none else if (v-less).tmod step≠0 then none else some (Gs .u32 (IntKind.u32.wrap ((v-less).tdiv step)) at_)
def dt (v:Int):Prop:=-4503599627370496≤v∧v≤4503599627370496
def PutK (m:Option Int) (h:ab) (Q:QT):Prop:=∀ b h',Fr [] h h'→(∀ n,m=some n→b=n)→Q (.tup [U32 b,B m.isSome]) h'
theorem PutK.none {h h':ab}{Q:QT}{m:Option Int}(k:PutK m h Q) (f:Fr [] h h') (b:Int) (e:m=.none):Q (.tup [U32 b,B false]) h':=by
 subst e;exact k b h' f (fun n h=>by cases h)
theorem PutK.some {h h':ab}{Q:QT}{m:Option Int}(k:PutK m h Q) (f:Fr [] h h') {b:Int}(e:m=.some b):Q (.tup [U32 b,B true]) h':=by
 subst e;exact k b h' f (fun n h=>by cases h;rfl)
theorem PutK.is {h h':ab}{Q:QT}{m:Option Int}(k:PutK m h Q) (f:Fr [] h h') {b:Int}{p:Bool}(e:m=if p=true then .some b else .none):Q (.tup [U32 b,B p]) h':=by
 cases p with
 | true=>exact k.some f (by simpa using e)
 | false=>exact k.none f b (by simpa using e)
theorem cU (at_ bits:Nat) (step less v:Int) (hv:dt v) (hs:0<step∧step≤4) (hl:0≤less∧less≤1) {h:ab}{Q:QT}(k:PutK (ON at_ bits step less v) h Q):C ld [.agg [.lit (.int .u64 at_),.lit (.int .u64 bits),I step,I less],I v] h Q:=by
 unfold dt at hv
 refine x8 _ _ _ _ ?_
 unfold uL
 refine dF (St.start h) rfl fun i h1 s1=>?_
 (repeat (first|refine an ?_|refine aP ?_|refine aj ‹_› (.head _) rfl ?_))
 refine ag (fun hb=>?_) (fun hb=>?_)<;>simp only[za,zb,zc,zd,ze,zf,zg,zh,zi,u8i,zj,zk,zl]at hb
 ·exact k.none s1.fr _ (by unfold ON;rw[if_pos hb])
 (repeat (first|refine an ?_|refine dD (by omega) ?_|refine aj ‹_› (.head _) rfl ?_))
 refine iJ (by omega) ?_
 (repeat refine cy ?_)
 refine ag (fun hb2=>?_) (fun hb2=>?_)<;>simp only[za,zb,zc,zd,ze,zf,zg,zh,zi,u8i,zj,zk,zl]at hb2
 ·exact k.none s1.fr _ (by unfold ON;rw[if_neg (by omega)];exact if_pos hb2)
 (repeat (first|refine an ?_|refine dD (by omega) ?_|refine aj ‹_› (.head _) rfl ?_))
 refine pa (by omega) ?_
 (repeat refine cE ?_)
 refine ag (fun hb3=>?_) (fun hb3=>?_)<;>simp only[za,zb,zc,zd,ze,zf,zg,zh,zi,u8i,zj,zk,zl]at hb3
 ·exact k.none s1.fr _ (by unfold ON;rw[if_neg (by omega)];exact (if_neg (Int.not_le.2 hb2)).trans (if_pos hb3))
 (repeat (first|refine an ?_|refine dD (by omega) ?_|refine aj ‹_› (.head _) rfl ?_))
 have ht:0≤(v-less).tdiv step:=Int.tdiv_nonneg (by omega) (by omega)
 have ht2:(v-less).tdiv step≤v-less:=by
  rw[Int.tdiv_eq_ediv_of_nonneg (by omega)]
  exact Int.ediv_le_self _ (by omega)
 refine mi (by omega) (by omega) ?_
 refine eG ?_
 (repeat (first|refine an ?_|refine aj ‹_› (.head _) rfl ?_))
 refine iJ (by omega) ?_
 refine k.some s1.fr ?_
 unfold ON
 rw[if_neg (by omega)]
 exact (if_neg (Int.not_le.2 hb2)).trans (if_neg (by simpa using hb3))
def Bo (v:Int) (b:Nat):Bool:=decide (-(2^b:Nat)≤v)&&decide (v<(2^b:Nat))
theorem GF:∀ b∈[8,15,19,24],Op.negFloat .f64 (FloatKind.f64.nearest (2^b:Nat))=FloatKind.f64.nearest (-(2^b:Nat)):=by decide
theorem wT (hL:dq) (v:Int) (hv:dt v) (b:Nat) (hb:b∈[8,15,19,24]) {h:ab}{Q:QT}(k:Q (B (Bo v b)) h):C l0 [I v,I ((b+1:Nat):Int)] h Q:=by
 unfold dt at hv
 have hb2:b≤24:=by simp at hb;omega
 have hpow:2^b≤2^24:=Nat.pow_le_pow_right (by omega) hb2
 have hn:=GF b hb
 have hL':=hL b hb
 unfold Bo at k
 generalize 2^b=X at hpow hn hL' k
 refine GX _ _ _ _ ?_
 unfold Iy
 refine dD (by omega) ?_
 rw[show (((b+1:Nat):Int)-1)=(b:Nat) by omega]
 refine hL' _ _ ?_
 refine⟨?_⟩
 refine⟨?_⟩
 refine ee (r:=.bool (decide (-(X:Int)≤v))) ?_ ?_
 ·simp only[cp,tv,if_true]
  rw[hn,u4 v _ (by omega) (by omega)]
  congr 2
  rw[Bool.eq_iff_iff]
  simp only[Bool.or_eq_true,beq_iff_eq,Option.some.injEq,decide_eq_true_eq,compare,compareOfLessAndEq]
  split
  ·simp;omega
  ·split
   ·simp;omega
   ·simp;omega
 ·cases hc:decide (-(X:Int)≤v) with
  | false=>
    refine ag (fun h=>by cases h) (fun _=>?_)
    rw[hc]at k;exact k
  | true=>
    refine ag (fun _=>?_) (fun h=>by cases h)
    refine⟨?_⟩
    refine ee (r:=.bool (decide (v<(X:Int)))) ?_ ?_
    ·simp only[cp,tv,if_true]
     rw[u4 v _ (by omega) (by omega)]
     congr 2
     rw[Bool.eq_iff_iff]
     simp only[beq_iff_eq,Option.some.injEq,decide_eq_true_eq,compare,compareOfLessAndEq]
     split
     ·simp;omega
     ·split
      ·simp;omega
      ·simp;omega
    ·rw[hc]at k;exact k
theorem Ra (k:Str) {h:ab}{Q:QT}(q:Q (.lit (.int .u64 (if k=[89] then 4 else 0))) h):C gk [T k] h Q:=by
 refine EU _ _ _ ?_
 unfold DL
 (repeat refine bi ?_)
 refine ag (fun hb=>?_) (fun hb=>?_)<;>simp only[za,zb,zc,zd,ze,zf,zg,zh,zi,u8i,zj,zk,zl]at hb
 ·rw[if_pos hb]at q;exact q
 ·rw[if_neg hb]at q;exact q
def wW (sh:Nat) (v:Int):Option Int:=if v<0∨(7<v∧v<24)∨31<v then none else some (Gs .u32 (IntKind.u32.wrap (v-v.tdiv 24*16)) sh)
theorem Ab (k:Str) (sh:Nat) (hsh:((if k=[89] then 4 else 0:Nat))=sh) {v:Int}(hv:-4503599627370496≤v∧v≤4503599627370496) {h h1:ab}{Q:QT}(q:PutK (wW sh v) h Q) (f:Fr [] h h1) (h4:¬(v<0∨(7<v∧v<24)∨31<v)):
  ah .quo (I v) (I 24) (fun t46=>ah .mul t46 (I 16) fun t47=>ah .sub (I v) t47 fun t48=>cz .u32 t48 fun t49=>C gk [T k] h1 fun t51 h4=>ah .shl t49 t51 fun t52=>Q (.tup [t52,(B true)]) h4):=by
 refine mi (by omega) (by rw[Int.tdiv_eq_ediv_of_nonneg (by omega)];omega) ?_
 have hq:0≤v.tdiv 24∧v.tdiv 24≤1:=by rw[Int.tdiv_eq_ediv_of_nonneg (by omega)];omega
 refine xm (by omega) ?_
 refine dD (by omega) ?_
 refine eG ?_
 refine Ra _ ?_
 refine iJ (by split<;>omega) ?_
 refine q.some f ?_
 unfold wW
 rw[if_neg h4,← hsh]
 split<;>rfl
def UM (v:Int):Option Int:=if Bo v 19=true then some (IntKind.u32.wrap (orI .i64 (orI .i64 (Gs .i64 (zG .i64 (F5 .i64 v 16) 15) 11) (Gs .i64 (zG .i64 (F5 .i64 v 11) 31) 16)) (zG .i64 v 2047))) else none
def c8P (v:Int):Option Int:=(SG v).map fun x=>IntKind.u32.wrap (orI .i64 (orI .i64 (Gs .i64 x.1 10) (Gs .i64 x.2.1 8)) x.2.2)
def RZ (v:Int):Option Int:=if Bo v 15=true then some (IntKind.u32.wrap (zG .i64 v 65535)) else none
def t8P (v:Int):Option Int:=if v.tmod 2=0 then (if Bo v 8=true then some (IntKind.u32.wrap (zG .i64 (v.tdiv 2) 255)) else none) else none
def tP (b:Nat) (v:Int):Option Int:=if v.tmod 2=0 then (if Bo v b=true then some (IntKind.u32.wrap (zG .i64 v (2^(b+1)-1:Nat))) else none) else none
def plainTab:List (Str×Nat×Nat×Int×Int):=[([85,53],4,5,1,0),([85,55],4,7,1,0),([79,53],4,5,1,1),([77,49],8,4,1,0),([77,50],8,4,2,0),([77,52],8,4,4,0),([79,49],10,1,1,0),([73,50],8,2,1,0),([68],21,5,1,0),([65],16,5,1,0),([66],11,5,1,0),([79,50],20,2,1,0),([73,52],16,4,1,0)]
def iM (k:Str) (v:Int):Option Int:=match plainTab.lookup k with
 | some (a,b,s,l)=>ON a b s l v
 | none=>if k=[88] then wW 0 v else if k=[89] then wW 4 v else if k=[76,50,48] then UM v else if k=[67,56] then c8P v else if k=[83,49,54] then RZ v else if k=[84,56] then t8P v else if k=[84,50,52] then tP 24 v else tP 15 v
theorem Oc (v:Int) (hv:dt v) {h:ab}{Q:QT}(q:PutK (iM [85,53] v) h Q):C bw [T [85,53],I v] h Q:=by
 refine bN _ _ _ _ ?_
 unfold dp
 refine bf _ _ _ ?_
 unfold bJ
 have s0:=St.start h
 (repeat (first|refine ax rfl ?_|refine bi ?_|refine aW ‹_› (.head _) (nle rfl) ?_|refine aO rfl ?_|refine bk ‹_› fun _ _ _=>?_|refine aF ‹_› .head rfl rfl rfl (nle rfl) fun _ _=>?_))
 have s:=(by assumption:St h [] _ _)
 refine cU 4 5 1 0 v hv (by decide) (by decide) fun b h2 f2 hb=>?_
 (repeat refine ax rfl ?_)
 exact q b _ (St.call s f2).fr hb
theorem Ni (v:Int) (hv:dt v) {h:ab}{Q:QT}(q:PutK (iM [85,55] v) h Q):C bw [T [85,55],I v] h Q:=by
 refine bN _ _ _ _ ?_
 unfold dp
 refine bf _ _ _ ?_
 unfold bJ
 have s0:=St.start h
 (repeat (first|refine ax rfl ?_|refine bi ?_|refine aW ‹_› (.head _) (nle rfl) ?_|refine aO rfl ?_|refine bk ‹_› fun _ _ _=>?_|refine aF ‹_› .head rfl rfl rfl (nle rfl) fun _ _=>?_))
 have s:=(by assumption:St h [] _ _)
 refine cU 4 7 1 0 v hv (by decide) (by decide) fun b h2 f2 hb=>?_
 (repeat refine ax rfl ?_)
 exact q b _ (St.call s f2).fr hb
theorem Nh (v:Int) (hv:dt v) {h:ab}{Q:QT}(q:PutK (iM [79,53] v) h Q):C bw [T [79,53],I v] h Q:=by
 refine bN _ _ _ _ ?_
 unfold dp
 refine bf _ _ _ ?_
 unfold bJ
 have s0:=St.start h
 (repeat (first|refine ax rfl ?_|refine bi ?_|refine aW ‹_› (.head _) (nle rfl) ?_|refine aO rfl ?_|refine bk ‹_› fun _ _ _=>?_|refine aF ‹_› .head rfl rfl rfl (nle rfl) fun _ _=>?_))
 have s:=(by assumption:St h [] _ _)
 refine cU 4 5 1 1 v hv (by decide) (by decide) fun b h2 f2 hb=>?_
 (repeat refine ax rfl ?_)
 exact q b _ (St.call s f2).fr hb
theorem Nb (v:Int) (hv:dt v) {h:ab}{Q:QT}(q:PutK (iM [77,49] v) h Q):C bw [T [77,49],I v] h Q:=by
 refine bN _ _ _ _ ?_
 unfold dp
 refine bf _ _ _ ?_
 unfold bJ
 have s0:=St.start h
 (repeat (first|refine ax rfl ?_|refine bi ?_|refine aW ‹_› (.head _) (nle rfl) ?_|refine aO rfl ?_|refine bk ‹_› fun _ _ _=>?_|refine aF ‹_› .head rfl rfl rfl (nle rfl) fun _ _=>?_))
 have s:=(by assumption:St h [] _ _)
 refine cU 8 4 1 0 v hv (by decide) (by decide) fun b h2 f2 hb=>?_
 (repeat refine ax rfl ?_)
 exact q b _ (St.call s f2).fr hb
theorem Oq (v:Int) (hv:dt v) {h:ab}{Q:QT}(q:PutK (iM [77,50] v) h Q):C bw [T [77,50],I v] h Q:=by
 refine bN _ _ _ _ ?_
 unfold dp
 refine bf _ _ _ ?_
 unfold bJ
 have s0:=St.start h
 (repeat (first|refine ax rfl ?_|refine bi ?_|refine aW ‹_› (.head _) (nle rfl) ?_|refine aO rfl ?_|refine bk ‹_› fun _ _ _=>?_|refine aF ‹_› .head rfl rfl rfl (nle rfl) fun _ _=>?_))
 have s:=(by assumption:St h [] _ _)
 refine cU 8 4 2 0 v hv (by decide) (by decide) fun b h2 f2 hb=>?_
 (repeat refine ax rfl ?_)
 exact q b _ (St.call s f2).fr hb
theorem MW (v:Int) (hv:dt v) {h:ab}{Q:QT}(q:PutK (iM [77,52] v) h Q):C bw [T [77,52],I v] h Q:=by
 refine bN _ _ _ _ ?_
 unfold dp
 refine bf _ _ _ ?_
 unfold bJ
 have s0:=St.start h
 (repeat (first|refine ax rfl ?_|refine bi ?_|refine aW ‹_› (.head _) (nle rfl) ?_|refine aO rfl ?_|refine bk ‹_› fun _ _ _=>?_|refine aF ‹_› .head rfl rfl rfl (nle rfl) fun _ _=>?_))
 have s:=(by assumption:St h [] _ _)
 refine cU 8 4 4 0 v hv (by decide) (by decide) fun b h2 f2 hb=>?_
 (repeat refine ax rfl ?_)
 exact q b _ (St.call s f2).fr hb
theorem Na (v:Int) (hv:dt v) {h:ab}{Q:QT}(q:PutK (iM [79,49] v) h Q):C bw [T [79,49],I v] h Q:=by
 refine bN _ _ _ _ ?_
 unfold dp
 refine bf _ _ _ ?_
 unfold bJ
 have s0:=St.start h
 (repeat (first|refine ax rfl ?_|refine bi ?_|refine aW ‹_› (.head _) (nle rfl) ?_|refine aO rfl ?_|refine bk ‹_› fun _ _ _=>?_|refine aF ‹_› .head rfl rfl rfl (nle rfl) fun _ _=>?_))
 have s:=(by assumption:St h [] _ _)
 refine cU 10 1 1 0 v hv (by decide) (by decide) fun b h2 f2 hb=>?_
 (repeat refine ax rfl ?_)
 exact q b _ (St.call s f2).fr hb
theorem NF (v:Int) (hv:dt v) {h:ab}{Q:QT}(q:PutK (iM [73,50] v) h Q):C bw [T [73,50],I v] h Q:=by
 refine bN _ _ _ _ ?_
 unfold dp
 refine bf _ _ _ ?_
 unfold bJ
 have s0:=St.start h
 (repeat (first|refine ax rfl ?_|refine bi ?_|refine aW ‹_› (.head _) (nle rfl) ?_|refine aO rfl ?_|refine bk ‹_› fun _ _ _=>?_|refine aF ‹_› .head rfl rfl rfl (nle rfl) fun _ _=>?_))
 have s:=(by assumption:St h [] _ _)
 refine cU 8 2 1 0 v hv (by decide) (by decide) fun b h2 f2 hb=>?_
 (repeat refine ax rfl ?_)
 exact q b _ (St.call s f2).fr hb
theorem O0 (v:Int) (hv:dt v) {h:ab}{Q:QT}(q:PutK (iM [68] v) h Q):C bw [T [68],I v] h Q:=by
 refine bN _ _ _ _ ?_
 unfold dp
 refine bf _ _ _ ?_
 unfold bJ
 have s0:=St.start h
 (repeat (first|refine ax rfl ?_|refine bi ?_|refine aW ‹_› (.head _) (nle rfl) ?_|refine aO rfl ?_|refine bk ‹_› fun _ _ _=>?_|refine aF ‹_› .head rfl rfl rfl (nle rfl) fun _ _=>?_))
 have s:=(by assumption:St h [] _ _)
 refine cU 21 5 1 0 v hv (by decide) (by decide) fun b h2 f2 hb=>?_
 (repeat refine ax rfl ?_)
 exact q b _ (St.call s f2).fr hb
theorem Qe (v:Int) (hv:dt v) {h:ab}{Q:QT}(q:PutK (iM [65] v) h Q):C bw [T [65],I v] h Q:=by
 refine bN _ _ _ _ ?_
 unfold dp
 refine bf _ _ _ ?_
 unfold bJ
 have s0:=St.start h
 (repeat (first|refine ax rfl ?_|refine bi ?_|refine aW ‹_› (.head _) (nle rfl) ?_|refine aO rfl ?_|refine bk ‹_› fun _ _ _=>?_|refine aF ‹_› .head rfl rfl rfl (nle rfl) fun _ _=>?_))
 have s:=(by assumption:St h [] _ _)
 refine cU 16 5 1 0 v hv (by decide) (by decide) fun b h2 f2 hb=>?_
 (repeat refine ax rfl ?_)
 exact q b _ (St.call s f2).fr hb
theorem QD (v:Int) (hv:dt v) {h:ab}{Q:QT}(q:PutK (iM [66] v) h Q):C bw [T [66],I v] h Q:=by
 refine bN _ _ _ _ ?_
 unfold dp
 refine bf _ _ _ ?_
 unfold bJ
 have s0:=St.start h
 (repeat (first|refine ax rfl ?_|refine bi ?_|refine aW ‹_› (.head _) (nle rfl) ?_|refine aO rfl ?_|refine bk ‹_› fun _ _ _=>?_|refine aF ‹_› .head rfl rfl rfl (nle rfl) fun _ _=>?_))
 have s:=(by assumption:St h [] _ _)
 refine cU 11 5 1 0 v hv (by decide) (by decide) fun b h2 f2 hb=>?_
 (repeat refine ax rfl ?_)
 exact q b _ (St.call s f2).fr hb
theorem Ns (v:Int) (hv:dt v) {h:ab}{Q:QT}(q:PutK (iM [79,50] v) h Q):C bw [T [79,50],I v] h Q:=by
 refine bN _ _ _ _ ?_
 unfold dp
 refine bf _ _ _ ?_
 unfold bJ
 have s0:=St.start h
 (repeat (first|refine ax rfl ?_|refine bi ?_|refine aW ‹_› (.head _) (nle rfl) ?_|refine aO rfl ?_|refine bk ‹_› fun _ _ _=>?_|refine aF ‹_› .head rfl rfl rfl (nle rfl) fun _ _=>?_))
 have s:=(by assumption:St h [] _ _)
 refine cU 20 2 1 0 v hv (by decide) (by decide) fun b h2 f2 hb=>?_
 (repeat refine ax rfl ?_)
 exact q b _ (St.call s f2).fr hb
theorem Ox (v:Int) (hv:dt v) {h:ab}{Q:QT}(q:PutK (iM [73,52] v) h Q):C bw [T [73,52],I v] h Q:=by
 refine bN _ _ _ _ ?_
 unfold dp
 refine bf _ _ _ ?_
 unfold bJ
 have s0:=St.start h
 (repeat (first|refine ax rfl ?_|refine bi ?_|refine aW ‹_› (.head _) (nle rfl) ?_|refine aO rfl ?_|refine bk ‹_› fun _ _ _=>?_|refine aF ‹_› .head rfl rfl rfl (nle rfl) fun _ _=>?_))
 have s:=(by assumption:St h [] _ _)
 refine cU 16 4 1 0 v hv (by decide) (by decide) fun b h2 f2 hb=>?_
 (repeat refine ax rfl ?_)
 exact q b _ (St.call s f2).fr hb
theorem PY (v:Int) (hv:dt v) {h:ab}{Q:QT}(q:PutK (iM [88] v) h Q):C bw [T [88],I v] h Q:=by
 have q:PutK (wW 0 v) h Q:=q
 unfold dt at hv
 refine bN _ _ _ _ ?_
 unfold dp
 refine bf _ _ _ ?_
 unfold bJ
 have s0:=St.start h
 (repeat (first|refine ax rfl ?_|refine aP ?_|refine bi ?_|refine aW ‹_› (.head _) (nle rfl) ?_|refine aO rfl ?_|refine bk ‹_› fun _ _ _=>?_|refine aF ‹_› .head rfl rfl rfl (nle rfl) fun _ _=>?_))
 have s:=(by assumption:St h [] _ _)
 refine ag (fun hb=>?_) (fun hb=>?_)<;>simp only[za,zb,zc,zd,ze,zf,zg,zh,zi,u8i,zj,zk,zl]at hb
 ·exact q.none s.fr _ (by unfold wW;rw[if_pos (by omega)])
 (repeat refine cO ?_)
 cases h7:decide (7<v) with
 | true=>
   refine gd (ag (fun _=>?_) (fun hb=>by cases hb)) ⟨_,rfl⟩
   simp at h7
   (repeat refine aP ?_)
   refine ag (fun h24=>?_) (fun h24=>?_)<;>simp only[za,zb,zc,zd,ze,zf,zg,zh,zi,u8i,zj,zk,zl]at h24
   ·exact q.none s.fr _ (by unfold wW;rw[if_pos (by omega)])
   ·(repeat refine cO ?_)
    refine ag (fun h31=>?_) (fun h31=>?_)<;>simp only[za,zb,zc,zd,ze,zf,zg,zh,zi,u8i,zj,zk,zl]at h31
    ·exact q.none s.fr _ (by unfold wW;rw[if_pos (by omega)])
    ·exact Ab _ 0 rfl hv q s.fr (by omega)
 | false=>
   refine gd (ag (fun hb=>by cases hb) (fun _=>?_)) ⟨_,rfl⟩
   simp at h7
   (repeat refine cO ?_)
   refine ag (fun h31=>?_) (fun h31=>?_)<;>simp only[za,zb,zc,zd,ze,zf,zg,zh,zi,u8i,zj,zk,zl]at h31
   ·exact q.none s.fr _ (by unfold wW;rw[if_pos (by omega)])
   ·exact Ab _ 0 rfl hv q s.fr (by omega)
theorem Ro (v:Int) (hv:dt v) {h:ab}{Q:QT}(q:PutK (iM [89] v) h Q):C bw [T [89],I v] h Q:=by
 have q:PutK (wW 4 v) h Q:=q
 unfold dt at hv
 refine bN _ _ _ _ ?_
 unfold dp
 refine bf _ _ _ ?_
 unfold bJ
 have s0:=St.start h
 (repeat (first|refine ax rfl ?_|refine aP ?_|refine bi ?_|refine aW ‹_› (.head _) (nle rfl) ?_|refine aO rfl ?_|refine bk ‹_› fun _ _ _=>?_|refine aF ‹_› .head rfl rfl rfl (nle rfl) fun _ _=>?_))
 have s:=(by assumption:St h [] _ _)
 refine ag (fun hb=>?_) (fun hb=>?_)<;>simp only[za,zb,zc,zd,ze,zf,zg,zh,zi,u8i,zj,zk,zl]at hb
 ·exact q.none s.fr _ (by unfold wW;rw[if_pos (by omega)])
 (repeat refine cO ?_)
 cases h7:decide (7<v) with
 | true=>
   refine gd (ag (fun _=>?_) (fun hb=>by cases hb)) ⟨_,rfl⟩
   simp at h7
   (repeat refine aP ?_)
   refine ag (fun h24=>?_) (fun h24=>?_)<;>simp only[za,zb,zc,zd,ze,zf,zg,zh,zi,u8i,zj,zk,zl]at h24
   ·exact q.none s.fr _ (by unfold wW;rw[if_pos (by omega)])
   ·(repeat refine cO ?_)
    refine ag (fun h31=>?_) (fun h31=>?_)<;>simp only[za,zb,zc,zd,ze,zf,zg,zh,zi,u8i,zj,zk,zl]at h31
    ·exact q.none s.fr _ (by unfold wW;rw[if_pos (by omega)])
    ·exact Ab _ 4 rfl hv q s.fr (by omega)
 | false=>
   refine gd (ag (fun hb=>by cases hb) (fun _=>?_)) ⟨_,rfl⟩
   simp at h7
   (repeat refine cO ?_)
   refine ag (fun h31=>?_) (fun h31=>?_)<;>simp only[za,zb,zc,zd,ze,zf,zg,zh,zi,u8i,zj,zk,zl]at h31
   ·exact q.none s.fr _ (by unfold wW;rw[if_pos (by omega)])
   ·exact Ab _ 4 rfl hv q s.fr (by omega)
theorem Ln (hL:dq) (v:Int) (hv:dt v) {h:ab}{Q:QT}(q:PutK (iM [76,50,48] v) h Q):C bw [T [76,50,48],I v] h Q:=by
 have q:PutK (UM v) h Q:=q
 refine bN _ _ _ _ ?_
 unfold dp
 refine bf _ _ _ ?_
 unfold bJ
 have s0:=St.start h
 (repeat (first|refine ax rfl ?_|refine bi ?_|refine aW ‹_› (.head _) (nle rfl) ?_|refine aO rfl ?_|refine bk ‹_› fun _ _ _=>?_|refine aF ‹_› .head rfl rfl rfl (nle rfl) fun _ _=>?_))
 have s:=(by assumption:St h [] _ _)
 refine IJ v ?_
 (repeat refine ax rfl ?_)
 refine iJ (by decide) ?_
 refine iJ (by decide) ?_
 refine qY ?_
 refine qY ?_
 refine eG ?_
 refine wT hL v hv 19 (by decide) ?_
 exact q.is s.fr rfl
theorem K6 (hL:dq) (v:Int) (hv:dt v) {h:ab}{Q:QT}(q:PutK (iM [83,49,54] v) h Q):C bw [T [83,49,54],I v] h Q:=by
 have q:PutK (RZ v) h Q:=q
 refine bN _ _ _ _ ?_
 unfold dp
 refine bf _ _ _ ?_
 unfold bJ
 have s0:=St.start h
 (repeat (first|refine ax rfl ?_|refine bi ?_|refine aW ‹_› (.head _) (nle rfl) ?_|refine aO rfl ?_|refine bk ‹_› fun _ _ _=>?_|refine aF ‹_› .head rfl rfl rfl (nle rfl) fun _ _=>?_))
 have s:=(by assumption:St h [] _ _)
 refine mM ?_
 refine eG ?_
 refine wT hL v hv 15 (by decide) ?_
 exact q.is s.fr rfl
theorem N2 (v:Int) (hv:dt v) {h:ab}{Q:QT}(q:PutK (iM [67,56] v) h Q):C bw [T [67,56],I v] h Q:=by
 have q:PutK (c8P v) h Q:=q
 refine bN _ _ _ _ ?_
 unfold dp
 refine bf _ _ _ ?_
 unfold bJ
 have s0:=St.start h
 (repeat (first|refine ax rfl ?_|refine bi ?_|refine aW ‹_› (.head _) (nle rfl) ?_|refine aO rfl ?_|refine bk ‹_› fun _ _ _=>?_|refine aF ‹_› .head rfl rfl rfl (nle rfl) fun _ _=>?_))
 have s:=(by assumption:St h [] _ _)
 refine Sw v fun h2 f2=>?_
 have s2:=s.call f2
 unfold c8P at q
 cases hs:SG v with
 | none=>
   rw[hs]at q
   refine ax rfl ?_
   refine ax rfl ?_
   refine ax rfl ?_
   refine ax rfl ?_
   refine iJ (by decide) ?_
   refine iJ (by decide) ?_
   refine qY ?_
   refine qY ?_
   refine eG ?_
   exact q.none s2.fr _ rfl
 | some x=>
   obtain⟨f,sc,ui⟩:=x
   rw[hs]at q
   refine ax rfl ?_
   refine ax rfl ?_
   refine ax rfl ?_
   refine ax rfl ?_
   refine iJ (by decide) ?_
   refine iJ (by decide) ?_
   refine qY ?_
   refine qY ?_
   refine eG ?_
   exact q.some s2.fr rfl
theorem MT (hL:dq) (v:Int) (hv:dt v) {h:ab}{Q:QT}(q:PutK (iM [84,56] v) h Q):C bw [T [84,56],I v] h Q:=by
 have q:PutK (t8P v) h Q:=q
 have hv':=hv
 unfold dt at hv'
 refine bN _ _ _ _ ?_
 unfold dp
 refine bf _ _ _ ?_
 unfold bJ
 have s0:=St.start h
 (repeat (first|refine ax rfl ?_|refine bi ?_|refine aW ‹_› (.head _) (nle rfl) ?_|refine aO rfl ?_|refine bk ‹_› fun _ _ _=>?_|refine aF ‹_› .head rfl rfl rfl (nle rfl) fun _ _=>?_))
 have s:=(by assumption:St h [] _ _)
 refine pa (by decide) ?_
 refine cE ?_
 refine ag (fun hb=>?_) (fun hb=>?_)<;>simp only[za,zb,zc,zd,ze,zf,zg,zh,zi,u8i,zj,zk,zl]at hb
 ·exact q.none s.fr _ (by unfold t8P;rw[if_neg hb])
 refine lN _ _ _ ?_
 unfold pT
 (repeat refine bi ?_)
 refine wT hL v hv 8 (by decide) ?_
 refine dA ?_
 have hb:v.tmod 2=0:=by simpa using hb
 cases hf:Bo v 8 with
 | false=>
   refine ag (fun _=>?_) (fun hb=>by cases hb)
   exact q.none s.fr _ (by unfold t8P;rw[if_pos hb,if_neg (by simp[hf])])
 | true=>
   refine ag (fun hb=>by cases hb) (fun _=>?_)
   have q:=q.some s.fr (by unfold t8P;rw[if_pos hb,if_pos (by simp[hf])])
   (repeat refine bi ?_)
   refine mi (by decide) (by
    have:=Int.natAbs_tdiv_le_natAbs v 2
    omega) ?_
   refine mM ?_
   refine eG ?_
   exact q
theorem J5 (hL:dq) (v:Int) (hv:dt v) {h:ab}{Q:QT}(q:PutK (iM [84,49,53] v) h Q):C bw [T [84,49,53],I v] h Q:=by
 have q:PutK (tP 15 v) h Q:=q
 have hv':=hv
 unfold dt at hv'
 refine bN _ _ _ _ ?_
 unfold dp
 refine bf _ _ _ ?_
 unfold bJ
 have s0:=St.start h
 (repeat (first|refine ax rfl ?_|refine bi ?_|refine aW ‹_› (.head _) (nle rfl) ?_|refine aO rfl ?_|refine bk ‹_› fun _ _ _=>?_|refine aF ‹_› .head rfl rfl rfl (nle rfl) fun _ _=>?_))
 have s:=(by assumption:St h [] _ _)
 refine pa (by decide) ?_
 refine cE ?_
 refine ag (fun hb=>?_) (fun hb=>?_)<;>simp only[za,zb,zc,zd,ze,zf,zg,zh,zi,u8i,zj,zk,zl]at hb
 ·exact q.none s.fr _ (by unfold tP;rw[if_neg hb])
 refine lN _ _ _ ?_
 unfold pT
 (repeat refine bi ?_)
 refine wT hL v hv 15 (by decide) ?_
 refine dA ?_
 have hb:v.tmod 2=0:=by simpa using hb
 cases hf:Bo v 15 with
 | false=>
   refine ag (fun _=>?_) (fun hb=>by cases hb)
   exact q.none s.fr _ (by unfold tP;rw[if_pos hb,if_neg (by simp[hf])])
 | true=>
   refine ag (fun hb=>by cases hb) (fun _=>?_)
   have q:=q.some s.fr (by unfold tP;rw[if_pos hb,if_pos (by simp[hf])])
   (repeat refine bi ?_)
   refine lN _ _ _ ?_
   unfold pT
   (repeat refine bi ?_)
   refine iJ (by decide) ?_
   refine ee (r:=.int .i64 (2^16-1:Nat)) (by rfl) ?_
   refine mM ?_
   refine eG ?_
   exact q
theorem Kh (hL:dq) (v:Int) (hv:dt v) {h:ab}{Q:QT}(q:PutK (iM [84,50,52] v) h Q):C bw [T [84,50,52],I v] h Q:=by
 have q:PutK (tP 24 v) h Q:=q
 have hv':=hv
 unfold dt at hv'
 refine bN _ _ _ _ ?_
 unfold dp
 refine bf _ _ _ ?_
 unfold bJ
 have s0:=St.start h
 (repeat (first|refine ax rfl ?_|refine bi ?_|refine aW ‹_› (.head _) (nle rfl) ?_|refine aO rfl ?_|refine bk ‹_› fun _ _ _=>?_|refine aF ‹_› .head rfl rfl rfl (nle rfl) fun _ _=>?_))
 have s:=(by assumption:St h [] _ _)
 refine pa (by decide) ?_
 refine cE ?_
 refine ag (fun hb=>?_) (fun hb=>?_)<;>simp only[za,zb,zc,zd,ze,zf,zg,zh,zi,u8i,zj,zk,zl]at hb
 ·exact q.none s.fr _ (by unfold tP;rw[if_neg hb])
 refine lN _ _ _ ?_
 unfold pT
 (repeat refine bi ?_)
 refine wT hL v hv 24 (by decide) ?_
 refine dA ?_
 have hb:v.tmod 2=0:=by simpa using hb
 cases hf:Bo v 24 with
 | false=>
   refine ag (fun _=>?_) (fun hb=>by cases hb)
   exact q.none s.fr _ (by unfold tP;rw[if_pos hb,if_neg (by simp[hf])])
 | true=>
   refine ag (fun hb=>by cases hb) (fun _=>?_)
   have q:=q.some s.fr (by unfold tP;rw[if_pos hb,if_pos (by simp[hf])])
   (repeat refine bi ?_)
   refine lN _ _ _ ?_
   unfold pT
   (repeat refine bi ?_)
   refine iJ (by decide) ?_
   refine ee (r:=.int .i64 (2^25-1:Nat)) (by rfl) ?_
   refine mM ?_
   refine eG ?_
   exact q
def So:List Str:=[[85,53],[85,55],[79,53],[77,49],[77,50],[77,52],[79,49],[73,50],[68],[65],[66],[79,50],[73,52],[88],[89],[76,50,48],[67,56],[83,49,54],[84,56],[84,49,53],[84,50,52]]
omit [Tabs] in
theorem Rn:∀ r∈tbl,∀ k∈cS r.kinds,k∈So:=by decide
theorem Un (hL:dq) {k:Str}(hk:k∈So) (v:Int) (hv:dt v) {h:ab}{Q:QT}(q:PutK (iM k v) h Q):C bw [T k,I v] h Q:=by
 simp only[So,List.mem_cons,List.not_mem_nil,or_false]at hk
 rcases hk with rfl|rfl|rfl|rfl|rfl|rfl|rfl|rfl|rfl|rfl|rfl|rfl|rfl|rfl|rfl|rfl|rfl|rfl|rfl|rfl|rfl
 ·exact Oc v hv q
 ·exact Ni v hv q
 ·exact Nh v hv q
 ·exact Nb v hv q
 ·exact Oq v hv q
 ·exact MW v hv q
 ·exact Na v hv q
 ·exact NF v hv q
 ·exact O0 v hv q
 ·exact Qe v hv q
 ·exact QD v hv q
 ·exact Ns v hv q
 ·exact Ox v hv q
 ·exact PY v hv q
 ·exact Ro v hv q
 ·exact Ln hL v hv q
 ·exact N2 v hv q
 ·exact K6 hL v hv q
 ·exact MT hL v hv q
 ·exact J5 hL v hv q
 ·exact Kh hL v hv q
