import Derived.Test.YtbhphjpgjgigpaaGreatDoorF9
import Derived.Test.YtbhphjpgjgigpaaGreatDoorAL27toAL31
import Derived.Test.YtbhphjpgjgigpaaGreatDoorItA5
import Derived.KernelRfl
import Derived.Test.YtbhphjpgjgigpaaGreatDoorF5
import Derived.Lib.Index
import Derived.Test.YtbhphjpgjgigpaaGreatDoorAM4toAM6
set_option linter.all false
set_option autoImplicit true
set_option relaxedAutoImplicit true
set_option maxRecDepth 100000
namespace Go.Proofs.YtbhphjpgjgigpaaGreatDoor.AL
noncomputable section
open Go.Proofs Go.RowKit Go.Shelf
def asc:List Int:=[0,0,0,0,0,0,0,0,0,1,1,1,1,1,0,0,0,0,0,0,0,0,0,0,0,0,0,0,0,0,0,0,1,0,0,0,0,0,0,0,0,0,0,0,0,0,0,0,0,0,0,0,0,0,0,0,0,0,0,0,0,0,0,0,0,0,0,0,0,0,0,0,0,0,0,0,0,0,0,0,0,0,0,0,0,0,0,0,0,0,0,0,0,0,0,0,0,0,0,0,0,0,0,0,0,0,0,0,0,0,0,0,0,0,0,0,0,0,0,0,0,0,0,0,0,0,0,0,0,0,0,0,0,0,0,0,0,0,0,0,0,0,0,0,0,0,0,0,0,0,0,0,0,0,0,0,0,0,0,0,0,0,0,0,0,0,0,0,0,0,0,0,0,0,0,0,0,0,0,0,0,0,0,0,0,0,0,0,0,0,0,0,0,0,0,0,0,0,0,0,0,0,0,0,0,0,0,0,0,0,0,0,0,0,0,0,0,0,0,0,0,0,0,0,0,0,0,0,0,0,0,0,0,0,0,0,0,0,0,0,0,0,0,0,0,0,0,0,0,0,0,0,0,0,0,0]
def abt:List AV:=asc.map fun z=>.lit (.int .u8 z)
def tb5:qr:=fun g=>match Nat.beq g 0 with|true=>some abt|false=>none
@[reducible] def Zx (S:Syms):Tabs where
  toSyms:=S
  ok F:=(∀ i,i<asc.length→F 0 i=some (.int .u8 (asc.getD i 0)))∧∃ m,F 3 0=some (.int .i64 m)
  mono hF h:=⟨fun i hi=>hF _ _ _ (h.1 i hi),h.2.imp fun m hm=>hF _ _ _ hm⟩
  tab:=tb5
  tab_ok G g cs h e:=by
   unfold tb5 at e
   split at e
   ·rename_i hg
    cases e
    rw[Nat.eq_of_beq_eq_true hg]
    exact Fa asc 0 fun i hi=>by rw[Nat.zero_add];exact h.1 i hi
   ·cases e
class Tabs5 extends Tabs where
 m0:∀ F,ok F→∃ m,F 3 0=some (.int .i64 m)
 tb:oQ tb5
@[reducible] def aap (S:Syms):Tabs5 where
  toTabs:=Zx S
  m0 F h:=And.right h
  tb g cs h:=h
section
variable [Tabs]
theorem Yi:YT Pg 134 3:=⟨⟨_,Tryz.func134,by kernel_rfl,by kernel_rfl⟩,fun s sub m w hs hm=>Any.strings_Index Tryz.lays143 s sub m w hs hm⟩
end
end
end Go.Proofs.YtbhphjpgjgigpaaGreatDoor.AL
namespace Go.Proofs.YtbhphjpgjgigpaaGreatDoor.AL
noncomputable section
variable [Tabs]
theorem A0 {l m:Str}{h:ae}{Q:QT}(k:Q (B (m.isPrefixOf l)) h):C fw [T l,T m] h Q:=by
 refine wb _ _ _ _ ?_
 unfold qA
 refine su _ _ _ _ ?_
 unfold mw
 (repeat (first|refine bf ?_|refine bL ?_))
 refine ah (fun hb=>?_) (fun hb=>?_)<;>simp only[za,zb,zc,zd,ze,zf,zg,zh,zi,u8i,zj,zk,zl]at hb
 ·(repeat refine bf ?_)
  refine pk (by omega) (by omega) ?_
  (repeat refine aV ?_)
  have:decide (l.take m.length=m)=m.isPrefixOf l:=by
   rw[Bool.eq_iff_iff,decide_eq_true_eq,List.isPrefixOf_iff_prefix,List.prefix_iff_eq_take];exact eq_comm
  simp only[Int.toNat_natCast,this]
  exact k
 ·skip
  have:m.isPrefixOf l=false:=by
   rw[Bool.eq_false_iff];intro hp
   have:=(List.isPrefixOf_iff_prefix.1 hp).length_le
   omega
  rw[this]at k;exact k
def ia (c:UInt8):Str→Str
 | []=>[]
 | x::l=>if x=c then ia c l else x::l
theorem DU (c:UInt8) (l:Str) {h:ae}{Q:QT}(k:Q (T (ia c l)) h):C ej [T l,U8 c] h Q:=by
 refine sV _ _ _ _ ?_
 unfold nL
 refine aP (fun n vs h'=>h'=h∧∃ m:Str,vs=[T m]∧n=m.length∧ia c m=ia c l) l.length ⟨rfl,l,rfl,rfl,rfl⟩ ?_
 rintro n vs h' ⟨rfl,m,rfl,rfl,hm⟩
 unfold lk
 (repeat (first|refine bf ?_|refine bx ?_))
 refine ah (fun hb=>?_) (fun hb=>?_)<;>simp only[za,zb,zc,zd,ze,zf,zg,zh,zi,u8i,zj,zk,zl]at hb
 ·cases m with
  | nil=>simp at hb
  | cons x m=>
    refine gx (by omega) (by simp) ?_
    (repeat refine aA ?_)
    simp only[Int.toNat_zero,List.getElem_cons_zero]
    refine ah (fun hc=>?_) (fun hc=>?_)<;>simp only[za,zb,zc,zd,ze,zf,zg,zh,zi,u8i,zj,zk,zl]at hc
    ·refine gY (by omega) (by simp;omega) ?_
     exact⟨m.length,by simp,trivial,m,rfl,rfl,by rw[← hm];simp[ia,hc]⟩
    ·rw[← hm]at k
     rw[ia,if_neg hc]at k;exact k
 ·have:m=[]:=by cases m with
   | nil=>rfl
   | cons=>simp at hb
  subst this
  rw[← hm]at k;exact k
theorem KL (c:UInt8) (hc:c.toNat<128) (l:Str) {h:ae}{Q:QT}(k:Q (T (ia c l)) h):C jO [T l,T [c]] h Q:=by
 refine xU _ _ _ _ ?_
 unfold ti
 (repeat refine aV ?_)
 refine ah (fun hb=>?_) (fun hb=>?_)<;>simp only[za,zb,zc,zd,ze,zf,zg,zh,zi,u8i,zj,zk,zl]at hb
 ·subst hb;exact k
 ·(repeat (first|refine bf ?_|refine aA ?_|refine aV ?_))
  refine ah (fun _=>?_) (fun hb=>(by exfalso;first|(simp at hb;done)|(simp at hb;omega)|(revert hb;decide)|omega))
  refine gx (by omega) (by simp) ?_
  (repeat refine aJ ?_)
  refine ah (fun _=>?_) (fun hb=>?_)
  ·refine gx (by omega) (by simp) ?_
   exact DU c l k
  ·simp at hb;omega
end
end Go.Proofs.YtbhphjpgjgigpaaGreatDoor.AL
namespace Go.Proofs.YtbhphjpgjgigpaaGreatDoor.AL
noncomputable section
variable [Tabs]
def rX (p:Nat→Bool):List AV:=(List.range 256).map fun i=>B (p i)
omit [Tabs] in
theorem iV (p:Nat→Bool):(rX p).length=256:=by simp[rX]
theorem FS (p:Nat→Bool) {i:Nat}(h:i<256):(rX p)[i]?=some (B (p i)):=by simp[rX,h]
theorem Vn (p:Nat→Bool) {i:Nat}(h:i<256):splice (rX p) i [B true]=rX (fun j=>decide (j=i)||p j):=by
 apply List.ext_getElem?
 intro j
 rw[dB (by simp[iV];omega)]
 simp only[List.length_cons,List.length_nil]
 rcases Nat.lt_or_ge j 256 with hj|hj
 ·rw[FS _ hj,FS _ hj]
  split
  ·rename_i hlt;simp[show j≠i by omega]
  ·split
   ·have:j=i:=by omega
    subst this;simp
   ·simp[show j≠i by omega]
 ·have:∀ q:Nat→Bool,(rX q)[j]?=none:=fun q=>List.getElem?_eq_none (by simp[iV];omega)
  rw[this,this]
  split
  ·rfl
  ·rw[if_neg (by omega)]
theorem Mo (p:Nat→Bool):(rX p).all AV.one=true:=by simp[rX,AV.one,Value.oneCell']
theorem EI (a b:List AV) (h:a.length=b.length):splice a 0 b=b:=by simp[splice,h]
theorem PM (cs:Str) (hc:∀ c∈cs,c.toNat<128) (hl:cs.length<1000) {h:ae}{Q:QT}(k:∀ h',Fr [] h h'→Q (.tup [.agg (rX fun i=>cs.any fun c=>decide (i=c.toNat)),B true]) h'):C cz [T cs] h Q:=by
 refine to _ _ _ ?_
 unfold nF
 have s:=St.start h
 refine aQ s fun i h1 s1=>?_
 have s1:St h [] h1 [(i,true,.cells (rX fun _=>false))]:=s1
 refine aP (fun n vs h'=>∃ k:Nat,∃ b,vs=[b,I (k:Nat)]∧n+k=cs.length∧St h [] h' [(i,true,.cells (rX fun i=>(cs.take k).any fun c=>decide (i=c.toNat)))]) cs.length ⟨0,_,rfl,by simp,by simpa using s1⟩ ?_
 rintro n vs h' ⟨m,b,rfl,hn,s2⟩
 unfold lm
 (repeat (first|refine bf ?_|refine aJ ?_))
 refine ah (fun hb=>?_) (fun hb=>?_)<;>simp only[za,zb,zc,zd,ze,zf,zg,zh,zi,u8i,zj,zk,zl]at hb
 ·have hm:m<cs.length:=hb
  refine bP hm ?_
  (repeat refine bL ?_)
  have hcm:=hc cs[m] (by simp)
  refine ah (fun hb=>absurd hb (by simp;omega)) (fun _=>?_)
  refine (⟨(⟨⟨by omega,by omega⟩,?_⟩:cQ 256 1 (.ptr i 0) (U8 cs[m]) _)⟩:ce 256 1 (.ptr i 0) (U8 cs[m]) _)
  simp only[Int.toNat_natCast,Nat.mul_one,Nat.zero_add]
  refine ay (cs:=rX fun i=>(cs.take m).any fun c=>decide (i=c.toNat)) s2 .head rfl rfl rfl (by rw[iV];omega) fun h3 s3=>?_
  (repeat refine aI (by omega) ?_)
  refine⟨n-1,by omega,m+1,_,rfl,by omega,?_⟩
  rw[show (B true).cells=[B true] from rfl,Vn _ (by omega)]at s3
  have e:(fun i=>(cs.take (m+1)).any fun c=>decide (i=c.toNat))=(fun j=>decide (j=cs[m].toNat)||(cs.take m).any fun c=>decide (j=c.toNat)):=by
   funext j
   rw[List.take_succ_eq_append_getElem hm];simp only[List.any_append,List.any_cons,List.any_nil,Bool.or_false];exact Bool.or_comm _ _
  rw[e];exact s3
 ·have hm:m=cs.length:=by omega
  subst hm
  rw[List.take_length]at s2
  refine aL s2 (.head _) (by rw[iV];omega) ?_
  rw[List.drop_zero,List.take_of_length_le (by rw[iV];omega)]
  refine ay (cs:=rX fun i=>cs.any fun c=>decide (i=c.toNat)) s2 .head rfl (by simp[AV.cells,iV]) (by exact Mo _) (by rw[iV];omega) fun h3 s3=>?_
  rw[show (AV.agg (rX fun i=>cs.any fun c=>decide (i=c.toNat))).cells=rX (fun i=>cs.any fun c=>decide (i=c.toNat)) from rfl,EI _ _ rfl]at s3
  refine aL s3 (.head _) (by rw[iV];omega) ?_
  rw[List.drop_zero,List.take_of_length_le (by rw[iV];omega)]
  exact k _ s3.fr
theorem Dx (p:Nat→Bool) (c:UInt8) {i:Nat}{h:ae}(e:h[i]?=some (.cells (rX p))) {Q:QT}(k:Q (B (p c.toNat)) h):C cY [.ptr i 0,U8 c] h Q:=by
 refine ou _ _ _ _ ?_
 unfold jG
 have hc:=c.toNat_lt
 refine aw (⟨(⟨⟨by omega,by omega⟩,?_⟩:cQ 256 1 (.ptr i 0) (U8 c) _)⟩:ce 256 1 (.ptr i 0) (U8 c) _)
 simp only[Int.toNat_natCast,Nat.mul_one,Nat.zero_add]
 refine af (St.startr e) (.head _) (FS p (by omega)) ?_
 exact k
theorem BT (p:Nat→Bool) (l:Str) {i:Nat}{h:ae}(e:h[i]?=some (.cells (rX p))) {Q:QT}(k:Q (T (l.dropWhile fun c=>p c.toNat)) h):C cj [T l,.ptr i 0] h Q:=by
 refine rQ _ _ _ _ ?_
 unfold mA
 refine aP (fun n vs h'=>h'=h∧∃ m:Str,vs=[T m]∧n=m.length∧(m.dropWhile fun c=>p c.toNat)=l.dropWhile fun c=>p c.toNat) l.length ⟨rfl,l,rfl,rfl,rfl⟩ ?_
 rintro n vs h' ⟨rfl,m,rfl,rfl,hm⟩
 unfold kB fM ki
 (repeat (first|refine bf ?_|refine bx ?_))
 refine ah (fun hb=>?_) (fun hb=>?_)<;>simp only[za,zb,zc,zd,ze,zf,zg,zh,zi,u8i,zj,zk,zl]at hb
 ·cases m with
  | nil=>simp at hb
  | cons x m=>
    refine gx (by omega) (by simp) ?_
    refine Dx p x e ?_
    (repeat refine bQ ?_)
    refine ah (fun hc=>?_) (fun hc=>?_)<;>simp only[za,zb,zc,zd,ze,zf,zg,zh,zi,u8i,zj,zk,zl]at hc
    ·rw[← hm,List.dropWhile_cons_of_neg (by simpa using hc)]at k;exact k
    ·refine gY (by omega) (by simp;omega) ?_
     exact⟨m.length,by simp,rfl,m,rfl,rfl,by rw[← hm,List.dropWhile_cons_of_pos (by simpa using hc)]⟩
 ·have:m=[]:=by cases m with
   | nil=>rfl
   | cons=>simp at hb
  subst this
  rw[← hm]at k;exact k
def wF (p:UInt8→Bool) (l:Str):Str:=(l.reverse.dropWhile p).reverse
theorem Gp {p:UInt8→Bool}{l:Str}{x:UInt8}(h:p x=true):wF p (l++[x])=wF p l:=by simp[wF,h]
theorem FR {p:UInt8→Bool}{l:Str}{x:UInt8}(h:p x=false):wF p (l++[x])=l++[x]:=by simp[wF,h]
theorem Am (p:Nat→Bool) (l:Str) (hl:l.length<4611686018427387904) {i:Nat}{h:ae}(e:h[i]?=some (.cells (rX p))) {Q:QT}(k:Q (T (wF (fun c=>p c.toNat) l)) h):C dK [T l,.ptr i 0] h Q:=by
 refine qq _ _ _ _ ?_
 unfold md
 refine aP (fun n vs h'=>h'=h∧∃ m:Str,vs=[T m]∧n=m.length∧m.length≤l.length∧wF (fun c=>p c.toNat) m=wF (fun c=>p c.toNat) l) l.length ⟨rfl,l,rfl,rfl,Nat.le_refl _,rfl⟩ ?_
 rintro n vs h' ⟨rfl,m,rfl,rfl,hml,hm⟩
 unfold jF fo jJ
 (repeat (first|refine bf ?_|refine bx ?_))
 refine ah (fun hb=>?_) (fun hb=>?_)<;>simp only[za,zb,zc,zd,ze,zf,zg,zh,zi,u8i,zj,zk,zl]at hb
 ·rcases List.eq_nil_or_concat m with rfl|⟨m,x,rfl⟩
  ·simp at hb
  ·simp only[List.concat_eq_append]at *
   have hml':m.length+1≤l.length:=by simpa using hml
   refine bf ?_
   refine cw (by simp;omega) ?_
   have e1:((m++[x]).length:Int)-1=(m.length:Nat):=by simp
   rw[e1]
   refine bP (by simp) ?_
   simp only[List.getElem_append_right (Nat.le_refl _),Nat.sub_self,List.getElem_cons_zero]
   refine Dx p x e ?_
   (repeat refine bQ ?_)
   refine ah (fun hc=>?_) (fun hc=>?_)<;>simp only[za,zb,zc,zd,ze,zf,zg,zh,zi,u8i,zj,zk,zl]at hc
   ·rw[← hm,FR (by simpa using hc)]at k;exact k
   ·refine bf ?_
    refine cw (by simp at hml ⊢;omega) ?_
    rw[e1]
    refine pk (by omega) (by simp;omega) ?_
    refine⟨m.length,by simp,rfl,m,by simp,rfl,by omega,?_⟩
    rw[← hm,Gp (by simpa using hc)]
 ·have:m=[]:=by cases m with
   | nil=>rfl
   | cons=>simp at hb
  subst this
  rw[← hm]at k;exact k
def Rc (c:UInt8):Bool:=c=32||c=9
def sT (l:Str):Str:=(wF Rc l).dropWhile Rc
theorem Uq (p:UInt8→Bool) (l:Str):(wF p l).length≤l.length:=by
 have:=(List.dropWhile_sublist p (l:=l.reverse)).length_le
 simpa [wF] using this
theorem Ts (p:UInt8→Bool) (l:Str):(l.dropWhile p).length≤l.length:=(List.dropWhile_sublist p).length_le
theorem p9 (l:Str):(sT l).length≤l.length:=Nat.le_trans (Ts _ _) (Uq _ _)
theorem Ej (l:Str) (hl:l.length<4611686018427387904) {h:ae}{Q:QT}(k:∀ h',Fr [] h h'→Q (T (sT l)) h'):C ft [T l,T [32,9]] h Q:=by
 refine DG _ _ _ _ ?_
 unfold Ak
 have eg:(fun c:UInt8=>([32,9]:Str).any fun d=>decide (c.toNat=d.toNat))=Rc:=by
  funext c
  simp only[List.any_cons,List.any_nil,Bool.or_false,Rc]
  congr 1<;>(rw[Bool.eq_iff_iff];simp[← UInt8.toNat_inj])
 (repeat refine aV ?_)
 refine ah (fun hb=>?_) (fun hb=>?_)<;>simp only[za,zb,zc,zd,ze,zf,zg,zh,zi,u8i,zj,zk,zl]at hb
 ·subst hb;exact k _ (Fr.refl _ _)
 ·(repeat (first|refine bf ?_|refine aA ?_|refine aV ?_))
  refine ah (fun hb=>(by exfalso;first|(simp at hb;done)|(simp at hb;omega)|(revert hb;decide)|omega)) (fun _=>?_)
  refine PM [32,9] (by decide) (by decide) fun h1 f1=>?_
  have s:=(St.start h).call f1
  (repeat refine aE rfl ?_)
  refine aQ s fun i h2 s2=>?_
  refine ay s2 .head rfl (by simp[AV.cells,iV]) (by exact Mo _) (by decide) fun h3 s3=>?_
  rw[show (AV.agg (rX fun i=>([32,9]:Str).any fun c=>decide (i=c.toNat))).cells=rX (fun i=>([32,9]:Str).any fun c=>decide (i=c.toNat)) from rfl,EI _ _ (by rw[iV];rfl)]at s3
  refine ah (fun _=>?_) (fun hb=>by cases hb)
  refine Am _ l hl (s3.get (.head _)) ?_
  refine BT _ _ (s3.get (.head _)) ?_
  rw[eg]
  exact k _ s3.fr
end
end Go.Proofs.YtbhphjpgjgigpaaGreatDoor.AL
namespace Go.Proofs.YtbhphjpgjgigpaaGreatDoor.AL
noncomputable section
variable [Tabs]
theorem vt {α:Type}{enc:α→List AV}(hs:∀ x,(enc x).length=4) (fv:AV) (p:α→Bool) (l:List α) (hl:l.length<4611686018427387904) {v:AV}{h:ae}(r:Row enc 4 h v l) {Q:QT}
  (hp:∀ x∈l,∀ (h':ae) (Q:QT),Fr [] h h'→(∀ h'',Fr [] h' h''→Q (B (p x)) h'')→CV fv [.agg (enc x)] h' Q) (k:∀ h',Fr [] h h'→Q (I (fC p l)) h'):C cC [v,fv] h Q:=by
 refine iY _ _ _ _ ?_
 unfold eJ
 refine r.len ?_
 refine aP (fun n vs h'=>Fr [] h h'∧∃ i:Nat,∃ b,vs=[b,I (i:Nat)]∧n+i=l.length∧∀ j (hj:j<i) (hj2:j<l.length),p l[j]=false) l.length ⟨Fr.refl _ _,0,_,rfl,by omega,fun j hj=>by omega⟩ ?_
 rintro n vs h' ⟨f1,i,b,rfl,hn,ha⟩
 unfold dY
 (repeat refine aJ ?_)
 refine ah (fun hb=>?_) (fun hb=>?_)<;>simp only[za,zb,zc,zd,ze,zf,zg,zh,zi,u8i,zj,zk,zl]at hb
 ·have hi:i<l.length:=hb
  refine (r.fr f1).idx hs hi fun q t=>?_
  refine aR t (hs _).symm ?_
  refine hp l[i] (by simp) _ _ f1 fun h2 f2=>?_
  cases hpi:p l[i] with
  | true=>
    refine ah (fun _=>?_) (fun hb=>by cases hb)
    have:=k h2 (f1.trans f2 (by simp))
    rw[kV hi hpi fun j hj=>ha j hj (by omega)]at this
    exact this
  | false=>
    refine ah (fun hb=>by cases hb) (fun _=>?_)
    (repeat refine aI (by omega) ?_)
    refine⟨n-1,by omega,f1.trans f2 (by simp),i+1,_,rfl,by omega,fun j hj hj2=>?_⟩
    rcases Nat.lt_or_eq_of_le (Nat.le_of_lt_succ hj) with h1|h1
    ·exact ha j h1 hj2
    ·subst h1;exact hpi
 ·have:=k h' f1
  rw[gW fun j hj=>ha j (by omega) hj]at this
  exact this
theorem uF {α:Type}{arg:α→AV}(fv:AV) (p:α→Bool) (l:List α) (hl:l.length<4611686018427387904) {v:AV}{h:ae}(r:Row (fun x=>[arg x]) 1 h v l) {Q:QT}
  (hp:∀ x∈l,∀ (h':ae) (Q:QT),Fr [] h h'→(∀ h'',Fr [] h' h''→Q (B (p x)) h'')→CV fv [arg x] h' Q) (k:∀ h',Fr [] h h'→Q (I (fC p l)) h'):C cx [v,fv] h Q:=by
 refine ii _ _ _ _ ?_
 unfold ea
 refine r.len ?_
 refine aP (fun n vs h'=>Fr [] h h'∧∃ i:Nat,∃ b,vs=[b,I (i:Nat)]∧n+i=l.length∧∀ j (hj:j<i) (hj2:j<l.length),p l[j]=false) l.length ⟨Fr.refl _ _,0,_,rfl,by omega,fun j hj=>by omega⟩ ?_
 rintro n vs h' ⟨f1,i,b,rfl,hn,ha⟩
 unfold dP
 (repeat refine aJ ?_)
 refine ah (fun hb=>?_) (fun hb=>?_)<;>simp only[za,zb,zc,zd,ze,zf,zg,zh,zi,u8i,zj,zk,zl]at hb
 ·have hi:i<l.length:=hb
  refine (r.fr f1).idx (fun _=>rfl) hi fun q t=>?_
  refine aH t ?_
  refine hp l[i] (by simp) _ _ f1 fun h2 f2=>?_
  cases hpi:p l[i] with
  | true=>
    refine ah (fun _=>?_) (fun hb=>by cases hb)
    have:=k h2 (f1.trans f2 (by simp))
    rw[kV hi hpi fun j hj=>ha j hj (by omega)]at this
    exact this
  | false=>
    refine ah (fun hb=>by cases hb) (fun _=>?_)
    (repeat refine aI (by omega) ?_)
    refine⟨n-1,by omega,f1.trans f2 (by simp),i+1,_,rfl,by omega,fun j hj hj2=>?_⟩
    rcases Nat.lt_or_eq_of_le (Nat.le_of_lt_succ hj) with h1|h1
    ·exact ha j h1 hj2
    ·subst h1;exact hpi
 ·have:=k h' f1
  rw[gW fun j hj=>ha j (by omega) hj]at this
  exact this
theorem v6 {α:Type}{enc:α→List AV}(hs:∀ x,(enc x).length=3) (fv:AV) (p:α→Bool) (l:List α) (hl:l.length<4611686018427387904) {v:AV}{h:ae}(r:Row enc 3 h v l) {Q:QT}
  (hp:∀ x∈l,∀ (h':ae) (Q:QT),Fr [] h h'→(∀ h'',Fr [] h' h''→Q (B (p x)) h'')→CV fv [.agg (enc x)] h' Q) (k:∀ h',Fr [] h h'→Q (I (fC p l)) h'):C cM [v,fv] h Q:=by
 refine jM _ _ _ _ ?_
 unfold ff
 refine r.len ?_
 refine aP (fun n vs h'=>Fr [] h h'∧∃ i:Nat,∃ b,vs=[b,I (i:Nat)]∧n+i=l.length∧∀ j (hj:j<i) (hj2:j<l.length),p l[j]=false) l.length ⟨Fr.refl _ _,0,_,rfl,by omega,fun j hj=>by omega⟩ ?_
 rintro n vs h' ⟨f1,i,b,rfl,hn,ha⟩
 unfold eB
 (repeat refine aJ ?_)
 refine ah (fun hb=>?_) (fun hb=>?_)<;>simp only[za,zb,zc,zd,ze,zf,zg,zh,zi,u8i,zj,zk,zl]at hb
 ·have hi:i<l.length:=hb
  refine (r.fr f1).idx hs hi fun q t=>?_
  refine aR t (hs _).symm ?_
  refine hp l[i] (by simp) _ _ f1 fun h2 f2=>?_
  cases hpi:p l[i] with
  | true=>
    refine ah (fun _=>?_) (fun hb=>by cases hb)
    have:=k h2 (f1.trans f2 (by simp))
    rw[kV hi hpi fun j hj=>ha j hj (by omega)]at this
    exact this
  | false=>
    refine ah (fun hb=>by cases hb) (fun _=>?_)
    (repeat refine aI (by omega) ?_)
    refine⟨n-1,by omega,f1.trans f2 (by simp),i+1,_,rfl,by omega,fun j hj hj2=>?_⟩
    rcases Nat.lt_or_eq_of_le (Nat.le_of_lt_succ hj) with h1|h1
    ·exact ha j h1 hj2
    ·subst h1;exact hpi
 ·have:=k h' f1
  rw[gW fun j hj=>ha j (by omega) hj]at this
  exact this
theorem wy {α:Type}{enc:α→List AV}(hs:∀ x,(enc x).length=2) (fv:AV) (p:α→Bool) (l:List α) (hl:l.length<4611686018427387904) {v:AV}{h:ae}(r:Row enc 2 h v l) {Q:QT}
  (hp:∀ x∈l,∀ (h':ae) (Q:QT),Fr [] h h'→(∀ h'',Fr [] h' h''→Q (B (p x)) h'')→CV fv [.agg (enc x)] h' Q) (k:∀ h',Fr [] h h'→Q (I (fC p l)) h'):C cO [v,fv] h Q:=by
 refine jU _ _ _ _ ?_
 unfold fe
 refine r.len ?_
 refine aP (fun n vs h'=>Fr [] h h'∧∃ i:Nat,∃ b,vs=[b,I (i:Nat)]∧n+i=l.length∧∀ j (hj:j<i) (hj2:j<l.length),p l[j]=false) l.length ⟨Fr.refl _ _,0,_,rfl,by omega,fun j hj=>by omega⟩ ?_
 rintro n vs h' ⟨f1,i,b,rfl,hn,ha⟩
 unfold ez
 (repeat refine aJ ?_)
 refine ah (fun hb=>?_) (fun hb=>?_)<;>simp only[za,zb,zc,zd,ze,zf,zg,zh,zi,u8i,zj,zk,zl]at hb
 ·have hi:i<l.length:=hb
  refine (r.fr f1).idx hs hi fun q t=>?_
  refine aR t (hs _).symm ?_
  refine hp l[i] (by simp) _ _ f1 fun h2 f2=>?_
  cases hpi:p l[i] with
  | true=>
    refine ah (fun _=>?_) (fun hb=>by cases hb)
    have:=k h2 (f1.trans f2 (by simp))
    rw[kV hi hpi fun j hj=>ha j hj (by omega)]at this
    exact this
  | false=>
    refine ah (fun hb=>by cases hb) (fun _=>?_)
    (repeat refine aI (by omega) ?_)
    refine⟨n-1,by omega,f1.trans f2 (by simp),i+1,_,rfl,by omega,fun j hj hj2=>?_⟩
    rcases Nat.lt_or_eq_of_le (Nat.le_of_lt_succ hj) with h1|h1
    ·exact ha j h1 hj2
    ·subst h1;exact hpi
 ·have:=k h' f1
  rw[gW fun j hj=>ha j (by omega) hj]at this
  exact this
theorem rG {α:Type}{enc:α→List AV}(hs:∀ x,(enc x).length=4) (fv:AV) (p:α→Bool) (l:List α) (hl:l.length<4611686018427387904) {v:AV}{h:ae}(r:Row enc 4 h v l) {Q:QT}
  (hp:∀ x∈l,∀ (h':ae) (Q:QT),Fr [] h h'→(∀ h'',Fr [] h' h''→Q (B (p x)) h'')→CV fv [.agg (enc x)] h' Q) (k:∀ h',Fr [] h h'→Q (B (l.any p)) h'):C bH [v,fv] h Q:=by
 refine ib _ _ _ _ ?_
 unfold dZ
 refine vt hs fv p l hl r hp fun h1 f1=>?_
 (repeat refine bL ?_)
 have:decide (0≤fC p l)=l.any p:=by rw[Bool.eq_iff_iff,decide_eq_true_eq];exact Az p l
 rw[this];exact k h1 f1
theorem qn {α:Type}{arg:α→AV}(fv:AV) (p:α→Bool) (l:List α) (hl:l.length<4611686018427387904) {v:AV}{h:ae}(r:Row (fun x=>[arg x]) 1 h v l) {Q:QT}
  (hp:∀ x∈l,∀ (h':ae) (Q:QT),Fr [] h h'→(∀ h'',Fr [] h' h''→Q (B (p x)) h'')→CV fv [arg x] h' Q) (k:∀ h',Fr [] h h'→Q (B (l.any p)) h'):C cb [v,fv] h Q:=by
 refine gG _ _ _ _ ?_
 unfold dN
 refine uF fv p l hl r hp fun h1 f1=>?_
 (repeat refine bL ?_)
 have:decide (0≤fC p l)=l.any p:=by rw[Bool.eq_iff_iff,decide_eq_true_eq];exact Az p l
 rw[this];exact k h1 f1
theorem kG (x:Str) (l:List (Str)) (hl:l.length<4611686018427387904) {v:AV}{h:ae}(r:Row (fun x:Str=>[T x]) 1 h v l) {Q:QT}(k:Q (I (fC (fun y=>decide (x=y)) l)) h):C bG [v,T x] h Q:=by
 refine mQ _ _ _ _ ?_
 unfold iM
 refine r.len ?_
 refine aP (fun n vs h'=>h'=h∧∃ i:Nat,∃ b,vs=[b,I (i:Nat)]∧n+i=l.length∧∀ j (hj:j<i) (hj2:j<l.length),decide (x=l[j])=false) l.length ⟨rfl,0,_,rfl,by omega,fun j hj=>by omega⟩ ?_
 rintro n vs h' ⟨rfl,i,b,rfl,hn,ha⟩
 unfold gh
 (repeat refine aJ ?_)
 refine ah (fun hb=>?_) (fun hb=>?_)<;>simp only[za,zb,zc,zd,ze,zf,zg,zh,zi,u8i,zj,zk,zl]at hb
 ·have hi:i<l.length:=hb
  refine r.idx (fun _=>rfl) hi fun q t=>?_
  refine aH t ?_
  refine aV ?_
  cases hpi:decide (x=l[i]) with
  | true=>
    refine ah (fun _=>?_) (fun hb=>by cases hb)
    rw[kV (p:=fun y=>decide (x=y)) hi hpi fun j hj=>ha j hj (by omega)]at k
    exact k
  | false=>
    refine ah (fun hb=>by cases hb) (fun _=>?_)
    (repeat refine aI (by omega) ?_)
    refine⟨n-1,by omega,rfl,i+1,_,rfl,by omega,fun j hj hj2=>?_⟩
    rcases Nat.lt_or_eq_of_le (Nat.le_of_lt_succ hj) with h1|h1
    ·exact ha j h1 hj2
    ·subst h1;exact hpi
 ·rw[gW (p:=fun y=>decide (x=y)) fun j hj=>ha j (by omega) hj]at k
  exact k
theorem Kr (x:Int) (l:List (Int)) (hl:l.length<4611686018427387904) {v:AV}{h:ae}(r:Row (fun x:Int=>[I x]) 1 h v l) {Q:QT}(k:Q (I (fC (fun y=>decide (x=y)) l)) h):C fT [v,I x] h Q:=by
 refine sF _ _ _ _ ?_
 unfold mD
 refine r.len ?_
 refine aP (fun n vs h'=>h'=h∧∃ i:Nat,∃ b,vs=[b,I (i:Nat)]∧n+i=l.length∧∀ j (hj:j<i) (hj2:j<l.length),decide (x=l[j])=false) l.length ⟨rfl,0,_,rfl,by omega,fun j hj=>by omega⟩ ?_
 rintro n vs h' ⟨rfl,i,b,rfl,hn,ha⟩
 unfold j0
 (repeat refine aJ ?_)
 refine ah (fun hb=>?_) (fun hb=>?_)<;>simp only[za,zb,zc,zd,ze,zf,zg,zh,zi,u8i,zj,zk,zl]at hb
 ·have hi:i<l.length:=hb
  refine r.idx (fun _=>rfl) hi fun q t=>?_
  refine aH t ?_
  refine aA ?_
  cases hpi:decide (x=l[i]) with
  | true=>
    refine ah (fun _=>?_) (fun hb=>by cases hb)
    rw[kV (p:=fun y=>decide (x=y)) hi hpi fun j hj=>ha j hj (by omega)]at k
    exact k
  | false=>
    refine ah (fun hb=>by cases hb) (fun _=>?_)
    (repeat refine aI (by omega) ?_)
    refine⟨n-1,by omega,rfl,i+1,_,rfl,by omega,fun j hj hj2=>?_⟩
    rcases Nat.lt_or_eq_of_le (Nat.le_of_lt_succ hj) with h1|h1
    ·exact ha j h1 hj2
    ·subst h1;exact hpi
 ·rw[gW (p:=fun y=>decide (x=y)) fun j hj=>ha j (by omega) hj]at k
  exact k
theorem zJ (x:Str) (l:List (Str)) (hl:l.length<4611686018427387904) {v:AV}{h:ae}(r:Row (fun x:Str=>[T x]) 1 h v l) {Q:QT}(k:Q (B (l.any fun y=>decide (x=y))) h):C dh [v,T x] h Q:=by
 refine lu _ _ _ _ ?_
 unfold gk
 refine kG x l hl r ?_
 (repeat refine bL ?_)
 have:decide (0≤fC (fun y=>decide (x=y)) l)=l.any fun y=>decide (x=y):=by rw[Bool.eq_iff_iff,decide_eq_true_eq];exact Az _ l
 rw[this];exact k
theorem DD (x:Int) (l:List (Int)) (hl:l.length<4611686018427387904) {v:AV}{h:ae}(r:Row (fun x:Int=>[I x]) 1 h v l) {Q:QT}(k:Q (B (l.any fun y=>decide (x=y))) h):C bg [v,I x] h Q:=by
 refine ph _ _ _ _ ?_
 unfold ku
 refine Kr x l hl r ?_
 (repeat refine bL ?_)
 have:decide (0≤fC (fun y=>decide (x=y)) l)=l.any fun y=>decide (x=y):=by rw[Bool.eq_iff_iff,decide_eq_true_eq];exact Az _ l
 rw[this];exact k
theorem B4 {n:Nat}{cs:List AV}(hb:n*64≤1099511627776) {v:AV}{h:ae}(r:Rd h 5 v n cs) {Q:QT}(k:∀ h',Fr [] h h'→Q (.snap n cs) h'):C dA [v] h Q:=by
 refine ACall.conv ?_
 refine lM _ _ _ ?_
 unfold gM
 have hl:=r.len
 refine pF r (fun h0=>?_) ?_
 ·refine ah (fun _=>?_) (fun hb=>by cases hb)
  subst h0
  have:cs=[]:=by simpa using hl
  subst this
  exact eb (k _ (Fr.refl _ _))
 ·refine ah (fun hb=>by cases hb) (fun _=>?_)
  refine aB rfl rfl ?_
  refine qP (St.start h) r hb (fun h0=>?_) fun i h1 hn s=>?_
  ·subst h0
   have:cs=[]:=by simpa using hl
   subst this
   exact eb (k _ (Fr.refl _ _))
  ·exact o7 (s.get (.head _)) hl (k _ (s.kill .head).fr)
theorem Ah {n:Nat}{cs:List AV}(hb:n*32≤1099511627776) {v:AV}{h:ae}(r:Rd h 3 v n cs) {Q:QT}(k:∀ h',Fr [] h h'→Q (.snap n cs) h'):C c7 [v] h Q:=by
 refine ACall.conv ?_
 refine kY _ _ _ ?_
 unfold fV
 have hl:=r.len
 refine pF r (fun h0=>?_) ?_
 ·refine ah (fun _=>?_) (fun hb=>by cases hb)
  subst h0
  have:cs=[]:=by simpa using hl
  subst this
  exact eb (k _ (Fr.refl _ _))
 ·refine ah (fun hb=>by cases hb) (fun _=>?_)
  refine aB rfl rfl ?_
  refine qP (St.start h) r hb (fun h0=>?_) fun i h1 hn s=>?_
  ·subst h0
   have:cs=[]:=by simpa using hl
   subst this
   exact eb (k _ (Fr.refl _ _))
  ·exact o7 (s.get (.head _)) hl (k _ (s.kill .head).fr)
theorem Bn {n:Nat}{cs:List AV}(hb:n*80≤1099511627776) {v:AV}{h:ae}(r:Rd h 6 v n cs) {Q:QT}(k:∀ h',Fr [] h h'→Q (.snap n cs) h'):C cZ [v] h Q:=by
 refine ACall.conv ?_
 refine kS _ _ _ ?_
 unfold fU
 have hl:=r.len
 refine pF r (fun h0=>?_) ?_
 ·refine ah (fun _=>?_) (fun hb=>by cases hb)
  subst h0
  have:cs=[]:=by simpa using hl
  subst this
  exact eb (k _ (Fr.refl _ _))
 ·refine ah (fun hb=>by cases hb) (fun _=>?_)
  refine aB rfl rfl ?_
  refine qP (St.start h) r hb (fun h0=>?_) fun i h1 hn s=>?_
  ·subst h0
   have:cs=[]:=by simpa using hl
   subst this
   exact eb (k _ (Fr.refl _ _))
  ·exact o7 (s.get (.head _)) hl (k _ (s.kill .head).fr)
theorem rv {n:Nat}{cs:List AV}(hb:n*1≤1099511627776) {v:AV}{h:ae}(r:Rd h 1 v n cs) {Q:QT}(k:∀ h',Fr [] h h'→Q (.snap n cs) h'):C du [v] h Q:=by
 refine ACall.conv ?_
 refine qg _ _ _ ?_
 unfold lh
 have hl:=r.len
 refine pF r (fun h0=>?_) ?_
 ·refine ah (fun _=>?_) (fun hb=>by cases hb)
  subst h0
  have:cs=[]:=by simpa using hl
  subst this
  exact eb (k _ (Fr.refl _ _))
 ·refine ah (fun hb=>by cases hb) (fun _=>?_)
  refine aB rfl rfl ?_
  refine qP (St.start h) r hb (fun h0=>?_) fun i h1 hn s=>?_
  ·subst h0
   have:cs=[]:=by simpa using hl
   subst this
   exact eb (k _ (Fr.refl _ _))
  ·exact o7 (s.get (.head _)) hl (k _ (s.kill .head).fr)
theorem Ad {n:Nat}{cs:List AV}(hb:n*8≤1099511627776) {v:AV}{h:ae}(r:Rd h 1 v n cs) {Q:QT}(k:∀ h',Fr [] h h'→Q (.snap n cs) h'):C dV [v] h Q:=by
 refine ACall.conv ?_
 refine rT _ _ _ ?_
 unfold mC
 have hl:=r.len
 refine pF r (fun h0=>?_) ?_
 ·refine ah (fun _=>?_) (fun hb=>by cases hb)
  subst h0
  have:cs=[]:=by simpa using hl
  subst this
  exact eb (k _ (Fr.refl _ _))
 ·refine ah (fun hb=>by cases hb) (fun _=>?_)
  refine aB rfl rfl ?_
  refine qP (St.start h) r hb (fun h0=>?_) fun i h1 hn s=>?_
  ·subst h0
   have:cs=[]:=by simpa using hl
   subst this
   exact eb (k _ (Fr.refl _ _))
  ·exact o7 (s.get (.head _)) hl (k _ (s.kill .head).fr)
theorem DK {n:Nat}{cs:List AV}(hb:n*16≤1099511627776) {v:AV}{h:ae}(r:Rd h 1 v n cs) {Q:QT}(k:∀ h',Fr [] h h'→Q (.snap n cs) h'):C dR [v] h Q:=by
 refine ACall.conv ?_
 refine m3 _ _ _ ?_
 unfold im
 have hl:=r.len
 refine pF r (fun h0=>?_) ?_
 ·refine ah (fun _=>?_) (fun hb=>by cases hb)
  subst h0
  have:cs=[]:=by simpa using hl
  subst this
  exact eb (k _ (Fr.refl _ _))
 ·refine ah (fun hb=>by cases hb) (fun _=>?_)
  refine aB rfl rfl ?_
  refine qP (St.start h) r hb (fun h0=>?_) fun i h1 hn s=>?_
  ·subst h0
   have:cs=[]:=by simpa using hl
   subst this
   exact eb (k _ (Fr.refl _ _))
  ·exact o7 (s.get (.head _)) hl (k _ (s.kill .head).fr)
end
end Go.Proofs.YtbhphjpgjgigpaaGreatDoor.AL
namespace Go.Proofs.YtbhphjpgjgigpaaGreatDoor.AL
noncomputable section
variable [Tabs]
theorem GH (c:UInt8):c.toNat.toUInt8=c:=by simp
theorem Yx {l:Str}{c:UInt8}{K:AV→Prop}(k:K (I (Lib.indexByte l c))):Xr .index [T l,U8 c] K:=⟨by
 simp only[yX,Int.toNat_natCast,GH];exact k⟩
theorem Zm {l:Str}{c:UInt8}{K:AV→Prop}(k:K (I (l.count c:Nat))):Xr .count [T l,U8 c] K:=⟨by
 simp only[yX,Int.toNat_natCast,GH,Lib.countByte];exact k⟩
theorem Ki (l:Str) (c:UInt8) {h:ae}{Q:QT}(k:Q (I (Lib.indexByte l c)) h):C jd [T l,U8 c] h Q:=by
 refine xj _ _ _ _ ?_
 unfold qx
 refine rK _ _ _ _ ?_
 unfold my
 exact Yx k
theorem HZ (l:Str) (c:UInt8):0≤Lib.indexByte l c↔c∈l:=by
 induction l with
 | nil=>simp[Lib.indexByte]
 | cons b l ih=>
   unfold Lib.indexByte
   by_cases hb:b=c
   ·subst hb;simp
   ·have:(b==c)=false:=by simpa using hb
    rw[this]
    simp only[Bool.false_eq_true,if_false,List.mem_cons,← ih]
    have hge:=Lib.indexByte_ge l c
    split
    ·rename_i h;simp at h;rw[h];simp[Ne.symm hb]
    ·rename_i h;simp at h
     constructor
     ·intro _;right;omega
     ·rintro (h|h)
      ·exact (hb h.symm).elim
      ·omega
def bJ (c:UInt8):Str→List Str
 | []=>[[]]
 | x::l=>if x=c then []::bJ c l else match bJ c l with|[]=>[[x]]|p::ps=>(x::p)::ps
omit [Tabs] in
theorem i5 (c:UInt8):∀ l:Str,(bJ c l).length=l.count c+1
 | []=>rfl
 | x::l=>by
   have ih:=i5 c l
   unfold bJ
   by_cases hx:x=c
   ·subst hx;simp[ih]
   ·rw[if_neg hx,List.count_cons_of_ne (by simpa using hx)]
    cases h:bJ c l with
    | nil=>rw[h]at ih;simp at ih
    | cons p ps=>rw[h]at ih;simpa using ih
omit [Tabs] in
theorem Iu {c:UInt8}:∀ {l:Str},c∉l→bJ c l=[l]
 | [],_=>rfl
 | x::l,h=>by
   simp only[List.mem_cons,not_or]at h
   unfold bJ
   rw[if_neg (Ne.symm h.1),Iu h.2]
omit [Tabs] in
theorem zQ {c:UInt8}:∀ {a b:Str},c∉a→bJ c (a++c::b)=a::bJ c b
 | [],b,_=>by simp[bJ]
 | x::a,b,h=>by
   simp only[List.mem_cons,not_or]at h
   rw[List.cons_append,bJ,if_neg (Ne.symm h.1),zQ h.2]
omit [Tabs] in
theorem OM {c:UInt8}{l:Str}(h:c∉l):Lib.index l [c]=-1:=Lib.index_none fun j hj=>by
 unfold Lib.occAt
 rw[Bool.eq_false_iff];intro hp
 have:=List.isPrefixOf_iff_prefix.1 hp
 have hm:c∈l.drop j:=this.subset (by simp)
 exact h (List.mem_of_mem_drop hm)
omit [Tabs] in
theorem NN {c:UInt8}{a b:Str}(h:c∉a):Lib.index (a++c::b) [c]=a.length:=Lib.index_first (by simp) (by simp[Lib.occAt]) fun j hj=>by
 unfold Lib.occAt
 rw[Bool.eq_false_iff];intro hp
 have:=List.isPrefixOf_iff_prefix.1 hp
 rw[List.drop_append_of_le_length (by omega),List.drop_eq_getElem_cons hj]at this
 simp only[List.cons_append,List.cons_prefix_cons]at this
 exact h (this.1 ▸ List.getElem_mem _)
omit [Tabs] in
theorem Xf {c:UInt8}:∀ {l:Str},c∈l→∃ a b,l=a++c::b∧c∉a
 | [],h=>by simp at h
 | x::l,h=>by
   by_cases hx:x=c
   ·subst hx;exact⟨[],l,rfl,by simp⟩
   ·obtain⟨a,b,rfl,h2⟩:=Xf (l:=l) (by simpa [Ne.symm hx] using h)
    exact⟨x::a,b,rfl,by simp[Ne.symm hx,h2]⟩
def g6:Prop:=∀ (s sub:Str) (h:ae) (Q:QT),s.length<4294967281→Q (I (Lib.index s sub)) h→C jE [T s,T sub] h Q
theorem Cy (c:UInt8) (l:Str):0<(bJ c l).length:=by rw[i5];omega
theorem Oc (n:Nat):List.replicate n (T [])=(List.replicate n ([]:Str)).flatMap fun x=>[T x]:=by
 induction n with
 | zero=>rfl
 | succ n ih=>simp[List.replicate_succ,ih]
theorem Xu (l:List Str):(l.flatMap fun x=>[T x])=l.map T:=by induction l<;>simp_all
theorem zq {l:List Str}{k:Nat}{x:Str}(h:k<l.length):splice (l.flatMap fun x=>[T x]) k [T x]=(l.set k x).flatMap fun x=>[T x]:=by
 rw[Xu,Xu]
 apply List.ext_getElem?;intro j
 rw[dB (by simp;omega)]
 simp only[List.length_cons,List.length_nil,List.getElem?_map,List.getElem?_set]
 split
 ·rw[if_neg (by omega)]
 ·split
  ·have:j=k:=by omega
   subst this;simp[h]
  ·rw[if_neg (by omega)]
theorem IL (hI:g6) (c:UInt8) (l:Str) (hl:l.length<4000000000) {h:ae}{Q:QT}(k:∀ i h',St h [] h' [(i,true,.cells ((bJ c l).flatMap fun x=>[T x]))]→Q (.sl i 0 (bJ c l).length 1) h'):C gu [T l,T [c]] h Q:=by
 refine Cq _ _ _ _ ?_
 unfold yD
 refine xW _ _ _ _ _ _ ?_
 unfold sW
 (repeat (first|refine aJ ?_|refine aA ?_|refine aV ?_))
 refine Cr _ _ _ _ ?_
 unfold yw
 (repeat (first|refine bf ?_|refine aA ?_))
 refine ah (fun _=>?_) (fun hb=>(by exfalso;first|(simp at hb;done)|(simp at hb;omega)|(revert hb;decide)|omega))
 refine bP (l:=[c]) (i:=0) (by simp) ?_
 refine Zm (c:=c) ?_
 have hcnt:=List.count_le_length (a:=c) (l:=l)
 have hsl:=i5 c l
 (repeat (first|refine bf ?_|refine aI (by omega) ?_|refine Qz ?_))
 have e1:min ((l.count c:Int)+1) ((l.length:Int)+1)=((bJ c l).length:Nat):=by rw[hsl];omega
 rw[e1]
 refine Aw (St.start h) (Nat.le_refl _) (by omega) (by omega) fun i h1 s=>?_
 have s:St h [] h1 [(i,true,.cells (List.replicate (bJ c l).length (T [])))]:=s
 rw[Oc]at s
 refine cw (by omega) ?_
 have e2:((bJ c l).length:Int)-1=(((bJ c l).length-1:Nat):Int):=by have:=Cy c l;omega
 rw[e2]
 refine aP (fun n vs h'=>∃ (m:Nat) (r:Str) (ps:List Str),vs=[T r,I (m:Nat)]∧r.length≤l.length∧n+m=(bJ c l).length∧ps.length=m∧bJ c l=ps++bJ c r∧St h [] h' [(i,true,.cells ((ps++List.replicate n []).flatMap fun x=>[T x]))]) (bJ c l).length ⟨0,l,[],rfl,Nat.le_refl _,by omega,rfl,rfl,by simpa using s⟩ ?_
 rintro n vs h' ⟨m,r,ps,rfl,hr,hn,hps,hsp,s1⟩
 have hne:=Cy c r
 have hrl:=i5 c r
 have hlen:(bJ c l).length=m+(bJ c r).length:=by rw[hsp];simp[hps]
 have fin:c∉r→fX (T r) (I (m:Nat)) (.sl i 0 (bJ c l).length 1) h' Q:=by
  intro hc
  rw[Iu hc]at hlen hsp
  simp at hlen
  have hn1:n=1:=by omega
  subst hn1
  unfold fX oH
  have R:Rd h' 1 (.sl i 0 (bJ c l).length 1) (bJ c l).length ((ps++List.replicate 1 []).flatMap fun x=>[T x]):=by
   have:=Rd.sl (sz:=1) (n:=(bJ c l).length) (o:=0) (s1.get (.head _)) (by rw[gz _ 1 (fun _=>rfl)];simp;omega)
   rwa [List.drop_zero,List.take_of_length_le (by rw[gz _ 1 (fun _=>rfl)];simp;omega)]at this
  refine D7 (by omega) ?_
  rw[Nat.mul_one]
  refine ay s1 .head rfl rfl rfl (by rw[gz _ 1 (fun _=>rfl)];simp;omega) fun h2 s2=>?_
  rw[show (T r).cells=[T r] from rfl,zq (by simp;omega)]at s2
  refine aI (by omega) ?_
  refine VW (by omega) (by omega) ?_
  have e3:(ps++List.replicate 1 []).set m r=bJ c l:=by
   rw[hsp,List.set_append_right _ _ (by omega),hps];simp
  rw[e3]at s2
  have e5:((m:Int)+1).toNat=(bJ c l).length:=by rw[hsp];simp[hps]
  rw[e5]
  exact k _ _ s2
 unfold oO
 (repeat refine aJ ?_)
 refine ah (fun hb=>?_) (fun hb=>?_)<;>simp only[za,zb,zc,zd,ze,zf,zg,zh,zi,u8i,zj,zk,zl]at hb
 ·refine hI r [c] _ _ (by omega) ?_
  by_cases hc:c∈r
  ·obtain⟨a,b,rfl,ha⟩:=Xf hc
   rw[NN ha]
   (repeat refine aJ ?_)
   refine ah (fun hb=>(by exfalso;first|(simp at hb;done)|(simp at hb;omega)|(revert hb;decide)|omega)) (fun _=>?_)
   refine aI (by simp at hr;omega) ?_
   have e3:((a.length:Int)+0)=(a.length:Nat):=by omega
   rw[e3]
   refine pk (by omega) (by simp;omega) ?_
   rw[Int.toNat_natCast,List.take_left]
   rw[zQ ha]at hlen
   have hnp:=Cy c b
   refine D7 (by simp at hlen;omega) ?_
   rw[Nat.mul_one]
   refine ay s1 .head rfl rfl rfl (by rw[gz _ 1 (fun _=>rfl)];simp;omega) fun h2 s2=>?_
   rw[show (T a).cells=[T a] from rfl,zq (by simp;omega)]at s2
   refine bf ?_
   refine aI (by simp at hr ⊢;omega) ?_
   have e4:((a.length:Int)+(([c]:Str).length:Nat))=((a.length+1:Nat):Int):=by simp
   rw[e4]
   refine gY (by omega) (by simp;omega) ?_
   rw[Int.toNat_natCast,show a.length+1=(a++[c]).length by simp,show a++c::b=(a++[c])++b by simp,List.drop_left]
   (repeat refine aI (by omega) ?_)
   rw[zQ ha]at hsp
   simp at hlen
   refine⟨n-1,by omega,m+1,b,ps++[a],rfl,by simp at hr;omega,by omega,by simp[hps],by rw[hsp];simp,?_⟩
   have e5:(ps++List.replicate n []).set m a=ps++[a]++List.replicate (n-1) []:=by
    rw[List.set_append_right _ _ (by omega),hps,Nat.sub_self]
    obtain⟨q,rfl⟩:∃ q,n=q+1:=⟨n-1,by omega⟩
    simp[List.replicate_succ]
   rw[e5]at s2;exact s2
  ·rw[OM hc]
   (repeat refine aJ ?_)
   refine ah (fun _=>?_) (fun hb=>(by exfalso;first|(simp at hb;done)|(simp at hb;omega)|(revert hb;decide)|omega))
   exact fin hc
 ·refine fin fun hc=>?_
  have:0<r.count c:=List.count_pos_iff.2 hc
  simp[ap]at hb
  omega
theorem Vu (hI:g6) (c:UInt8) (l:Str) (hl:l.length<4000000000) {h:ae}{Q:QT}(k:∀ h',Fr [] h h'→Q (.snap (bJ c l).length ((bJ c l).flatMap fun x=>[T x])) h'):C gu [T l,T [c]] h Q:=by
 refine ACall.conv ?_
 refine IL hI c l hl fun i h' s=>?_
 exact o7 (s.get (.head _)) (gz _ 1 (fun _=>rfl) _) (k _ (s.kill .head).fr)
end
end Go.Proofs.YtbhphjpgjgigpaaGreatDoor.AL
namespace Go.Proofs.YtbhphjpgjgigpaaGreatDoor.AL
noncomputable section
structure Rw where
 name:List UInt8
 bits:Nat
 kinds:List UInt8
def tbl:List Rw:=[
 ⟨[115,101,95,105,108,108,101,103,97,108],0,[]⟩,
 ⟨[115,101,95,105,115,121,110,99],1,[]⟩,
 ⟨[115,101,95,115,99],2,[]⟩,
 ⟨[115,101,95,98,108,114],4,[]⟩,
 ⟨[115,101,95,98,99,116,114],6,[]⟩,
 ⟨[115,101,95,110,111,116],32,[88]⟩,
 ⟨[115,101,95,110,101,103],48,[88]⟩,
 ⟨[115,101,95,109,102,108,114],128,[88]⟩,
 ⟨[115,101,95,109,116,108,114],144,[88]⟩,
 ⟨[115,101,95,109,102,99,116,114],160,[88]⟩,
 ⟨[115,101,95,109,116,99,116,114],176,[88]⟩,
 ⟨[115,101,95,101,120,116,122,98],192,[88]⟩,
 ⟨[115,101,95,101,120,116,115,98],208,[88]⟩,
 ⟨[115,101,95,101,120,116,122,104],224,[88]⟩,
 ⟨[115,101,95,101,120,116,115,104],240,[88]⟩,
 ⟨[115,101,95,109,114],256,[88,32,89]⟩,
 ⟨[115,101,95,97,100,100],1024,[88,32,89]⟩,
 ⟨[115,101,95,109,117,108,108,119],1280,[88,32,89]⟩,
 ⟨[115,101,95,115,117,98],1536,[88,32,89]⟩,
 ⟨[115,101,95,99,109,112],3072,[88,32,89]⟩,
 ⟨[115,101,95,99,109,112,108],3328,[88,32,89]⟩,
 ⟨[115,101,95,97,100,100,105],8192,[88,32,79,53]⟩,
 ⟨[115,101,95,99,109,112,108,105],8704,[88,32,79,53]⟩,
 ⟨[115,101,95,115,117,98,105],9216,[88,32,79,53]⟩,
 ⟨[115,101,95,99,109,112,105],10752,[88,32,85,53]⟩,
 ⟨[115,101,95,111,114],17408,[88,32,89]⟩,
 ⟨[115,101,95,97,110,100,99],17664,[88,32,89]⟩,
 ⟨[115,101,95,97,110,100],17920,[88,32,89]⟩,
 ⟨[115,101,95,108,105],18432,[88,32,85,55]⟩,
 ⟨[115,101,95,98,99,108,114,105],24576,[88,32,85,53]⟩,
 ⟨[115,101,95,98,115,101,116,105],25600,[88,32,85,53]⟩,
 ⟨[115,101,95,98,116,115,116,105],26112,[88,32,85,53]⟩,
 ⟨[115,101,95,115,114,119,105],26624,[88,32,85,53]⟩,
 ⟨[115,101,95,115,108,119,105],27648,[88,32,85,53]⟩,
 ⟨[115,101,95,108,98,122],32768,[89,32,77,49,32,88]⟩,
 ⟨[115,101,95,115,116,98],36864,[89,32,77,49,32,88]⟩,
 ⟨[115,101,95,108,104,122],40960,[89,32,77,50,32,88]⟩,
 ⟨[115,101,95,115,116,104],45056,[89,32,77,50,32,88]⟩,
 ⟨[115,101,95,108,119,122],49152,[89,32,77,52,32,88]⟩,
 ⟨[115,101,95,115,116,119],53248,[89,32,77,52,32,88]⟩,
 ⟨[115,101,95,98,99],57344,[79,49,32,73,50,32,84,56]⟩,
 ⟨[115,101,95,98],59392,[84,56]⟩,
 ⟨[115,101,95,98,108],59648,[84,56]⟩,
 ⟨[101,95,97,100,100,49,54,105],469762048,[68,32,65,32,83,49,54]⟩,
 ⟨[101,95,97,100,100,105],402685952,[68,32,65,32,67,56]⟩,
 ⟨[101,95,97,110,100,105],402702336,[65,32,68,32,67,56]⟩,
 ⟨[101,95,111,114,105],402706432,[65,32,68,32,67,56]⟩,
 ⟨[101,95,120,111,114,105],402710528,[65,32,68,32,67,56]⟩,
 ⟨[101,95,108,105],1879048192,[68,32,76,50,48]⟩,
 ⟨[101,95,108,98,122],805306368,[68,32,83,49,54,32,65]⟩,
 ⟨[101,95,115,116,98],872415232,[68,32,83,49,54,32,65]⟩,
 ⟨[101,95,108,104,97],939524096,[68,32,83,49,54,32,65]⟩,
 ⟨[101,95,108,119,122],1342177280,[68,32,83,49,54,32,65]⟩,
 ⟨[101,95,115,116,119],1409286144,[68,32,83,49,54,32,65]⟩,
 ⟨[101,95,108,104,122],1476395008,[68,32,83,49,54,32,65]⟩,
 ⟨[101,95,115,116,104],1543503872,[68,32,83,49,54,32,65]⟩,
 ⟨[101,95,98],2013265920,[84,50,52]⟩,
 ⟨[101,95,98,108],2013265921,[84,50,52]⟩,
 ⟨[101,95,98,99],2046820352,[79,50,32,73,52,32,84,49,53]⟩,
 ⟨[101,95,98,99,108],2046820353,[79,50,32,73,52,32,84,49,53]⟩,
 ⟨[97,100,100],2080375316,[68,32,65,32,66]⟩,
 ⟨[115,117,98,102],2080374864,[68,32,65,32,66]⟩,
 ⟨[109,117,108,108,119],2080375254,[68,32,65,32,66]⟩,
 ⟨[97,110,100],2080374840,[65,32,68,32,66]⟩,
 ⟨[111,114],2080375672,[65,32,68,32,66]⟩,
 ⟨[120,111,114],2080375416,[65,32,68,32,66]⟩]
def kindsL:List (List UInt8×List (List UInt8)):=[
 ([],[]),
 ([88],[[88]]),
 ([88,32,89],[[88],[89]]),
 ([88,32,79,53],[[88],[79,53]]),
 ([88,32,85,53],[[88],[85,53]]),
 ([88,32,85,55],[[88],[85,55]]),
 ([89,32,77,49,32,88],[[89],[77,49],[88]]),
 ([89,32,77,50,32,88],[[89],[77,50],[88]]),
 ([89,32,77,52,32,88],[[89],[77,52],[88]]),
 ([79,49,32,73,50,32,84,56],[[79,49],[73,50],[84,56]]),
 ([84,56],[[84,56]]),
 ([68,32,65,32,83,49,54],[[68],[65],[83,49,54]]),
 ([68,32,65,32,67,56],[[68],[65],[67,56]]),
 ([65,32,68,32,67,56],[[65],[68],[67,56]]),
 ([68,32,76,50,48],[[68],[76,50,48]]),
 ([68,32,83,49,54,32,65],[[68],[83,49,54],[65]]),
 ([84,50,52],[[84,50,52]]),
 ([79,50,32,73,52,32,84,49,53],[[79,50],[73,52],[84,49,53]]),
 ([68,32,65,32,66],[[68],[65],[66]]),
 ([65,32,68,32,66],[[65],[68],[66]])]
end
end Go.Proofs.YtbhphjpgjgigpaaGreatDoor.AL
set_option exponentiation.threshold 2000
namespace Go.Proofs.YtbhphjpgjgigpaaGreatDoor.AL
noncomputable section
open Ieee
theorem Of {m:Nat}(h:m≠0):2^m.log2≤m∧m<2^(m.log2+1):=⟨Nat.log2_self_le h,Nat.lt_log2_self⟩
theorem P8 {neg:Bool}{m:Nat}(h0:m≠0) (h1:m<2^53):double.read (double.nearest neg m 0)=.number neg (m*2^(52-m.log2)) ((m.log2:Int)-52):=by
 obtain⟨hl,hu⟩:=Of h0
 have hL:m.log2≤52:=by
  have:m.log2<53:=(Nat.log2_lt h0).2 h1
  omega
 generalize hLe:m.log2=L at *
 have hp:2^L*2^(52-L)=2^52:=by rw[← Nat.pow_add];congr 1;omega
 have hp2:2^(L+1)*2^(52-L)=2^53:=by rw[← Nat.pow_add];congr 1;omega
 have hpos:0<2^(52-L):=Nat.two_pow_pos _
 have n1:2^52≤m*2^(52-L):=by rw[← hp];exact Nat.mul_le_mul_right _ hl
 have n2:m*2^(52-L)<2^53:=by rw[← hp2];exact Nat.mul_lt_mul_of_pos_right hu hpos
 generalize hn:m*2^(52-L)=n at *
 have hlast:max ((0:Int)+(L:Int)-(double.fractionBits:Int)) double.leastPlace=(L:Int)-52:=by
  show max ((0:Int)+(L:Int)-((52:Nat):Int)) (2-2^(11-1)-((52:Nat):Int))=_
  have:(2:Int)^(11-1)=1024:=by decide
  omega
 have hne:double.nearest neg m 0=double.word neg ((L+1022)*2^52+n):=by
  unfold Format.nearest
  rw[if_neg h0,hLe]
  simp only[hlast]
  have e1:((0:Int)-((L:Int)-52)).toNat=52-L:=by omega
  have e2:((L:Int)-52-0).toNat=0:=by omega
  have e3:((L:Int)-52-double.leastPlace).toNat=L+1022:=by
   have:double.leastPlace=-1074:=by decide
   omega
  have e4:Toward.even.cut neg (m <<< (52-L)) 0=n:=by
   rw[Nat.shiftLeft_eq,hn]
   unfold Toward.cut
   simp
   omega
  rw[e1,e2,e3,e4]
  have e5:double.binade=2^52:=rfl
  have e6:double.infRung=2047*2^52:=by decide
  rw[e5,e6,Nat.min_eq_left]
  omega
 rw[hne]
 have s1:double.signWeight=2^63:=by decide
 have e5:double.binade=2^52:=rfl
 have e6:double.infRung=2047*2^52:=by decide
 have e7:double.leastPlace=-1074:=by decide
 have hw:(double.word neg ((L+1022)*2^52+n)) / 2^63%2=neg.toNat∧(double.word neg ((L+1022)*2^52+n))%2^63=(L+1022)*2^52+n:=by
  unfold Format.word
  rw[s1]
  cases neg<;>simp<;>omega
 unfold Format.read
 simp only[s1,hw.1,hw.2,e5,e6,e7]
 rw[if_neg (by omega),if_pos (by omega)]
 congr 1
 ·cases neg<;>rfl
 ·omega
 ·omega
theorem AB {topE:Nat}(hE:topE=1074) (a:Int) (h:a.natAbs<2^53):∃ s m i,double.read (FloatKind.f64.nearest a)=.number s m i∧-1074≤i∧i≤0∧(if s=true then -((m:Int)*2^(i+topE).toNat) else (m:Int)*2^(i+topE).toNat)=a*2^topE:=by
 by_cases h0:a.natAbs=0
 ·have:a=0:=by omega
  subst this
  exact⟨false,0,-1074,by decide,by omega,by omega,by simp⟩
 ·refine⟨decide (a<0),_,_,P8 h0 h,?_,?_,?_⟩
  ·omega
  ·have:a.natAbs.log2<53:=(Nat.log2_lt h0).2 h
   omega
  ·have hL:a.natAbs.log2<53:=(Nat.log2_lt h0).2 h
   generalize a.natAbs.log2=L at *
   have e1:((L:Int)-52+topE).toNat=L+1022:=by omega
   have e2:((a.natAbs*2^(52-L):Nat):Int)*2^((L:Int)-52+topE).toNat=(a.natAbs:Int)*2^topE:=by
    rw[e1,Int.natCast_mul,Int.mul_assoc,Int.natCast_pow,show ((2:Nat):Int)=2 from rfl,← Int.pow_add]
    rw[show 52-L+(L+1022)=topE by omega]
   rw[e2]
   generalize (2:Int)^1074=X
   by_cases hn:a<0
   ·rw[if_pos (by simpa using hn),← Int.neg_mul,show -(a.natAbs:Int)=a by omega]
   ·rw[if_neg (by simpa using hn),show (a.natAbs:Int)=a by omega]
theorem RT {a b c:Int}(hc:0<c):compare (a*c) (b*c)=compare a b:=by
 simp only[compare,compareOfLessAndEq]
 by_cases h1:a<b
 ·rw[if_pos h1,if_pos ((Int.mul_lt_mul_right hc).2 h1)]
 ·rw[if_neg h1,if_neg (fun h=>h1 ((Int.mul_lt_mul_right hc).1 h))]
  by_cases h2:a=b
  ·subst h2;simp
  ·rw[if_neg h2,if_neg (fun h=>h2 (Int.eq_of_mul_eq_mul_right (by omega) h))]
theorem II (s:Bool) (m a b:Nat):signed s m a*2^b=if s=true then -((m:Int)*2^(a+b)) else (m:Int)*2^(a+b):=by
 have h:((m <<< a:Nat):Int)*2^b=(m:Int)*2^(a+b):=by
  rw[Nat.shiftLeft_eq,Int.natCast_mul,Int.natCast_pow,Int.mul_assoc,Int.pow_add];rfl
 unfold signed
 cases s
 ·simpa using h
 ·simp only[if_true];rw[Int.neg_mul,h]
theorem yp (a b:Int) (ha:a.natAbs<2^53) (hb:b.natAbs<2^53):FloatKind.f64.format.order (FloatKind.f64.nearest a) (FloatKind.f64.nearest b)=some (compare a b):=by
 obtain⟨topE,hE⟩:∃ E,E=1074:=⟨_,rfl⟩
 obtain⟨s,m,i,h1,h2,h3,h4⟩:=AB hE a ha
 obtain⟨t,n,j,k1,k2,k3,k4⟩:=AB hE b hb
 show (double.read (FloatKind.f64.nearest a)).order (double.read (FloatKind.f64.nearest b))=_
 rw[h1,k1]
 simp only[Datum.order]
 congr 1
 have hp:∀ n:Nat,(0:Int)<2^n:=fun n=>Int.pow_pos (by decide)
 rw[← RT (hp (min i j+topE).toNat),II,II]
 rw[show (i-min i j).toNat+(min i j+topE).toNat=(i+topE).toNat by omega,show (j-min i j).toNat+(min i j+topE).toNat=(j+topE).toNat by omega,h4,k4]
 exact RT (hp topE)
end
end Go.Proofs.YtbhphjpgjgigpaaGreatDoor.AL
namespace Go.Proofs.YtbhphjpgjgigpaaGreatDoor.AL
noncomputable section
variable [Tabs]
def Gl (r:Rw):List AV:=[T r.name,.lit (.int .u32 r.bits),T r.kinds]
theorem vI (r:Rw):(Gl r).length=3:=rfl
set_option maxHeartbeats 4000000 in
theorem AH {h:ae}{Q:QT}(k:Q (.full tbl.length (tbl.flatMap Gl)) h):C jx [] h Q:=by
 refine JQ _ _ ?_
 unfold Jv
 (repeat (first|refine aD rfl ?_|refine aB rfl rfl ?_))
 exact k
theorem D6 (h:ae):Row Gl 3 h (.full tbl.length (tbl.flatMap Gl)) tbl:=Row.full vI tbl
def mK (s:Str):Option Nat:=tbl.findIdx? fun r=>decide (r.name=s)
theorem Ro (s:Str) {h:ae}{Q:QT}(k:∀ h',Fr [] h h'→Q (.tup [I (((mK s).getD 0:Nat):Int),B (mK s).isSome]) h'):C qu [T s] h Q:=by
 refine NL _ _ _ ?_
 unfold N9
 refine bW (St.start h) rfl fun i h1 s1=>?_
 refine AH ?_
 refine v6 vI _ (fun r=>decide (r.name=s)) tbl (by decide) (D6 h1) (fun x hx h2 Q f2 kq=>?_) fun h2 f2=>?_
 ·show ACall Pg rZ _ _ _
  refine Hg _ _ _ _ ?_
  unfold FX
  have s2:=St.startr (f2.get (s1.get (.head _)) (by simp))
  refine bW s2 rfl fun j h3 s3=>?_
  (repeat (first|refine aj ?_|refine aV ?_|refine af ‹_› (by first|exact .head _|exact .tail _ (.head _)) rfl ?_))
  exact kq _ s3.fr
 ·(repeat (first|refine bL ?_|refine FT ?_))
  have e1:max (fC (fun r=>decide (r.name=s)) tbl) 0=(((mK s).getD 0:Nat):Int):=by
   unfold fC mK
   cases tbl.findIdx? fun r=>decide (r.name=s) with
   | none=>rfl
   | some i=>simp
  have e2:decide (0≤fC (fun r=>decide (r.name=s)) tbl)=(mK s).isSome:=by
   unfold fC mK
   cases tbl.findIdx? fun r=>decide (r.name=s) with
   | none=>rfl
   | some i=>simp
  rw[e1,e2]
  exact k _ ((s1.call f2).fr)
end
end Go.Proofs.YtbhphjpgjgigpaaGreatDoor.AL
namespace Go.Proofs.YtbhphjpgjgigpaaGreatDoor.AL
noncomputable section
variable [Tabs]
def cD:Prop:=∀ p∈kindsL,∀ (h:ae) (Q:QT),Q (.snap p.2.length (p.2.flatMap fun x=>[T x])) h→C ef [T p.1] h Q
def dL:Prop:=∀ b∈[8,15,19,24],∀ (h:ae) (Q:QT),Q (.lit (.float .f64 (FloatKind.f64.nearest (2^b:Nat)))) h→C sw [.lit (.float .f64 4607182418800017408),I (b:Nat)] h Q
def cK (k:Str):List Str:=((kindsL.find? fun p=>decide (p.1=k)).map (·.2)).getD []
omit [Tabs] in
theorem S2:∀ r∈tbl,(r.kinds,cK r.kinds)∈kindsL:=by decide
theorem B9 (hF:cD) {r:Rw}(hr:r∈tbl) {h:ae}{Q:QT}(k:Q (.snap (cK r.kinds).length ((cK r.kinds).flatMap fun x=>[T x])) h):C ef [T r.kinds] h Q:=hF _ (S2 r hr) h Q k
abbrev Gq (op:Nat):Str:=(tbl[op]?.map (·.name)).getD []
abbrev bj (op:Nat):Str:=(tbl[op]?.map (·.kinds)).getD []
abbrev Kn (op:Nat):Nat:=(tbl[op]?.map (·.bits)).getD 0
theorem XK (r:Rw) {h:ae}{Q:QT}(k:∀ h',Fr [] h h'→Q (T r.name) h'):C mW [.agg (Gl r)] h Q:=by
 refine BJ _ _ _ ?_
 unfold yJ
 refine bW (St.start h) rfl fun i h1 s1=>?_
 (repeat (first|refine aj ?_|refine af ‹_› (.head _) rfl ?_))
 exact k _ s1.fr
theorem OV (r:Rw) {h:ae}{Q:QT}(k:∀ h',Fr [] h h'→Q (T r.kinds) h'):C jK [.agg (Gl r)] h Q:=by
 refine xS _ _ _ ?_
 unfold sO
 refine bW (St.start h) rfl fun i h1 s1=>?_
 (repeat (first|refine aj ?_|refine af ‹_› (.head _) rfl ?_))
 exact k _ s1.fr
theorem YL (r:Rw) {h:ae}{Q:QT}(k:∀ h',Fr [] h h'→Q (.lit (.int .u32 r.bits)) h'):C nA [.agg (Gl r)] h Q:=by
 refine HU _ _ _ ?_
 unfold FM
 refine bW (St.start h) rfl fun i h1 s1=>?_
 (repeat (first|refine aj ?_|refine af ‹_› (.head _) rfl ?_))
 exact k _ s1.fr
theorem Ym (hF:cD) {r:Rw}(hr:r∈tbl) {h:ae}{Q:QT}(k:∀ h',Fr [] h h'→Q (.snap (cK r.kinds).length ((cK r.kinds).flatMap fun x=>[T x])) h'):C kK [.agg (Gl r)] h Q:=by
 refine DZ _ _ _ ?_
 unfold Bj
 refine bW (St.start h) rfl fun i h1 s1=>?_
 (repeat (first|refine aj ?_|refine af ‹_› (.head _) rfl ?_))
 refine B9 hF hr ?_
 exact k _ s1.fr
theorem XV {op:Nat}(ho:op<tbl.length) (fv:AV) {h:ae}{Q:QT}(k:CV fv [.agg (Gl tbl[op])] h Q):C jr [I (op:Nat),fv] h Q:=by
 refine CJ _ _ _ _ ?_
 unfold yP
 refine AH ?_
 (repeat (first|refine d6 ?_|refine aJ ?_|refine bL ?_))
 refine ah (fun _=>?_) (fun hb=>(by exfalso;first|(simp at hb;done)|(simp at hb;omega)|(revert hb;decide)|omega))
 refine (D6 h).idx vI ho fun p t=>?_
 refine aR t rfl ?_
 exact k
theorem aaK {op:Nat}(ho:op<tbl.length) (fv:AV) {h:ae}{Q:QT}(k:CV fv [.agg (Gl tbl[op])] h Q):C m9 [I (op:Nat),fv] h Q:=by
 refine CI _ _ _ _ ?_
 unfold yc
 refine AH ?_
 (repeat (first|refine d6 ?_|refine aJ ?_|refine bL ?_))
 refine ah (fun _=>?_) (fun hb=>(by exfalso;first|(simp at hb;done)|(simp at hb;omega)|(revert hb;decide)|omega))
 refine (D6 h).idx vI ho fun p t=>?_
 refine aR t rfl ?_
 exact k
theorem aax {op:Nat}(ho:op<tbl.length) (fv:AV) {h:ae}{Q:QT}(k:CV fv [.agg (Gl tbl[op])] h Q):C lS [I (op:Nat),fv] h Q:=by
 refine Av _ _ _ _ ?_
 unfold wQ
 refine AH ?_
 (repeat (first|refine d6 ?_|refine aJ ?_|refine bL ?_))
 refine ah (fun _=>?_) (fun hb=>(by exfalso;first|(simp at hb;done)|(simp at hb;omega)|(revert hb;decide)|omega))
 refine (D6 h).idx vI ho fun p t=>?_
 refine aR t rfl ?_
 exact k
omit [Tabs] in
theorem CO {op:Nat}(ho:op<tbl.length):Gq op=tbl[op].name:=by simp[Gq,ho]
omit [Tabs] in
theorem iR {op:Nat}(ho:op<tbl.length):bj op=tbl[op].kinds:=by simp[bj,ho]
omit [Tabs] in
theorem ST {op:Nat}(ho:op<tbl.length):Kn op=tbl[op].bits:=by simp[Kn,ho]
theorem Ru {op:Nat}(ho:op<tbl.length) {h:ae}{Q:QT}(k:∀ h',Fr [] h h'→Q (T (Gq op)) h'):C ri [I (op:Nat)] h Q:=by
 refine N7 _ _ _ ?_
 unfold Mz
 refine XV ho _ ?_
 rw[CO ho]at k
 exact XK _ k
theorem L9 {op:Nat}(ho:op<tbl.length) {h:ae}{Q:QT}(k:∀ h',Fr [] h h'→Q (T (bj op)) h'):C pq [I (op:Nat)] h Q:=by
 refine LJ _ _ _ ?_
 unfold Ip
 refine XV ho _ ?_
 rw[iR ho]at k
 exact OV _ k
def l7 (op:Nat):Nat:=if op<43 then 2 else 4
omit [Tabs] in
theorem Sq:∀ r∈tbl,r.name≠[]:=by decide
theorem Rf {op:Nat}(ho:op<tbl.length) {h:ae}{Q:QT}(k:∀ h',Fr [] h h'→Q (I (l7 op:Nat)) h'):C qS [I (op:Nat)] h Q:=by
 refine L0 _ _ _ ?_
 unfold Nn
 refine Ru ho fun h1 f1=>?_
 (repeat refine aV ?_)
 have hn:Gq op≠[]:=by rw[CO ho];exact Sq _ (by simp)
 refine ah (fun hb=>absurd (by simpa using hb) hn) (fun _=>?_)
 (repeat refine aJ ?_)
 refine ah (fun hb=>?_) (fun hb=>?_)<;>simp only[za,zb,zc,zd,ze,zf,zg,zh,zi,u8i,zj,zk,zl]at hb
 ·have:=k h1 f1
  rw[l7,if_pos (by omega)]at this;exact this
 ·have:=k h1 f1
  rw[l7,if_neg (by omega)]at this;exact this
abbrev DP (k:IntKind) (a b:Int):Int:=k.wrap ((BitVec.ofInt k.bits a &&& BitVec.ofInt k.bits b).toNat:Int)
abbrev orI (k:IntKind) (a b:Int):Int:=k.wrap ((BitVec.ofInt k.bits a ||| BitVec.ofInt k.bits b).toNat:Int)
abbrev Ke (k:IntKind) (a:Int) (n:Nat):Int:=k.wrap (a*2^(min n k.bits))
abbrev Lp (k:IntKind) (a:Int) (n:Nat):Int:=a.fdiv (2^(min n k.bits))
theorem Oq (v:Int) {h:ae}{Q:QT}(k:Q (.tup [I (DP .i64 (Lp .i64 v 16) 15),I (DP .i64 (Lp .i64 v 11) 31),I (DP .i64 v 2047)]) h):C tO [I v] h Q:=by
 refine Kz _ _ _ ?_
 unfold H3
 refine wO (by omega) ?_
 refine pa ?_
 refine wO (by omega) ?_
 refine pa ?_
 refine pa ?_
 exact k
def ZH (v:Int) (b:Nat):Int:=Lp .i64 (Ke .i64 v (64-b)) (64-b)
theorem Y9 (v:Int) (b:Nat) (h1:1≤b) (h2:b≤64) {h:ae}{Q:QT}(k:Q (I (ZH v b)) h):C vK [I v,I (b:Nat)] h Q:=by
 refine MO _ _ _ _ ?_
 unfold Mt
 refine FT ?_
 refine Qz ?_
 have e:min (max (b:Int) 1) 64=(b:Int):=by omega
 rw[e]
 refine cw (by omega) ?_
 refine jR (by omega) ?_
 refine wO (by omega) ?_
 have e2:((64:Int)-(b:Int)).toNat=64-b:=by omega
 rw[e2]
 exact k
def M9 (f s ui v k:Int):Int:=orI .i64 (Ke .i64 v 8) (if k=s then DP .i64 ui 255 else if f=1 then 255 else 0)
def I3 (f s ui:Int):Int:=ZH (M9 f s ui (M9 f s ui (M9 f s ui (M9 f s ui 0 3) 2) 1) 0) 32
theorem ux (f s ui v:Int) (k:Int) (hk:0≤k) (hk2:k<10) (Q:QT) {h:ae}(next:NT) (q:next [I (M9 f s ui v k),I (k-1)] h):qB (I f) (I s) (I ui) Q [I v,I k] h next:=by
 unfold qB
 refine bL ?_
 refine ah (fun _=>?_) (fun hb=>absurd hb (by simpa [ap] using hk))
 have fin:∀ b,b=(if k=s then DP .i64 ui 255 else if f=1 then 255 else 0)→qY (I b) (I v) (I k) h next:=by
  intro b hb
  unfold qY
  refine jR (by omega) ?_
  refine tK ?_
  refine cw (by omega) ?_
  subst hb
  exact q
 have mid:∀ b,b=(if f=1 then (255:Int) else 0)→qD (I b) (I v) (I k) (I s) (I ui) h next:=by
  intro b hb
  unfold qD
  refine aA ?_
  refine ah (fun hc=>?_) (fun hc=>?_)<;>simp only[za,zb,zc,zd,ze,zf,zg,zh,zi,u8i,zj,zk,zl]at hc
  ·refine pa ?_
   exact fin _ (by rw[if_pos hc])
  ·exact fin _ (by rw[if_neg hc,hb])
 refine aA ?_
 refine ah (fun hc=>?_) (fun hc=>?_)<;>simp only[za,zb,zc,zd,ze,zf,zg,zh,zi,u8i,zj,zk,zl]at hc
 ·exact mid _ (by rw[if_pos hc])
 ·exact mid _ (by rw[if_neg hc])
theorem YF (f s ui:Int) {h:ae}{Q:QT}(k:Q (I (I3 f s ui)) h):C vT [I f,I s,I ui] h Q:=by
 refine OF _ _ _ _ _ ?_
 unfold No
 refine Af 5 ?_
 refine qJ (ux f s ui 0 3 (by omega) (by omega) _ _ (qQ ?_))
 refine qJ (ux f s ui _ 2 (by omega) (by omega) _ _ (qQ ?_))
 refine qJ (ux f s ui _ 1 (by omega) (by omega) _ _ (qQ ?_))
 refine qJ (ux f s ui _ 0 (by omega) (by omega) _ _ (qQ ?_))
 refine qJ ?_
 unfold qB
 refine bL ?_
 refine ah (fun hb=>absurd hb (by simp[ap])) (fun _=>?_)
 exact Y9 _ 32 (by omega) (by omega) k
theorem aa9 (f s ui:Int) {h:ae}{Q:QT}(k:∀ h',Fr [] h h'→Q (I (I3 f s ui)) h'):C iX [.agg [I f,I s],I ui] h Q:=by
 refine F5 _ _ _ _ ?_
 unfold Dq
 refine bW (St.start h) rfl fun i h1 s1=>?_
 (repeat (first|refine aj ?_|refine af ‹_› (.head _) rfl ?_))
 exact YF f s ui (k _ s1.fr)
def F4 (v f s:Int):Int:=fC (fun ui:Nat=>decide (I3 f s ui=v)) (List.range 256)
theorem VX (v f s:Int) {h:ae}{Q:QT}(k:∀ h',Fr [] h h'→Q (I (F4 v f s)) h'):C ug [I v,.fn (.func iX) [.agg [I f,I s]] []] h Q:=by
 refine KF _ _ _ _ ?_
 unfold IZ
 refine aP (fun n vs h'=>Fr [] h h'∧∃ i:Nat,∃ b,vs=[b,I (i:Nat)]∧n+i=256∧∀ j (hj:j<i),decide (I3 f s j=v)=false) 256 ⟨Fr.refl _ _,0,_,rfl,by omega,fun j hj=>by omega⟩ ?_
 rintro n vs h' ⟨f1,i,b,rfl,hn,ha⟩
 unfold Ap
 (repeat refine aJ ?_)
 refine ah (fun hb=>?_) (fun hb=>?_)<;>simp only[za,zb,zc,zd,ze,zf,zg,zh,zi,u8i,zj,zk,zl]at hb
 ·have hi:i<256:=by omega
  show ACall Pg iX [.agg [I f,I s],I (i:Nat)] h' _
  refine aa9 f s i fun h2 f2=>?_
  refine aA ?_
  have hlen:i<(List.range 256).length:=by simpa using hi
  refine ah (fun hc=>?_) (fun hc=>?_)<;>simp only[za,zb,zc,zd,ze,zf,zg,zh,zi,u8i,zj,zk,zl]at hc
  ·have:=k h2 (f1.trans f2 (by simp))
   unfold F4 at this
   rw[kV (p:=fun ui:Nat=>decide (I3 f s ui=v)) hlen (by simpa using hc) fun j hj=>by simpa using ha j hj]at this
   exact this
  ·(repeat refine aI (by omega) ?_)
   refine⟨n-1,by omega,f1.trans f2 (by simp),i+1,_,rfl,by omega,fun j hj=>?_⟩
   rcases Nat.lt_or_eq_of_le (Nat.le_of_lt_succ hj) with h1|h1
   ·exact ha j h1
   ·subst h1;simpa using hc
 ·have:=k h' f1
  unfold F4 at this
  rw[gW (p:=fun ui:Nat=>decide (I3 f s ui=v)) fun j hj=>by simpa using ha j (by simp at hj;omega)]at this
  exact this
def formsL:List (Int×Int):=[(0,0),(0,1),(0,2),(0,3),(1,0),(1,1),(1,2),(1,3)]
def Q9 (x:Int×Int):List AV:=[I x.1,I x.2]
def Q7 (v:Int):List (Int×Int)→Option (Int×Int×Int)
 | []=>none
 | x::l=>if 0≤F4 v x.1 x.2 then some (x.1,x.2,F4 v x.1 x.2) else Q7 v l
abbrev Ze (v:Int):Option (Int×Int×Int):=Q7 v formsL
theorem Xe {h:ae}{Q:QT}(k:Q (.full formsL.length (formsL.flatMap Q9)) h):C uI [] h Q:=by
 refine K9 _ _ ?_
 unfold Iw
 (repeat (first|refine aD rfl ?_|refine aB rfl rfl ?_))
 exact k
def abu (o:Option (Int×Int×Int)):AV:=match o with
 | some (f,s,ui)=>.tup [I f,I s,I ui,B true]
 | none=>.tup [I 0,I 0,I 0,B false]
theorem YM (v:Int) {h:ae}{Q:QT}(k:∀ h',Fr [] h h'→Q (abu (Ze v)) h'):C xi [I v] h Q:=by
 refine Mq _ _ _ ?_
 unfold Oj
 refine Xe ?_
 have R:∀ h,Row Q9 2 h (.full formsL.length (formsL.flatMap Q9)) formsL:=fun h=>Row.full (enc:=Q9) (fun _=>rfl) formsL
 refine (R h).len ?_
 refine aP (fun n vs h'=>Fr [] h h'∧∃ (i:Nat) (a b c d:AV),vs=[a,b,c,d,I (i:Nat)]∧n+i=8∧Ze v=Q7 v (formsL.drop i)) 8 ⟨Fr.refl _ _,0,_,_,_,_,rfl,by omega,rfl⟩ ?_
 rintro n vs h' ⟨f1,i,a,b,c,d,rfl,hn,hs⟩
 unfold Dd
 (repeat refine aJ ?_)
 refine ah (fun hb=>?_) (fun hb=>?_)<;>simp only[za,zb,zc,zd,ze,zf,zg,zh,zi,u8i,zj,zk,zl]at hb
 ·have hi:i<formsL.length:=hb
  have e8:formsL.length=8:=rfl
  refine (R h').idx (fun _=>rfl) hi fun p t=>?_
  refine aR t rfl ?_
  have s:=(St.start h).call f1
  refine aQ s fun q h2 s2=>?_
  refine ay s2 .head rfl rfl rfl (by decide) fun h3 s3=>?_
  (repeat refine aL ‹_› (.head _) (nle rfl) ?_)
  refine VX v formsL[i].1 formsL[i].2 fun h4 f4=>?_
  have s4:=s3.call f4
  rw[List.drop_eq_getElem_cons hi,Q7]at hs
  (repeat refine bL ?_)
  refine ah (fun hc=>?_) (fun hc=>?_)<;>simp only[za,zb,zc,zd,ze,zf,zg,zh,zi,u8i,zj,zk,zl]at hc
  ·(repeat (first|refine aj ?_|refine af ‹_› (.head _) rfl ?_))
   rw[if_pos hc]at hs
   have:=k h4 s4.fr
   rw[hs]at this
   exact this
  ·(repeat refine aI (by omega) ?_)
   rw[if_neg (by omega)]at hs
   exact⟨n-1,by omega,s4.fr,i+1,_,_,_,_,rfl,by omega,hs⟩
 ·have:=k h' f1
  rw[hs,List.drop_of_length_le (by simp[ap]at hb;simpa using hb)]at this
  exact this
end
end Go.Proofs.YtbhphjpgjgigpaaGreatDoor.AL
