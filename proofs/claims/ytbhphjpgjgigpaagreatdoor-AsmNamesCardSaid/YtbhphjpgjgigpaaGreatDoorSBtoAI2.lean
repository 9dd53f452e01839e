import Derived.Test.YtbhphjpgjgigpaaGreatDoorF9
import Derived.Test.YtbhphjpgjgigpaaGreatDoorAL27toAL31
import Derived.Test.YtbhphjpgjgigpaaGreatDoorItA5
import Derived.KernelRfl
import Derived.Test.YtbhphjpgjgigpaaGreatDoorF5
import Derived.Lib.Index
import Derived.Test.YtbhphjpgjgigpaaGreatDoorAM4toAM6
set_option linter.all false
set_option autoImplicit true
set_option relaxedAutoImplicit true
set_option maxRecDepth 100000
namespace Go.Proofs.YtbhphjpgjgigpaaGreatDoor.AL
noncomputable section
open Go.Proofs Go.RowKit Go.Shelf
def asc:List Int:=[0,0,0,0,0,0,0,0,0,1,1,1,1,1,0,0,0,0,0,0,0,0,0,0,0,0,0,0,0,0,0,0,1,0,0,0,0,0,0,0,0,0,0,0,0,0,0,0,0,0,0,0,0,0,0,0,0,0,0,0,0,0,0,0,0,0,0,0,0,0,0,0,0,0,0,0,0,0,0,0,0,0,0,0,0,0,0,0,0,0,0,0,0,0,0,0,0,0,0,0,0,0,0,0,0,0,0,0,0,0,0,0,0,0,0,0,0,0,0,0,0,0,0,0,0,0,0,0,0,0,0,0,0,0,0,0,0,0,0,0,0,0,0,0,0,0,0,0,0,0,0,0,0,0,0,0,0,0,0,0,0,0,0,0,0,0,0,0,0,0,0,0,0,0,0,0,0,0,0,0,0,0,0,0,0,0,0,0,0,0,0,0,0,0,0,0,0,0,0,0,0,0,0,0,0,0,0,0,0,0,0,0,0,0,0,0,0,0,0,0,0,0,0,0,0,0,0,0,0,0,0,0,0,0,0,0,0,0,0,0,0,0,0,0,0,0,0,0,0,0,0,0,0,0,0,0]
def U9:List AV:=asc.map fun z=>.lit (.int .u8 z)
def tb5:nO:=fun g=>match Nat.beq g 0 with|true=>some U9|false=>none
@[reducible] def Tu (S:Syms):Tabs where
  toSyms:=S
  ok F:=(∀ i,i<asc.length→F 0 i=some (.int .u8 (asc.getD i 0)))∧∃ m,F 3 0=some (.int .i64 m)
  mono hF h:=⟨fun i hi=>hF _ _ _ (h.1 i hi),h.2.imp fun m hm=>hF _ _ _ hm⟩
  tab:=tb5
  tab_ok G g cs h e:=by
   unfold tb5 at e
   split at e
   ·rename_i hg
    cases e
    rw[Nat.eq_of_beq_eq_true hg]
    exact A7 asc 0 fun i hi=>by rw[Nat.zero_add];exact h.1 i hi
   ·cases e
class Tabs5 extends Tabs where
 m0:∀ F,ok F→∃ m,F 3 0=some (.int .i64 m)
 tb:mB tb5
@[reducible] def TI (S:Syms):Tabs5 where
  toTabs:=Tu S
  m0 F h:=And.right h
  tb g cs h:=h
section
variable [Tabs]
theorem Tn:SL Pg 134 3:=⟨⟨_,Tryz.func134,by kernel_rfl,by kernel_rfl⟩,fun s sub m w hs hm=>Any.strings_Index Tryz.lays143 s sub m w hs hm⟩
end
end
end Go.Proofs.YtbhphjpgjgigpaaGreatDoor.AL
namespace Go.Proofs.YtbhphjpgjgigpaaGreatDoor.AL
noncomputable section
variable [Tabs]
theorem xb {l m:Str}{h:ab}{Q:QT}(k:Q (B (m.isPrefixOf l)) h):C eR [T l,T m] h Q:=by
 refine sY _ _ _ _ ?_
 unfold oz
 refine pg _ _ _ _ ?_
 unfold kH
 (repeat (first|refine bD ?_|refine cy ?_))
 refine ag (fun hb=>?_) (fun hb=>?_)<;>simp only[za,zb,zc,zd,ze,zf,zg,zh,zi,u8i,zj,zk,zl]at hb
 ·(repeat refine bD ?_)
  refine mK (by omega) (by omega) ?_
  (repeat refine bi ?_)
  have:decide (l.take m.length=m)=m.isPrefixOf l:=by
   rw[Bool.eq_iff_iff,decide_eq_true_eq,List.isPrefixOf_iff_prefix,List.prefix_iff_eq_take];exact eq_comm
  simp only[Int.toNat_natCast,this]
  exact k
 ·skip
  have:m.isPrefixOf l=false:=by
   rw[Bool.eq_false_iff];intro hp
   have:=(List.isPrefixOf_iff_prefix.1 hp).length_le
   omega
  rw[this]at k;exact k
def lW (c:UInt8):Str→Str
 | []=>[]
 | x::l=>if x=c then lW c l else x::l
theorem y9 (c:UInt8) (l:Str) {h:ab}{Q:QT}(k:Q (T (lW c l)) h):C dU [T l,U8 c] h Q:=by
 refine pY _ _ _ _ ?_
 unfold l7
 refine aR (fun n vs h'=>h'=h∧∃ m:Str,vs=[T m]∧n=m.length∧lW c m=lW c l) l.length ⟨rfl,l,rfl,rfl,rfl⟩ ?_
 rintro n vs h' ⟨rfl,m,rfl,rfl,hm⟩
 unfold jP
 (repeat (first|refine bD ?_|refine cO ?_))
 refine ag (fun hb=>?_) (fun hb=>?_)<;>simp only[za,zb,zc,zd,ze,zf,zg,zh,zi,u8i,zj,zk,zl]at hb
 ·cases m with
  | nil=>simp at hb
  | cons x m=>
    refine fK (by omega) (by simp) ?_
    (repeat refine aB ?_)
    simp only[Int.toNat_zero,List.getElem_cons_zero]
    refine ag (fun hc=>?_) (fun hc=>?_)<;>simp only[za,zb,zc,zd,ze,zf,zg,zh,zi,u8i,zj,zk,zl]at hc
    ·refine gm (by omega) (by simp;omega) ?_
     exact⟨m.length,by simp,trivial,m,rfl,rfl,by rw[← hm];simp[lW,hc]⟩
    ·rw[← hm]at k
     rw[lW,if_neg hc]at k;exact k
 ·have:m=[]:=by cases m with
   | nil=>rfl
   | cons=>simp at hb
  subst this
  rw[← hm]at k;exact k
theorem FL (c:UInt8) (hc:c.toNat<128) (l:Str) {h:ab}{Q:QT}(k:Q (T (lW c l)) h):C iK [T l,T [c]] h Q:=by
 refine uq _ _ _ _ ?_
 unfold qe
 (repeat refine bi ?_)
 refine ag (fun hb=>?_) (fun hb=>?_)<;>simp only[za,zb,zc,zd,ze,zf,zg,zh,zi,u8i,zj,zk,zl]at hb
 ·subst hb;exact k
 ·(repeat (first|refine bD ?_|refine aB ?_|refine bi ?_))
  refine ag (fun _=>?_) (fun hb=>(by exfalso;first|(simp at hb;done)|(simp at hb;omega)|(revert hb;decide)|omega))
  refine fK (by omega) (by simp) ?_
  (repeat refine aP ?_)
  refine ag (fun _=>?_) (fun hb=>?_)
  ·refine fK (by omega) (by simp) ?_
   exact y9 c l k
  ·simp at hb;omega
end
end Go.Proofs.YtbhphjpgjgigpaaGreatDoor.AL
namespace Go.Proofs.YtbhphjpgjgigpaaGreatDoor.AL
noncomputable section
variable [Tabs]
def oS (p:Nat→Bool):List AV:=(List.range 256).map fun i=>B (p i)
omit [Tabs] in
theorem gY (p:Nat→Bool):(oS p).length=256:=by simp[oS]
theorem Bc (p:Nat→Bool) {i:Nat}(h:i<256):(oS p)[i]?=some (B (p i)):=by simp[oS,h]
theorem O7 (p:Nat→Bool) {i:Nat}(h:i<256):splice (oS p) i [B true]=oS (fun j=>decide (j=i)||p j):=by
 apply List.ext_getElem?
 intro j
 rw[c5 (by simp[gY];omega)]
 simp only[List.length_cons,List.length_nil]
 rcases Nat.lt_or_ge j 256 with hj|hj
 ·rw[Bc _ hj,Bc _ hj]
  split
  ·rename_i hlt;simp[show j≠i by omega]
  ·split
   ·have:j=i:=by omega
    subst this;simp
   ·simp[show j≠i by omega]
 ·have:∀ q:Nat→Bool,(oS q)[j]?=none:=fun q=>List.getElem?_eq_none (by simp[gY];omega)
  rw[this,this]
  split
  ·rfl
  ·rw[if_neg (by omega)]
theorem IV (p:Nat→Bool):(oS p).all AV.one=true:=by simp[oS,AV.one,Value.oneCell']
theorem B0 (a b:List AV) (h:a.length=b.length):splice a 0 b=b:=by simp[splice,h]
theorem Kq (cs:Str) (hc:∀ c∈cs,c.toNat<128) (hl:cs.length<1000) {h:ab}{Q:QT}(k:∀ h',Fr [] h h'→Q (.tup [.agg (oS fun i=>cs.any fun c=>decide (i=c.toNat)),B true]) h'):C cn [T cs] h Q:=by
 refine pF _ _ _ ?_
 unfold l9
 have s:=St.start h
 refine bk s fun i h1 s1=>?_
 have s1:St h [] h1 [(i,true,.cells (oS fun _=>false))]:=s1
 refine aR (fun n vs h'=>∃ k:Nat,∃ b,vs=[b,I (k:Nat)]∧n+k=cs.length∧St h [] h' [(i,true,.cells (oS fun i=>(cs.take k).any fun c=>decide (i=c.toNat)))]) cs.length ⟨0,_,rfl,by simp,by simpa using s1⟩ ?_
 rintro n vs h' ⟨m,b,rfl,hn,s2⟩
 unfold jO
 (repeat (first|refine bD ?_|refine aP ?_))
 refine ag (fun hb=>?_) (fun hb=>?_)<;>simp only[za,zb,zc,zd,ze,zf,zg,zh,zi,u8i,zj,zk,zl]at hb
 ·have hm:m<cs.length:=hb
  refine co hm ?_
  (repeat refine cy ?_)
  have hcm:=hc cs[m] (by simp)
  refine ag (fun hb=>absurd hb (by simp;omega)) (fun _=>?_)
  refine (⟨(⟨⟨by omega,by omega⟩,?_⟩:cT 256 1 (.ptr i 0) (U8 cs[m]) _)⟩:dN 256 1 (.ptr i 0) (U8 cs[m]) _)
  simp only[Int.toNat_natCast,Nat.mul_one,Nat.zero_add]
  refine aF (cs:=oS fun i=>(cs.take m).any fun c=>decide (i=c.toNat)) s2 .head rfl rfl rfl (by rw[gY];omega) fun h3 s3=>?_
  (repeat refine aH (by omega) ?_)
  refine⟨n-1,by omega,m+1,_,rfl,by omega,?_⟩
  rw[show (B true).cells=[B true] from rfl,O7 _ (by omega)]at s3
  have e:(fun i=>(cs.take (m+1)).any fun c=>decide (i=c.toNat))=(fun j=>decide (j=cs[m].toNat)||(cs.take m).any fun c=>decide (j=c.toNat)):=by
   funext j
   rw[List.take_succ_eq_append_getElem hm];simp only[List.any_append,List.any_cons,List.any_nil,Bool.or_false];exact Bool.or_comm _ _
  rw[e];exact s3
 ·have hm:m=cs.length:=by omega
  subst hm
  rw[List.take_length]at s2
  refine aW s2 (.head _) (by rw[gY];omega) ?_
  rw[List.drop_zero,List.take_of_length_le (by rw[gY];omega)]
  refine aF (cs:=oS fun i=>cs.any fun c=>decide (i=c.toNat)) s2 .head rfl (by simp[AV.cells,gY]) (by exact IV _) (by rw[gY];omega) fun h3 s3=>?_
  rw[show (AV.agg (oS fun i=>cs.any fun c=>decide (i=c.toNat))).cells=oS (fun i=>cs.any fun c=>decide (i=c.toNat)) from rfl,B0 _ _ rfl]at s3
  refine aW s3 (.head _) (by rw[gY];omega) ?_
  rw[List.drop_zero,List.take_of_length_le (by rw[gY];omega)]
  exact k _ s3.fr
theorem yS (p:Nat→Bool) (c:UInt8) {i:Nat}{h:ab}(e:h[i]?=some (.cells (oS p))) {Q:QT}(k:Q (B (p c.toNat)) h):C cM [.ptr i 0,U8 c] h Q:=by
 refine mn _ _ _ _ ?_
 unfold ir
 have hc:=c.toNat_lt
 refine aq (⟨(⟨⟨by omega,by omega⟩,?_⟩:cT 256 1 (.ptr i 0) (U8 c) _)⟩:dN 256 1 (.ptr i 0) (U8 c) _)
 simp only[Int.toNat_natCast,Nat.mul_one,Nat.zero_add]
 refine aj (St.startr e) (.head _) (Bc p (by omega)) ?_
 exact k
theorem xT (p:Nat→Bool) (l:Str) {i:Nat}{h:ab}(e:h[i]?=some (.cells (oS p))) {Q:QT}(k:Q (T (l.dropWhile fun c=>p c.toNat)) h):C bX [T l,.ptr i 0] h Q:=by
 refine oT _ _ _ _ ?_
 unfold kK
 refine aR (fun n vs h'=>h'=h∧∃ m:Str,vs=[T m]∧n=m.length∧(m.dropWhile fun c=>p c.toNat)=l.dropWhile fun c=>p c.toNat) l.length ⟨rfl,l,rfl,rfl,rfl⟩ ?_
 rintro n vs h' ⟨rfl,m,rfl,rfl,hm⟩
 unfold i5 fm iY
 (repeat (first|refine bD ?_|refine cO ?_))
 refine ag (fun hb=>?_) (fun hb=>?_)<;>simp only[za,zb,zc,zd,ze,zf,zg,zh,zi,u8i,zj,zk,zl]at hb
 ·cases m with
  | nil=>simp at hb
  | cons x m=>
    refine fK (by omega) (by simp) ?_
    refine yS p x e ?_
    (repeat refine dA ?_)
    refine ag (fun hc=>?_) (fun hc=>?_)<;>simp only[za,zb,zc,zd,ze,zf,zg,zh,zi,u8i,zj,zk,zl]at hc
    ·rw[← hm,List.dropWhile_cons_of_neg (by simpa using hc)]at k;exact k
    ·refine gm (by omega) (by simp;omega) ?_
     exact⟨m.length,by simp,rfl,m,rfl,rfl,by rw[← hm,List.dropWhile_cons_of_pos (by simpa using hc)]⟩
 ·have:m=[]:=by cases m with
   | nil=>rfl
   | cons=>simp at hb
  subst this
  rw[← hm]at k;exact k
def rU (p:UInt8→Bool) (l:Str):Str:=(l.reverse.dropWhile p).reverse
theorem Bz {p:UInt8→Bool}{l:Str}{x:UInt8}(h:p x=true):rU p (l++[x])=rU p l:=by simp[rU,h]
theorem Aw {p:UInt8→Bool}{l:Str}{x:UInt8}(h:p x=false):rU p (l++[x])=l++[x]:=by simp[rU,h]
theorem wK (p:Nat→Bool) (l:Str) (hl:l.length<4611686018427387904) {i:Nat}{h:ab}(e:h[i]?=some (.cells (oS p))) {Q:QT}(k:Q (T (rU (fun c=>p c.toNat) l)) h):C dr [T l,.ptr i 0] h Q:=by
 refine nP _ _ _ _ ?_
 unfold kj
 refine aR (fun n vs h'=>h'=h∧∃ m:Str,vs=[T m]∧n=m.length∧m.length≤l.length∧rU (fun c=>p c.toNat) m=rU (fun c=>p c.toNat) l) l.length ⟨rfl,l,rfl,rfl,Nat.le_refl _,rfl⟩ ?_
 rintro n vs h' ⟨rfl,m,rfl,rfl,hml,hm⟩
 unfold iy eM iu
 (repeat (first|refine bD ?_|refine cO ?_))
 refine ag (fun hb=>?_) (fun hb=>?_)<;>simp only[za,zb,zc,zd,ze,zf,zg,zh,zi,u8i,zj,zk,zl]at hb
 ·rcases List.eq_nil_or_concat m with rfl|⟨m,x,rfl⟩
  ·simp at hb
  ·simp only[List.concat_eq_append]at *
   have hml':m.length+1≤l.length:=by simpa using hml
   refine bD ?_
   refine dD (by simp;omega) ?_
   have e1:((m++[x]).length:Int)-1=(m.length:Nat):=by simp
   rw[e1]
   refine co (by simp) ?_
   simp only[List.getElem_append_right (Nat.le_refl _),Nat.sub_self,List.getElem_cons_zero]
   refine yS p x e ?_
   (repeat refine dA ?_)
   refine ag (fun hc=>?_) (fun hc=>?_)<;>simp only[za,zb,zc,zd,ze,zf,zg,zh,zi,u8i,zj,zk,zl]at hc
   ·rw[← hm,Aw (by simpa using hc)]at k;exact k
   ·refine bD ?_
    refine dD (by simp at hml ⊢;omega) ?_
    rw[e1]
    refine mK (by omega) (by simp;omega) ?_
    refine⟨m.length,by simp,rfl,m,by simp,rfl,by omega,?_⟩
    rw[← hm,Bz (by simpa using hc)]
 ·have:m=[]:=by cases m with
   | nil=>rfl
   | cons=>simp at hb
  subst this
  rw[← hm]at k;exact k
def Ly (c:UInt8):Bool:=c=32||c=9
def pN (l:Str):Str:=(rU Ly l).dropWhile Ly
theorem Nj (p:UInt8→Bool) (l:Str):(rU p l).length≤l.length:=by
 have:=(List.dropWhile_sublist p (l:=l.reverse)).length_le
 simpa [rU] using this
theorem M9 (p:UInt8→Bool) (l:Str):(l.dropWhile p).length≤l.length:=(List.dropWhile_sublist p).length_le
theorem wv (l:Str):(pN l).length≤l.length:=Nat.le_trans (M9 _ _) (Nj _ _)
theorem zX (l:Str) (hl:l.length<4611686018427387904) {h:ab}{Q:QT}(k:∀ h',Fr [] h h'→Q (T (pN l)) h'):C eN [T l,T [32,9]] h Q:=by
 refine zm _ _ _ _ ?_
 unfold xa
 have eg:(fun c:UInt8=>([32,9]:Str).any fun d=>decide (c.toNat=d.toNat))=Ly:=by
  funext c
  simp only[List.any_cons,List.any_nil,Bool.or_false,Ly]
  congr 1<;>(rw[Bool.eq_iff_iff];simp[← UInt8.toNat_inj])
 (repeat refine bi ?_)
 refine ag (fun hb=>?_) (fun hb=>?_)<;>simp only[za,zb,zc,zd,ze,zf,zg,zh,zi,u8i,zj,zk,zl]at hb
 ·subst hb;exact k _ (Fr.refl _ _)
 ·(repeat (first|refine bD ?_|refine aB ?_|refine bi ?_))
  refine ag (fun hb=>(by exfalso;first|(simp at hb;done)|(simp at hb;omega)|(revert hb;decide)|omega)) (fun _=>?_)
  refine Kq [32,9] (by decide) (by decide) fun h1 f1=>?_
  have s:=(St.start h).call f1
  (repeat refine ax rfl ?_)
  refine bk s fun i h2 s2=>?_
  refine aF s2 .head rfl (by simp[AV.cells,gY]) (by exact IV _) (by decide) fun h3 s3=>?_
  rw[show (AV.agg (oS fun i=>([32,9]:Str).any fun c=>decide (i=c.toNat))).cells=oS (fun i=>([32,9]:Str).any fun c=>decide (i=c.toNat)) from rfl,B0 _ _ (by rw[gY];rfl)]at s3
  refine ag (fun _=>?_) (fun hb=>by cases hb)
  refine wK _ l hl (s3.get (.head _)) ?_
  refine xT _ _ (s3.get (.head _)) ?_
  rw[eg]
  exact k _ s3.fr
end
end Go.Proofs.YtbhphjpgjgigpaaGreatDoor.AL
namespace Go.Proofs.YtbhphjpgjgigpaaGreatDoor.AL
noncomputable section
variable [Tabs]
theorem rK {α:Type}{enc:α→List AV}(hs:∀ x,(enc x).length=4) (fv:AV) (p:α→Bool) (l:List α) (hl:l.length<4611686018427387904) {v:AV}{h:ab}(r:Row enc 4 h v l) {Q:QT}
  (hp:∀ x∈l,∀ (h':ab) (Q:QT),Fr [] h h'→(∀ h'',Fr [] h' h''→Q (B (p x)) h'')→CV fv [.agg (enc x)] h' Q) (k:∀ h',Fr [] h h'→Q (I (eY p l)) h'):C cw [v,fv] h Q:=by
 refine gW _ _ _ _ ?_
 unfold ef
 refine r.len ?_
 refine aR (fun n vs h'=>Fr [] h h'∧∃ i:Nat,∃ b,vs=[b,I (i:Nat)]∧n+i=l.length∧∀ j (hj:j<i) (hj2:j<l.length),p l[j]=false) l.length ⟨Fr.refl _ _,0,_,rfl,by omega,fun j hj=>by omega⟩ ?_
 rintro n vs h' ⟨f1,i,b,rfl,hn,ha⟩
 unfold dP
 (repeat refine aP ?_)
 refine ag (fun hb=>?_) (fun hb=>?_)<;>simp only[za,zb,zc,zd,ze,zf,zg,zh,zi,u8i,zj,zk,zl]at hb
 ·have hi:i<l.length:=hb
  refine (r.fr f1).idx hs hi fun q t=>?_
  refine cb t (hs _).symm ?_
  refine hp l[i] (by simp) _ _ f1 fun h2 f2=>?_
  cases hpi:p l[i] with
  | true=>
    refine ag (fun _=>?_) (fun hb=>by cases hb)
    have:=k h2 (f1.trans f2 (by simp))
    rw[jv hi hpi fun j hj=>ha j hj (by omega)]at this
    exact this
  | false=>
    refine ag (fun hb=>by cases hb) (fun _=>?_)
    (repeat refine aH (by omega) ?_)
    refine⟨n-1,by omega,f1.trans f2 (by simp),i+1,_,rfl,by omega,fun j hj hj2=>?_⟩
    rcases Nat.lt_or_eq_of_le (Nat.le_of_lt_succ hj) with h1|h1
    ·exact ha j h1 hj2
    ·subst h1;exact hpi
 ·have:=k h' f1
  rw[gg fun j hj=>ha j (by omega) hj]at this
  exact this
theorem qV {α:Type}{arg:α→AV}(fv:AV) (p:α→Bool) (l:List α) (hl:l.length<4611686018427387904) {v:AV}{h:ab}(r:Row (fun x=>[arg x]) 1 h v l) {Q:QT}
  (hp:∀ x∈l,∀ (h':ab) (Q:QT),Fr [] h h'→(∀ h'',Fr [] h' h''→Q (B (p x)) h'')→CV fv [arg x] h' Q) (k:∀ h',Fr [] h h'→Q (I (eY p l)) h'):C ci [v,fv] h Q:=by
 refine gy _ _ _ _ ?_
 unfold dV
 refine r.len ?_
 refine aR (fun n vs h'=>Fr [] h h'∧∃ i:Nat,∃ b,vs=[b,I (i:Nat)]∧n+i=l.length∧∀ j (hj:j<i) (hj2:j<l.length),p l[j]=false) l.length ⟨Fr.refl _ _,0,_,rfl,by omega,fun j hj=>by omega⟩ ?_
 rintro n vs h' ⟨f1,i,b,rfl,hn,ha⟩
 unfold du
 (repeat refine aP ?_)
 refine ag (fun hb=>?_) (fun hb=>?_)<;>simp only[za,zb,zc,zd,ze,zf,zg,zh,zi,u8i,zj,zk,zl]at hb
 ·have hi:i<l.length:=hb
  refine (r.fr f1).idx (fun _=>rfl) hi fun q t=>?_
  refine aE t ?_
  refine hp l[i] (by simp) _ _ f1 fun h2 f2=>?_
  cases hpi:p l[i] with
  | true=>
    refine ag (fun _=>?_) (fun hb=>by cases hb)
    have:=k h2 (f1.trans f2 (by simp))
    rw[jv hi hpi fun j hj=>ha j hj (by omega)]at this
    exact this
  | false=>
    refine ag (fun hb=>by cases hb) (fun _=>?_)
    (repeat refine aH (by omega) ?_)
    refine⟨n-1,by omega,f1.trans f2 (by simp),i+1,_,rfl,by omega,fun j hj hj2=>?_⟩
    rcases Nat.lt_or_eq_of_le (Nat.le_of_lt_succ hj) with h1|h1
    ·exact ha j h1 hj2
    ·subst h1;exact hpi
 ·have:=k h' f1
  rw[gg fun j hj=>ha j (by omega) hj]at this
  exact this
theorem ti {α:Type}{enc:α→List AV}(hs:∀ x,(enc x).length=3) (fv:AV) (p:α→Bool) (l:List α) (hl:l.length<4611686018427387904) {v:AV}{h:ab}(r:Row enc 3 h v l) {Q:QT}
  (hp:∀ x∈l,∀ (h':ab) (Q:QT),Fr [] h h'→(∀ h'',Fr [] h' h''→Q (B (p x)) h'')→CV fv [.agg (enc x)] h' Q) (k:∀ h',Fr [] h h'→Q (I (eY p l)) h'):C cD [v,fv] h Q:=by
 refine iC _ _ _ _ ?_
 unfold eK
 refine r.len ?_
 refine aR (fun n vs h'=>Fr [] h h'∧∃ i:Nat,∃ b,vs=[b,I (i:Nat)]∧n+i=l.length∧∀ j (hj:j<i) (hj2:j<l.length),p l[j]=false) l.length ⟨Fr.refl _ _,0,_,rfl,by omega,fun j hj=>by omega⟩ ?_
 rintro n vs h' ⟨f1,i,b,rfl,hn,ha⟩
 unfold eb
 (repeat refine aP ?_)
 refine ag (fun hb=>?_) (fun hb=>?_)<;>simp only[za,zb,zc,zd,ze,zf,zg,zh,zi,u8i,zj,zk,zl]at hb
 ·have hi:i<l.length:=hb
  refine (r.fr f1).idx hs hi fun q t=>?_
  refine cb t (hs _).symm ?_
  refine hp l[i] (by simp) _ _ f1 fun h2 f2=>?_
  cases hpi:p l[i] with
  | true=>
    refine ag (fun _=>?_) (fun hb=>by cases hb)
    have:=k h2 (f1.trans f2 (by simp))
    rw[jv hi hpi fun j hj=>ha j hj (by omega)]at this
    exact this
  | false=>
    refine ag (fun hb=>by cases hb) (fun _=>?_)
    (repeat refine aH (by omega) ?_)
    refine⟨n-1,by omega,f1.trans f2 (by simp),i+1,_,rfl,by omega,fun j hj hj2=>?_⟩
    rcases Nat.lt_or_eq_of_le (Nat.le_of_lt_succ hj) with h1|h1
    ·exact ha j h1 hj2
    ·subst h1;exact hpi
 ·have:=k h' f1
  rw[gg fun j hj=>ha j (by omega) hj]at this
  exact this
theorem sP {α:Type}{enc:α→List AV}(hs:∀ x,(enc x).length=2) (fv:AV) (p:α→Bool) (l:List α) (hl:l.length<4611686018427387904) {v:AV}{h:ab}(r:Row enc 2 h v l) {Q:QT}
  (hp:∀ x∈l,∀ (h':ab) (Q:QT),Fr [] h h'→(∀ h'',Fr [] h' h''→Q (B (p x)) h'')→CV fv [.agg (enc x)] h' Q) (k:∀ h',Fr [] h h'→Q (I (eY p l)) h'):C cB [v,fv] h Q:=by
 refine iB _ _ _ _ ?_
 unfold eJ
 refine r.len ?_
 refine aR (fun n vs h'=>Fr [] h h'∧∃ i:Nat,∃ b,vs=[b,I (i:Nat)]∧n+i=l.length∧∀ j (hj:j<i) (hj2:j<l.length),p l[j]=false) l.length ⟨Fr.refl _ _,0,_,rfl,by omega,fun j hj=>by omega⟩ ?_
 rintro n vs h' ⟨f1,i,b,rfl,hn,ha⟩
 unfold ec
 (repeat refine aP ?_)
 refine ag (fun hb=>?_) (fun hb=>?_)<;>simp only[za,zb,zc,zd,ze,zf,zg,zh,zi,u8i,zj,zk,zl]at hb
 ·have hi:i<l.length:=hb
  refine (r.fr f1).idx hs hi fun q t=>?_
  refine cb t (hs _).symm ?_
  refine hp l[i] (by simp) _ _ f1 fun h2 f2=>?_
  cases hpi:p l[i] with
  | true=>
    refine ag (fun _=>?_) (fun hb=>by cases hb)
    have:=k h2 (f1.trans f2 (by simp))
    rw[jv hi hpi fun j hj=>ha j hj (by omega)]at this
    exact this
  | false=>
    refine ag (fun hb=>by cases hb) (fun _=>?_)
    (repeat refine aH (by omega) ?_)
    refine⟨n-1,by omega,f1.trans f2 (by simp),i+1,_,rfl,by omega,fun j hj hj2=>?_⟩
    rcases Nat.lt_or_eq_of_le (Nat.le_of_lt_succ hj) with h1|h1
    ·exact ha j h1 hj2
    ·subst h1;exact hpi
 ·have:=k h' f1
  rw[gg fun j hj=>ha j (by omega) hj]at this
  exact this
theorem pu {α:Type}{enc:α→List AV}(hs:∀ x,(enc x).length=4) (fv:AV) (p:α→Bool) (l:List α) (hl:l.length<4611686018427387904) {v:AV}{h:ab}(r:Row enc 4 h v l) {Q:QT}
  (hp:∀ x∈l,∀ (h':ab) (Q:QT),Fr [] h h'→(∀ h'',Fr [] h' h''→Q (B (p x)) h'')→CV fv [.agg (enc x)] h' Q) (k:∀ h',Fr [] h h'→Q (B (l.any p)) h'):C bF [v,fv] h Q:=by
 refine gp _ _ _ _ ?_
 unfold dM
 refine rK hs fv p l hl r hp fun h1 f1=>?_
 (repeat refine cy ?_)
 have:decide (0≤eY p l)=l.any p:=by rw[Bool.eq_iff_iff,decide_eq_true_eq];exact wn p l
 rw[this];exact k h1 f1
theorem nN {α:Type}{arg:α→AV}(fv:AV) (p:α→Bool) (l:List α) (hl:l.length<4611686018427387904) {v:AV}{h:ab}(r:Row (fun x=>[arg x]) 1 h v l) {Q:QT}
  (hp:∀ x∈l,∀ (h':ab) (Q:QT),Fr [] h h'→(∀ h'',Fr [] h' h''→Q (B (p x)) h'')→CV fv [arg x] h' Q) (k:∀ h',Fr [] h h'→Q (B (l.any p)) h'):C bS [v,fv] h Q:=by
 refine fO _ _ _ _ ?_
 unfold dw
 refine qV fv p l hl r hp fun h1 f1=>?_
 (repeat refine cy ?_)
 have:decide (0≤eY p l)=l.any p:=by rw[Bool.eq_iff_iff,decide_eq_true_eq];exact wn p l
 rw[this];exact k h1 f1
theorem jh (x:Str) (l:List (Str)) (hl:l.length<4611686018427387904) {v:AV}{h:ab}(r:Row (fun x:Str=>[T x]) 1 h v l) {Q:QT}(k:Q (I (eY (fun y=>decide (x=y)) l)) h):C bC [v,T x] h Q:=by
 refine kT _ _ _ _ ?_
 unfold gP
 refine r.len ?_
 refine aR (fun n vs h'=>h'=h∧∃ i:Nat,∃ b,vs=[b,I (i:Nat)]∧n+i=l.length∧∀ j (hj:j<i) (hj2:j<l.length),decide (x=l[j])=false) l.length ⟨rfl,0,_,rfl,by omega,fun j hj=>by omega⟩ ?_
 rintro n vs h' ⟨rfl,i,b,rfl,hn,ha⟩
 unfold fL
 (repeat refine aP ?_)
 refine ag (fun hb=>?_) (fun hb=>?_)<;>simp only[za,zb,zc,zd,ze,zf,zg,zh,zi,u8i,zj,zk,zl]at hb
 ·have hi:i<l.length:=hb
  refine r.idx (fun _=>rfl) hi fun q t=>?_
  refine aE t ?_
  refine bi ?_
  cases hpi:decide (x=l[i]) with
  | true=>
    refine ag (fun _=>?_) (fun hb=>by cases hb)
    rw[jv (p:=fun y=>decide (x=y)) hi hpi fun j hj=>ha j hj (by omega)]at k
    exact k
  | false=>
    refine ag (fun hb=>by cases hb) (fun _=>?_)
    (repeat refine aH (by omega) ?_)
    refine⟨n-1,by omega,rfl,i+1,_,rfl,by omega,fun j hj hj2=>?_⟩
    rcases Nat.lt_or_eq_of_le (Nat.le_of_lt_succ hj) with h1|h1
    ·exact ha j h1 hj2
    ·subst h1;exact hpi
 ·rw[gg (p:=fun y=>decide (x=y)) fun j hj=>ha j (by omega) hj]at k
  exact k
theorem Fq (x:Int) (l:List (Int)) (hl:l.length<4611686018427387904) {v:AV}{h:ab}(r:Row (fun x:Int=>[I x]) 1 h v l) {Q:QT}(k:Q (I (eY (fun y=>decide (x=y)) l)) h):C fo [v,I x] h Q:=by
 refine pc _ _ _ _ ?_
 unfold kJ
 refine r.len ?_
 refine aR (fun n vs h'=>h'=h∧∃ i:Nat,∃ b,vs=[b,I (i:Nat)]∧n+i=l.length∧∀ j (hj:j<i) (hj2:j<l.length),decide (x=l[j])=false) l.length ⟨rfl,0,_,rfl,by omega,fun j hj=>by omega⟩ ?_
 rintro n vs h' ⟨rfl,i,b,rfl,hn,ha⟩
 unfold iU
 (repeat refine aP ?_)
 refine ag (fun hb=>?_) (fun hb=>?_)<;>simp only[za,zb,zc,zd,ze,zf,zg,zh,zi,u8i,zj,zk,zl]at hb
 ·have hi:i<l.length:=hb
  refine r.idx (fun _=>rfl) hi fun q t=>?_
  refine aE t ?_
  refine aB ?_
  cases hpi:decide (x=l[i]) with
  | true=>
    refine ag (fun _=>?_) (fun hb=>by cases hb)
    rw[jv (p:=fun y=>decide (x=y)) hi hpi fun j hj=>ha j hj (by omega)]at k
    exact k
  | false=>
    refine ag (fun hb=>by cases hb) (fun _=>?_)
    (repeat refine aH (by omega) ?_)
    refine⟨n-1,by omega,rfl,i+1,_,rfl,by omega,fun j hj hj2=>?_⟩
    rcases Nat.lt_or_eq_of_le (Nat.le_of_lt_succ hj) with h1|h1
    ·exact ha j h1 hj2
    ·subst h1;exact hpi
 ·rw[gg (p:=fun y=>decide (x=y)) fun j hj=>ha j (by omega) hj]at k
  exact k
theorem vW (x:Str) (l:List (Str)) (hl:l.length<4611686018427387904) {v:AV}{h:ab}(r:Row (fun x:Str=>[T x]) 1 h v l) {Q:QT}(k:Q (B (l.any fun y=>decide (x=y))) h):C cX [v,T x] h Q:=by
 refine jR _ _ _ _ ?_
 unfold fH
 refine jh x l hl r ?_
 (repeat refine cy ?_)
 have:decide (0≤eY (fun y=>decide (x=y)) l)=l.any fun y=>decide (x=y):=by rw[Bool.eq_iff_iff,decide_eq_true_eq];exact wn _ l
 rw[this];exact k
theorem y6 (x:Int) (l:List (Int)) (hl:l.length<4611686018427387904) {v:AV}{h:ab}(r:Row (fun x:Int=>[I x]) 1 h v l) {Q:QT}(k:Q (B (l.any fun y=>decide (x=y))) h):C be [v,I x] h Q:=by
 refine mO _ _ _ _ ?_
 unfold jd
 refine Fq x l hl r ?_
 (repeat refine cy ?_)
 have:decide (0≤eY (fun y=>decide (x=y)) l)=l.any fun y=>decide (x=y):=by rw[Bool.eq_iff_iff,decide_eq_true_eq];exact wn _ l
 rw[this];exact k
theorem yn {n:Nat}{cs:List AV}(hb:n*64≤1099511627776) {v:AV}{h:ab}(r:Rd h 5 v n cs) {Q:QT}(k:∀ h',Fr [] h h'→Q (.snap n cs) h'):C df [v] h Q:=by
 refine ACall.conv ?_
 refine ku _ _ _ ?_
 unfold fP
 have hl:=r.len
 refine mZ r (fun h0=>?_) ?_
 ·refine ag (fun _=>?_) (fun hb=>by cases hb)
  subst h0
  have:cs=[]:=by simpa using hl
  subst this
  exact dT (k _ (Fr.refl _ _))
 ·refine ag (fun hb=>by cases hb) (fun _=>?_)
  refine aG rfl rfl ?_
  refine ov (St.start h) r hb (fun h0=>?_) fun i h1 hn s=>?_
  ·subst h0
   have:cs=[]:=by simpa using hl
   subst this
   exact dT (k _ (Fr.refl _ _))
  ·exact mN (s.get (.head _)) hl (k _ (s.kill .head).fr)
theorem wS {n:Nat}{cs:List AV}(hb:n*32≤1099511627776) {v:AV}{h:ab}(r:Rd h 3 v n cs) {Q:QT}(k:∀ h',Fr [] h h'→Q (.snap n cs) h'):C cP [v] h Q:=by
 refine ACall.conv ?_
 refine jw _ _ _ ?_
 unfold fp
 have hl:=r.len
 refine mZ r (fun h0=>?_) ?_
 ·refine ag (fun _=>?_) (fun hb=>by cases hb)
  subst h0
  have:cs=[]:=by simpa using hl
  subst this
  exact dT (k _ (Fr.refl _ _))
 ·refine ag (fun hb=>by cases hb) (fun _=>?_)
  refine aG rfl rfl ?_
  refine ov (St.start h) r hb (fun h0=>?_) fun i h1 hn s=>?_
  ·subst h0
   have:cs=[]:=by simpa using hl
   subst this
   exact dT (k _ (Fr.refl _ _))
  ·exact mN (s.get (.head _)) hl (k _ (s.kill .head).fr)
theorem wl {n:Nat}{cs:List AV}(hb:n*80≤1099511627776) {v:AV}{h:ab}(r:Rd h 6 v n cs) {Q:QT}(k:∀ h',Fr [] h h'→Q (.snap n cs) h'):C cR [v] h Q:=by
 refine ACall.conv ?_
 refine jz _ _ _ ?_
 unfold fq
 have hl:=r.len
 refine mZ r (fun h0=>?_) ?_
 ·refine ag (fun _=>?_) (fun hb=>by cases hb)
  subst h0
  have:cs=[]:=by simpa using hl
  subst this
  exact dT (k _ (Fr.refl _ _))
 ·refine ag (fun hb=>by cases hb) (fun _=>?_)
  refine aG rfl rfl ?_
  refine ov (St.start h) r hb (fun h0=>?_) fun i h1 hn s=>?_
  ·subst h0
   have:cs=[]:=by simpa using hl
   subst this
   exact dT (k _ (Fr.refl _ _))
  ·exact mN (s.get (.head _)) hl (k _ (s.kill .head).fr)
theorem ph {n:Nat}{cs:List AV}(hb:n*1≤1099511627776) {v:AV}{h:ab}(r:Rd h 1 v n cs) {Q:QT}(k:∀ h',Fr [] h h'→Q (.snap n cs) h'):C c6 [v] h Q:=by
 refine ACall.conv ?_
 refine nc _ _ _ ?_
 unfold jJ
 have hl:=r.len
 refine mZ r (fun h0=>?_) ?_
 ·refine ag (fun _=>?_) (fun hb=>by cases hb)
  subst h0
  have:cs=[]:=by simpa using hl
  subst this
  exact dT (k _ (Fr.refl _ _))
 ·refine ag (fun hb=>by cases hb) (fun _=>?_)
  refine aG rfl rfl ?_
  refine ov (St.start h) r hb (fun h0=>?_) fun i h1 hn s=>?_
  ·subst h0
   have:cs=[]:=by simpa using hl
   subst this
   exact dT (k _ (Fr.refl _ _))
  ·exact mN (s.get (.head _)) hl (k _ (s.kill .head).fr)
theorem ww {n:Nat}{cs:List AV}(hb:n*8≤1099511627776) {v:AV}{h:ab}(r:Rd h 1 v n cs) {Q:QT}(k:∀ h',Fr [] h h'→Q (.snap n cs) h'):C dI [v] h Q:=by
 refine ACall.conv ?_
 refine oX _ _ _ ?_
 unfold kE
 have hl:=r.len
 refine mZ r (fun h0=>?_) ?_
 ·refine ag (fun _=>?_) (fun hb=>by cases hb)
  subst h0
  have:cs=[]:=by simpa using hl
  subst this
  exact dT (k _ (Fr.refl _ _))
 ·refine ag (fun hb=>by cases hb) (fun _=>?_)
  refine aG rfl rfl ?_
  refine ov (St.start h) r hb (fun h0=>?_) fun i h1 hn s=>?_
  ·subst h0
   have:cs=[]:=by simpa using hl
   subst this
   exact dT (k _ (Fr.refl _ _))
  ·exact mN (s.get (.head _)) hl (k _ (s.kill .head).fr)
theorem zy {n:Nat}{cs:List AV}(hb:n*16≤1099511627776) {v:AV}{h:ab}(r:Rd h 1 v n cs) {Q:QT}(k:∀ h',Fr [] h h'→Q (.snap n cs) h'):C dC [v] h Q:=by
 refine ACall.conv ?_
 refine kZ _ _ _ ?_
 unfold gF
 have hl:=r.len
 refine mZ r (fun h0=>?_) ?_
 ·refine ag (fun _=>?_) (fun hb=>by cases hb)
  subst h0
  have:cs=[]:=by simpa using hl
  subst this
  exact dT (k _ (Fr.refl _ _))
 ·refine ag (fun hb=>by cases hb) (fun _=>?_)
  refine aG rfl rfl ?_
  refine ov (St.start h) r hb (fun h0=>?_) fun i h1 hn s=>?_
  ·subst h0
   have:cs=[]:=by simpa using hl
   subst this
   exact dT (k _ (Fr.refl _ _))
  ·exact mN (s.get (.head _)) hl (k _ (s.kill .head).fr)
end
end Go.Proofs.YtbhphjpgjgigpaaGreatDoor.AL
namespace Go.Proofs.YtbhphjpgjgigpaaGreatDoor.AL
noncomputable section
variable [Tabs]
theorem Cc (c:UInt8):c.toNat.toUInt8=c:=by simp
theorem Tm {l:Str}{c:UInt8}{K:AV→Prop}(k:K (I (Lib.indexByte l c))):OY .index [T l,U8 c] K:=⟨by
 simp only[vS,Int.toNat_natCast,Cc];exact k⟩
theorem Te {l:Str}{c:UInt8}{K:AV→Prop}(k:K (I (l.count c:Nat))):OY .count [T l,U8 c] K:=⟨by
 simp only[vS,Int.toNat_natCast,Cc,Lib.countByte];exact k⟩
theorem F7 (l:Str) (c:UInt8) {h:ab}{Q:QT}(k:Q (I (Lib.indexByte l c)) h):C g7 [T l,U8 c] h Q:=by
 refine so _ _ _ _ ?_
 unfold og
 refine oP _ _ _ _ ?_
 unfold kF
 exact Tm k
theorem CI (l:Str) (c:UInt8):0≤Lib.indexByte l c↔c∈l:=by
 induction l with
 | nil=>simp[Lib.indexByte]
 | cons b l ih=>
   unfold Lib.indexByte
   by_cases hb:b=c
   ·subst hb;simp
   ·have:(b==c)=false:=by simpa using hb
    rw[this]
    simp only[Bool.false_eq_true,if_false,List.mem_cons,← ih]
    have hge:=Lib.indexByte_ge l c
    split
    ·rename_i h;simp at h;rw[h];simp[Ne.symm hb]
    ·rename_i h;simp at h
     constructor
     ·intro _;right;omega
     ·rintro (h|h)
      ·exact (hb h.symm).elim
      ·omega
def bM (c:UInt8):Str→List Str
 | []=>[[]]
 | x::l=>if x=c then []::bM c l else match bM c l with|[]=>[[x]]|p::ps=>(x::p)::ps
omit [Tabs] in
theorem jx (c:UInt8):∀ l:Str,(bM c l).length=l.count c+1
 | []=>rfl
 | x::l=>by
   have ih:=jx c l
   unfold bM
   by_cases hx:x=c
   ·subst hx;simp[ih]
   ·rw[if_neg hx,List.count_cons_of_ne (by simpa using hx)]
    cases h:bM c l with
    | nil=>rw[h]at ih;simp at ih
    | cons p ps=>rw[h]at ih;simpa using ih
omit [Tabs] in
theorem D9 {c:UInt8}:∀ {l:Str},c∉l→bM c l=[l]
 | [],_=>rfl
 | x::l,h=>by
   simp only[List.mem_cons,not_or]at h
   unfold bM
   rw[if_neg (Ne.symm h.1),D9 h.2]
omit [Tabs] in
theorem rh {c:UInt8}:∀ {a b:Str},c∉a→bM c (a++c::b)=a::bM c b
 | [],b,_=>by simp[bM]
 | x::a,b,h=>by
   simp only[List.mem_cons,not_or]at h
   rw[List.cons_append,bM,if_neg (Ne.symm h.1),rh h.2]
omit [Tabs] in
theorem Ig {c:UInt8}{l:Str}(h:c∉l):Lib.index l [c]=-1:=Lib.index_none fun j hj=>by
 unfold Lib.occAt
 rw[Bool.eq_false_iff];intro hp
 have:=List.isPrefixOf_iff_prefix.1 hp
 have hm:c∈l.drop j:=this.subset (by simp)
 exact h (List.mem_of_mem_drop hm)
omit [Tabs] in
theorem Jc {c:UInt8}{a b:Str}(h:c∉a):Lib.index (a++c::b) [c]=a.length:=Lib.index_first (by simp) (by simp[Lib.occAt]) fun j hj=>by
 unfold Lib.occAt
 rw[Bool.eq_false_iff];intro hp
 have:=List.isPrefixOf_iff_prefix.1 hp
 rw[List.drop_append_of_le_length (by omega),List.drop_eq_getElem_cons hj]at this
 simp only[List.cons_append,List.cons_prefix_cons]at this
 exact h (this.1 ▸ List.getElem_mem _)
omit [Tabs] in
theorem Q4 {c:UInt8}:∀ {l:Str},c∈l→∃ a b,l=a++c::b∧c∉a
 | [],h=>by simp at h
 | x::l,h=>by
   by_cases hx:x=c
   ·subst hx;exact⟨[],l,rfl,by simp⟩
   ·obtain⟨a,b,rfl,h2⟩:=Q4 (l:=l) (by simpa [Ne.symm hx] using h)
    exact⟨x::a,b,rfl,by simp[Ne.symm hx,h2]⟩
def gf:Prop:=∀ (s sub:Str) (h:ab) (Q:QT),s.length<4294967281→Q (I (Lib.index s sub)) h→C ig [T s,T sub] h Q
theorem yf (c:UInt8) (l:Str):0<(bM c l).length:=by rw[jx];omega
theorem Hq (n:Nat):List.replicate n (T [])=(List.replicate n ([]:Str)).flatMap fun x=>[T x]:=by
 induction n with
 | zero=>rfl
 | succ n ih=>simp[List.replicate_succ,ih]
theorem P5 (l:List Str):(l.flatMap fun x=>[T x])=l.map T:=by induction l<;>simp_all
theorem vp {l:List Str}{k:Nat}{x:Str}(h:k<l.length):splice (l.flatMap fun x=>[T x]) k [T x]=(l.set k x).flatMap fun x=>[T x]:=by
 rw[P5,P5]
 apply List.ext_getElem?;intro j
 rw[c5 (by simp;omega)]
 simp only[List.length_cons,List.length_nil,List.getElem?_map,List.getElem?_set]
 split
 ·rw[if_neg (by omega)]
 ·split
  ·have:j=k:=by omega
   subst this;simp[h]
  ·rw[if_neg (by omega)]
theorem DM (hI:gf) (c:UInt8) (l:Str) (hl:l.length<4000000000) {h:ab}{Q:QT}(k:∀ i h',St h [] h' [(i,true,.cells ((bM c l).flatMap fun x=>[T x]))]→Q (.sl i 0 (bM c l).length 1) h'):C fG [T l,T [c]] h Q:=by
 refine yg _ _ _ _ ?_
 unfold u5
 refine uB _ _ _ _ _ _ ?_
 unfold pI
 (repeat (first|refine aP ?_|refine aB ?_|refine bi ?_))
 refine xd _ _ _ _ ?_
 unfold uK
 (repeat (first|refine bD ?_|refine aB ?_))
 refine ag (fun _=>?_) (fun hb=>(by exfalso;first|(simp at hb;done)|(simp at hb;omega)|(revert hb;decide)|omega))
 refine co (l:=[c]) (i:=0) (by simp) ?_
 refine Te (c:=c) ?_
 have hcnt:=List.count_le_length (a:=c) (l:=l)
 have hsl:=jx c l
 (repeat (first|refine bD ?_|refine aH (by omega) ?_|refine Lh ?_))
 have e1:min ((l.count c:Int)+1) ((l.length:Int)+1)=((bM c l).length:Nat):=by rw[hsl];omega
 rw[e1]
 refine wt (St.start h) (Nat.le_refl _) (by omega) (by omega) fun i h1 s=>?_
 have s:St h [] h1 [(i,true,.cells (List.replicate (bM c l).length (T [])))]:=s
 rw[Hq]at s
 refine dD (by omega) ?_
 have e2:((bM c l).length:Int)-1=(((bM c l).length-1:Nat):Int):=by have:=yf c l;omega
 rw[e2]
 refine aR (fun n vs h'=>∃ (m:Nat) (r:Str) (ps:List Str),vs=[T r,I (m:Nat)]∧r.length≤l.length∧n+m=(bM c l).length∧ps.length=m∧bM c l=ps++bM c r∧St h [] h' [(i,true,.cells ((ps++List.replicate n []).flatMap fun x=>[T x]))]) (bM c l).length ⟨0,l,[],rfl,Nat.le_refl _,by omega,rfl,rfl,by simpa using s⟩ ?_
 rintro n vs h' ⟨m,r,ps,rfl,hr,hn,hps,hsp,s1⟩
 have hne:=yf c r
 have hrl:=jx c r
 have hlen:(bM c l).length=m+(bM c r).length:=by rw[hsp];simp[hps]
 have fin:c∉r→fA (T r) (I (m:Nat)) (.sl i 0 (bM c l).length 1) h' Q:=by
  intro hc
  rw[D9 hc]at hlen hsp
  simp at hlen
  have hn1:n=1:=by omega
  subst hn1
  unfold fA mp
  have R:Rd h' 1 (.sl i 0 (bM c l).length 1) (bM c l).length ((ps++List.replicate 1 []).flatMap fun x=>[T x]):=by
   have:=Rd.sl (sz:=1) (n:=(bM c l).length) (o:=0) (s1.get (.head _)) (by rw[gu _ 1 (fun _=>rfl)];simp;omega)
   rwa [List.drop_zero,List.take_of_length_le (by rw[gu _ 1 (fun _=>rfl)];simp;omega)]at this
  refine zU (by omega) ?_
  rw[Nat.mul_one]
  refine aF s1 .head rfl rfl rfl (by rw[gu _ 1 (fun _=>rfl)];simp;omega) fun h2 s2=>?_
  rw[show (T r).cells=[T r] from rfl,vp (by simp;omega)]at s2
  refine aH (by omega) ?_
  refine O2 (by omega) (by omega) ?_
  have e3:(ps++List.replicate 1 []).set m r=bM c l:=by
   rw[hsp,List.set_append_right _ _ (by omega),hps];simp
  rw[e3]at s2
  have e5:((m:Int)+1).toNat=(bM c l).length:=by rw[hsp];simp[hps]
  rw[e5]
  exact k _ _ s2
 unfold mr
 (repeat refine aP ?_)
 refine ag (fun hb=>?_) (fun hb=>?_)<;>simp only[za,zb,zc,zd,ze,zf,zg,zh,zi,u8i,zj,zk,zl]at hb
 ·refine hI r [c] _ _ (by omega) ?_
  by_cases hc:c∈r
  ·obtain⟨a,b,rfl,ha⟩:=Q4 hc
   rw[Jc ha]
   (repeat refine aP ?_)
   refine ag (fun hb=>(by exfalso;first|(simp at hb;done)|(simp at hb;omega)|(revert hb;decide)|omega)) (fun _=>?_)
   refine aH (by simp at hr;omega) ?_
   have e3:((a.length:Int)+0)=(a.length:Nat):=by omega
   rw[e3]
   refine mK (by omega) (by simp;omega) ?_
   rw[Int.toNat_natCast,List.take_left]
   rw[rh ha]at hlen
   have hnp:=yf c b
   refine zU (by simp at hlen;omega) ?_
   rw[Nat.mul_one]
   refine aF s1 .head rfl rfl rfl (by rw[gu _ 1 (fun _=>rfl)];simp;omega) fun h2 s2=>?_
   rw[show (T a).cells=[T a] from rfl,vp (by simp;omega)]at s2
   refine bD ?_
   refine aH (by simp at hr ⊢;omega) ?_
   have e4:((a.length:Int)+(([c]:Str).length:Nat))=((a.length+1:Nat):Int):=by simp
   rw[e4]
   refine gm (by omega) (by simp;omega) ?_
   rw[Int.toNat_natCast,show a.length+1=(a++[c]).length by simp,show a++c::b=(a++[c])++b by simp,List.drop_left]
   (repeat refine aH (by omega) ?_)
   rw[rh ha]at hsp
   simp at hlen
   refine⟨n-1,by omega,m+1,b,ps++[a],rfl,by simp at hr;omega,by omega,by simp[hps],by rw[hsp];simp,?_⟩
   have e5:(ps++List.replicate n []).set m a=ps++[a]++List.replicate (n-1) []:=by
    rw[List.set_append_right _ _ (by omega),hps,Nat.sub_self]
    obtain⟨q,rfl⟩:∃ q,n=q+1:=⟨n-1,by omega⟩
    simp[List.replicate_succ]
   rw[e5]at s2;exact s2
  ·rw[Ig hc]
   (repeat refine aP ?_)
   refine ag (fun _=>?_) (fun hb=>(by exfalso;first|(simp at hb;done)|(simp at hb;omega)|(revert hb;decide)|omega))
   exact fin hc
 ·refine fin fun hc=>?_
  have:0<r.count c:=List.count_pos_iff.2 hc
  simp[af]at hb
  omega
theorem Q2 (hI:gf) (c:UInt8) (l:Str) (hl:l.length<4000000000) {h:ab}{Q:QT}(k:∀ h',Fr [] h h'→Q (.snap (bM c l).length ((bM c l).flatMap fun x=>[T x])) h'):C fG [T l,T [c]] h Q:=by
 refine ACall.conv ?_
 refine DM hI c l hl fun i h' s=>?_
 exact mN (s.get (.head _)) (gu _ 1 (fun _=>rfl) _) (k _ (s.kill .head).fr)
end
end Go.Proofs.YtbhphjpgjgigpaaGreatDoor.AL
namespace Go.Proofs.YtbhphjpgjgigpaaGreatDoor.AL
noncomputable section
structure Rw where
 name:List UInt8
 bits:Nat
 kinds:List UInt8
def tbl:List Rw:=[
 ⟨[115,101,95,105,108,108,101,103,97,108],0,[]⟩,
 ⟨[115,101,95,105,115,121,110,99],1,[]⟩,
 ⟨[115,101,95,115,99],2,[]⟩,
 ⟨[115,101,95,98,108,114],4,[]⟩,
 ⟨[115,101,95,98,99,116,114],6,[]⟩,
 ⟨[115,101,95,110,111,116],32,[88]⟩,
 ⟨[115,101,95,110,101,103],48,[88]⟩,
 ⟨[115,101,95,109,102,108,114],128,[88]⟩,
 ⟨[115,101,95,109,116,108,114],144,[88]⟩,
 ⟨[115,101,95,109,102,99,116,114],160,[88]⟩,
 ⟨[115,101,95,109,116,99,116,114],176,[88]⟩,
 ⟨[115,101,95,101,120,116,122,98],192,[88]⟩,
 ⟨[115,101,95,101,120,116,115,98],208,[88]⟩,
 ⟨[115,101,95,101,120,116,122,104],224,[88]⟩,
 ⟨[115,101,95,101,120,116,115,104],240,[88]⟩,
 ⟨[115,101,95,109,114],256,[88,32,89]⟩,
 ⟨[115,101,95,97,100,100],1024,[88,32,89]⟩,
 ⟨[115,101,95,109,117,108,108,119],1280,[88,32,89]⟩,
 ⟨[115,101,95,115,117,98],1536,[88,32,89]⟩,
 ⟨[115,101,95,99,109,112],3072,[88,32,89]⟩,
 ⟨[115,101,95,99,109,112,108],3328,[88,32,89]⟩,
 ⟨[115,101,95,97,100,100,105],8192,[88,32,79,53]⟩,
 ⟨[115,101,95,99,109,112,108,105],8704,[88,32,79,53]⟩,
 ⟨[115,101,95,115,117,98,105],9216,[88,32,79,53]⟩,
 ⟨[115,101,95,99,109,112,105],10752,[88,32,85,53]⟩,
 ⟨[115,101,95,111,114],17408,[88,32,89]⟩,
 ⟨[115,101,95,97,110,100,99],17664,[88,32,89]⟩,
 ⟨[115,101,95,97,110,100],17920,[88,32,89]⟩,
 ⟨[115,101,95,108,105],18432,[88,32,85,55]⟩,
 ⟨[115,101,95,98,99,108,114,105],24576,[88,32,85,53]⟩,
 ⟨[115,101,95,98,115,101,116,105],25600,[88,32,85,53]⟩,
 ⟨[115,101,95,98,116,115,116,105],26112,[88,32,85,53]⟩,
 ⟨[115,101,95,115,114,119,105],26624,[88,32,85,53]⟩,
 ⟨[115,101,95,115,108,119,105],27648,[88,32,85,53]⟩,
 ⟨[115,101,95,108,98,122],32768,[89,32,77,49,32,88]⟩,
 ⟨[115,101,95,115,116,98],36864,[89,32,77,49,32,88]⟩,
 ⟨[115,101,95,108,104,122],40960,[89,32,77,50,32,88]⟩,
 ⟨[115,101,95,115,116,104],45056,[89,32,77,50,32,88]⟩,
 ⟨[115,101,95,108,119,122],49152,[89,32,77,52,32,88]⟩,
 ⟨[115,101,95,115,116,119],53248,[89,32,77,52,32,88]⟩,
 ⟨[115,101,95,98,99],57344,[79,49,32,73,50,32,84,56]⟩,
 ⟨[115,101,95,98],59392,[84,56]⟩,
 ⟨[115,101,95,98,108],59648,[84,56]⟩,
 ⟨[101,95,97,100,100,49,54,105],469762048,[68,32,65,32,83,49,54]⟩,
 ⟨[101,95,97,100,100,105],402685952,[68,32,65,32,67,56]⟩,
 ⟨[101,95,97,110,100,105],402702336,[65,32,68,32,67,56]⟩,
 ⟨[101,95,111,114,105],402706432,[65,32,68,32,67,56]⟩,
 ⟨[101,95,120,111,114,105],402710528,[65,32,68,32,67,56]⟩,
 ⟨[101,95,108,105],1879048192,[68,32,76,50,48]⟩,
 ⟨[101,95,108,98,122],805306368,[68,32,83,49,54,32,65]⟩,
 ⟨[101,95,115,116,98],872415232,[68,32,83,49,54,32,65]⟩,
 ⟨[101,95,108,104,97],939524096,[68,32,83,49,54,32,65]⟩,
 ⟨[101,95,108,119,122],1342177280,[68,32,83,49,54,32,65]⟩,
 ⟨[101,95,115,116,119],1409286144,[68,32,83,49,54,32,65]⟩,
 ⟨[101,95,108,104,122],1476395008,[68,32,83,49,54,32,65]⟩,
 ⟨[101,95,115,116,104],1543503872,[68,32,83,49,54,32,65]⟩,
 ⟨[101,95,98],2013265920,[84,50,52]⟩,
 ⟨[101,95,98,108],2013265921,[84,50,52]⟩,
 ⟨[101,95,98,99],2046820352,[79,50,32,73,52,32,84,49,53]⟩,
 ⟨[101,95,98,99,108],2046820353,[79,50,32,73,52,32,84,49,53]⟩,
 ⟨[97,100,100],2080375316,[68,32,65,32,66]⟩,
 ⟨[115,117,98,102],2080374864,[68,32,65,32,66]⟩,
 ⟨[109,117,108,108,119],2080375254,[68,32,65,32,66]⟩,
 ⟨[97,110,100],2080374840,[65,32,68,32,66]⟩,
 ⟨[111,114],2080375672,[65,32,68,32,66]⟩,
 ⟨[120,111,114],2080375416,[65,32,68,32,66]⟩]
def kindsL:List (List UInt8×List (List UInt8)):=[
 ([],[]),
 ([88],[[88]]),
 ([88,32,89],[[88],[89]]),
 ([88,32,79,53],[[88],[79,53]]),
 ([88,32,85,53],[[88],[85,53]]),
 ([88,32,85,55],[[88],[85,55]]),
 ([89,32,77,49,32,88],[[89],[77,49],[88]]),
 ([89,32,77,50,32,88],[[89],[77,50],[88]]),
 ([89,32,77,52,32,88],[[89],[77,52],[88]]),
 ([79,49,32,73,50,32,84,56],[[79,49],[73,50],[84,56]]),
 ([84,56],[[84,56]]),
 ([68,32,65,32,83,49,54],[[68],[65],[83,49,54]]),
 ([68,32,65,32,67,56],[[68],[65],[67,56]]),
 ([65,32,68,32,67,56],[[65],[68],[67,56]]),
 ([68,32,76,50,48],[[68],[76,50,48]]),
 ([68,32,83,49,54,32,65],[[68],[83,49,54],[65]]),
 ([84,50,52],[[84,50,52]]),
 ([79,50,32,73,52,32,84,49,53],[[79,50],[73,52],[84,49,53]]),
 ([68,32,65,32,66],[[68],[65],[66]]),
 ([65,32,68,32,66],[[65],[68],[66]])]
end
end Go.Proofs.YtbhphjpgjgigpaaGreatDoor.AL
set_option exponentiation.threshold 2000
namespace Go.Proofs.YtbhphjpgjgigpaaGreatDoor.AL
noncomputable section
open Ieee
theorem GO {m:Nat}(h:m≠0):2^m.log2≤m∧m<2^(m.log2+1):=⟨Nat.log2_self_le h,Nat.lt_log2_self⟩
theorem JO {neg:Bool}{m:Nat}(h0:m≠0) (h1:m<2^53):double.read (double.nearest neg m 0)=.number neg (m*2^(52-m.log2)) ((m.log2:Int)-52):=by
 obtain⟨hl,hu⟩:=GO h0
 have hL:m.log2≤52:=by
  have:m.log2<53:=(Nat.log2_lt h0).2 h1
  omega
 generalize hLe:m.log2=L at *
 have hp:2^L*2^(52-L)=2^52:=by rw[← Nat.pow_add];congr 1;omega
 have hp2:2^(L+1)*2^(52-L)=2^53:=by rw[← Nat.pow_add];congr 1;omega
 have hpos:0<2^(52-L):=Nat.two_pow_pos _
 have n1:2^52≤m*2^(52-L):=by rw[← hp];exact Nat.mul_le_mul_right _ hl
 have n2:m*2^(52-L)<2^53:=by rw[← hp2];exact Nat.mul_lt_mul_of_pos_right hu hpos
 generalize hn:m*2^(52-L)=n at *
 have hlast:max ((0:Int)+(L:Int)-(double.fractionBits:Int)) double.leastPlace=(L:Int)-52:=by
  show max ((0:Int)+(L:Int)-((52:Nat):Int)) (2-2^(11-1)-((52:Nat):Int))=_
  have:(2:Int)^(11-1)=1024:=by decide
  omega
 have hne:double.nearest neg m 0=double.word neg ((L+1022)*2^52+n):=by
  unfold Format.nearest
  rw[if_neg h0,hLe]
  simp only[hlast]
  have e1:((0:Int)-((L:Int)-52)).toNat=52-L:=by omega
  have e2:((L:Int)-52-0).toNat=0:=by omega
  have e3:((L:Int)-52-double.leastPlace).toNat=L+1022:=by
   have:double.leastPlace=-1074:=by decide
   omega
  have e4:Toward.even.cut neg (m <<< (52-L)) 0=n:=by
   rw[Nat.shiftLeft_eq,hn]
   unfold Toward.cut
   simp
   omega
  rw[e1,e2,e3,e4]
  have e5:double.binade=2^52:=rfl
  have e6:double.infRung=2047*2^52:=by decide
  rw[e5,e6,Nat.min_eq_left]
  omega
 rw[hne]
 have s1:double.signWeight=2^63:=by decide
 have e5:double.binade=2^52:=rfl
 have e6:double.infRung=2047*2^52:=by decide
 have e7:double.leastPlace=-1074:=by decide
 have hw:(double.word neg ((L+1022)*2^52+n)) / 2^63%2=neg.toNat∧(double.word neg ((L+1022)*2^52+n))%2^63=(L+1022)*2^52+n:=by
  unfold Format.word
  rw[s1]
  cases neg<;>simp<;>omega
 unfold Format.read
 simp only[s1,hw.1,hw.2,e5,e6,e7]
 rw[if_neg (by omega),if_pos (by omega)]
 congr 1
 ·cases neg<;>rfl
 ·omega
 ·omega
theorem wH {topE:Nat}(hE:topE=1074) (a:Int) (h:a.natAbs<2^53):∃ s m i,double.read (FloatKind.f64.nearest a)=.number s m i∧-1074≤i∧i≤0∧(if s=true then -((m:Int)*2^(i+topE).toNat) else (m:Int)*2^(i+topE).toNat)=a*2^topE:=by
 by_cases h0:a.natAbs=0
 ·have:a=0:=by omega
  subst this
  exact⟨false,0,-1074,by decide,by omega,by omega,by simp⟩
 ·refine⟨decide (a<0),_,_,JO h0 h,?_,?_,?_⟩
  ·omega
  ·have:a.natAbs.log2<53:=(Nat.log2_lt h0).2 h
   omega
  ·have hL:a.natAbs.log2<53:=(Nat.log2_lt h0).2 h
   generalize a.natAbs.log2=L at *
   have e1:((L:Int)-52+topE).toNat=L+1022:=by omega
   have e2:((a.natAbs*2^(52-L):Nat):Int)*2^((L:Int)-52+topE).toNat=(a.natAbs:Int)*2^topE:=by
    rw[e1,Int.natCast_mul,Int.mul_assoc,Int.natCast_pow,show ((2:Nat):Int)=2 from rfl,← Int.pow_add]
    rw[show 52-L+(L+1022)=topE by omega]
   rw[e2]
   generalize (2:Int)^1074=X
   by_cases hn:a<0
   ·rw[if_pos (by simpa using hn),← Int.neg_mul,show -(a.natAbs:Int)=a by omega]
   ·rw[if_neg (by simpa using hn),show (a.natAbs:Int)=a by omega]
theorem L8 {a b c:Int}(hc:0<c):compare (a*c) (b*c)=compare a b:=by
 simp only[compare,compareOfLessAndEq]
 by_cases h1:a<b
 ·rw[if_pos h1,if_pos ((Int.mul_lt_mul_right hc).2 h1)]
 ·rw[if_neg h1,if_neg (fun h=>h1 ((Int.mul_lt_mul_right hc).1 h))]
  by_cases h2:a=b
  ·subst h2;simp
  ·rw[if_neg h2,if_neg (fun h=>h2 (Int.eq_of_mul_eq_mul_right (by omega) h))]
theorem DK (s:Bool) (m a b:Nat):signed s m a*2^b=if s=true then -((m:Int)*2^(a+b)) else (m:Int)*2^(a+b):=by
 have h:((m <<< a:Nat):Int)*2^b=(m:Int)*2^(a+b):=by
  rw[Nat.shiftLeft_eq,Int.natCast_mul,Int.natCast_pow,Int.mul_assoc,Int.pow_add];rfl
 unfold signed
 cases s
 ·simpa using h
 ·simp only[if_true];rw[Int.neg_mul,h]
theorem u4 (a b:Int) (ha:a.natAbs<2^53) (hb:b.natAbs<2^53):FloatKind.f64.format.order (FloatKind.f64.nearest a) (FloatKind.f64.nearest b)=some (compare a b):=by
 obtain⟨topE,hE⟩:∃ E,E=1074:=⟨_,rfl⟩
 obtain⟨s,m,i,h1,h2,h3,h4⟩:=wH hE a ha
 obtain⟨t,n,j,k1,k2,k3,k4⟩:=wH hE b hb
 show (double.read (FloatKind.f64.nearest a)).order (double.read (FloatKind.f64.nearest b))=_
 rw[h1,k1]
 simp only[Datum.order]
 congr 1
 have hp:∀ n:Nat,(0:Int)<2^n:=fun n=>Int.pow_pos (by decide)
 rw[← L8 (hp (min i j+topE).toNat),DK,DK]
 rw[show (i-min i j).toNat+(min i j+topE).toNat=(i+topE).toNat by omega,show (j-min i j).toNat+(min i j+topE).toNat=(j+topE).toNat by omega,h4,k4]
 exact L8 (hp topE)
end
end Go.Proofs.YtbhphjpgjgigpaaGreatDoor.AL
namespace Go.Proofs.YtbhphjpgjgigpaaGreatDoor.AL
noncomputable section
variable [Tabs]
def Cd (r:Rw):List AV:=[T r.name,.lit (.int .u32 r.bits),T r.kinds]
theorem sZ (r:Rw):(Cd r).length=3:=rfl
set_option maxHeartbeats 4000000 in
theorem w6 {h:ab}{Q:QT}(k:Q (.full tbl.length (tbl.flatMap Cd)) h):C ib [] h Q:=by
 refine FZ _ _ ?_
 unfold Dt
 (repeat (first|refine aO rfl ?_|refine aG rfl rfl ?_))
 exact k
theorem Aa (h:ab):Row Cd 3 h (.full tbl.length (tbl.flatMap Cd)) tbl:=Row.full sZ tbl
def k9 (s:Str):Option Nat:=tbl.findIdx? fun r=>decide (r.name=s)
theorem Mt (s:Str) {h:ab}{Q:QT}(k:∀ h',Fr [] h h'→Q (.tup [I (((k9 s).getD 0:Nat):Int),B (k9 s).isSome]) h'):C oI [T s] h Q:=by
 refine HM _ _ _ ?_
 unfold HU
 refine dF (St.start h) rfl fun i h1 s1=>?_
 refine w6 ?_
 refine ti sZ _ (fun r=>decide (r.name=s)) tbl (by decide) (Aa h1) (fun x hx h2 Q f2 kq=>?_) fun h2 f2=>?_
 ·show ACall Pg oO _ _ _
  refine CX _ _ _ _ ?_
  unfold Cm
  have s2:=St.startr (f2.get (s1.get (.head _)) (by simp))
  refine dF s2 rfl fun j h3 s3=>?_
  (repeat (first|refine an ?_|refine bi ?_|refine aj ‹_› (by first|exact .head _|exact .tail _ (.head _)) rfl ?_))
  exact kq _ s3.fr
 ·(repeat (first|refine cy ?_|refine AE ?_))
  have e1:max (eY (fun r=>decide (r.name=s)) tbl) 0=(((k9 s).getD 0:Nat):Int):=by
   unfold eY k9
   cases tbl.findIdx? fun r=>decide (r.name=s) with
   | none=>rfl
   | some i=>simp
  have e2:decide (0≤eY (fun r=>decide (r.name=s)) tbl)=(k9 s).isSome:=by
   unfold eY k9
   cases tbl.findIdx? fun r=>decide (r.name=s) with
   | none=>rfl
   | some i=>simp
  rw[e1,e2]
  exact k _ ((s1.call f2).fr)
end
end Go.Proofs.YtbhphjpgjgigpaaGreatDoor.AL
namespace Go.Proofs.YtbhphjpgjgigpaaGreatDoor.AL
noncomputable section
variable [Tabs]
def ct:Prop:=∀ p∈kindsL,∀ (h:ab) (Q:QT),Q (.snap p.2.length (p.2.flatMap fun x=>[T x])) h→C dX [T p.1] h Q
def dq:Prop:=∀ b∈[8,15,19,24],∀ (h:ab) (Q:QT),Q (.lit (.float .f64 (FloatKind.f64.nearest (2^b:Nat)))) h→C pt [.lit (.float .f64 4607182418800017408),I (b:Nat)] h Q
def cS (k:Str):List Str:=((kindsL.find? fun p=>decide (p.1=k)).map (·.2)).getD []
omit [Tabs] in
theorem NH:∀ r∈tbl,(r.kinds,cS r.kinds)∈kindsL:=by decide
theorem yj (hF:ct) {r:Rw}(hr:r∈tbl) {h:ab}{Q:QT}(k:Q (.snap (cS r.kinds).length ((cS r.kinds).flatMap fun x=>[T x])) h):C dX [T r.kinds] h Q:=hF _ (NH r hr) h Q k
abbrev B2 (op:Nat):Str:=(tbl[op]?.map (·.name)).getD []
abbrev aZ (op:Nat):Str:=(tbl[op]?.map (·.kinds)).getD []
abbrev Gp (op:Nat):Nat:=(tbl[op]?.map (·.bits)).getD 0
theorem Pu (r:Rw) {h:ab}{Q:QT}(k:∀ h',Fr [] h h'→Q (T r.name) h'):C kY [.agg (Cd r)] h Q:=by
 refine xH _ _ _ ?_
 unfold va
 refine dF (St.start h) rfl fun i h1 s1=>?_
 (repeat (first|refine an ?_|refine aj ‹_› (.head _) rfl ?_))
 exact k _ s1.fr
theorem H2 (r:Rw) {h:ab}{Q:QT}(k:∀ h',Fr [] h h'→Q (T r.kinds) h'):C iI [.agg (Cd r)] h Q:=by
 refine uo _ _ _ ?_
 unfold pS
 refine dF (St.start h) rfl fun i h1 s1=>?_
 (repeat (first|refine an ?_|refine aj ‹_› (.head _) rfl ?_))
 exact k _ s1.fr
theorem SN (r:Rw) {h:ab}{Q:QT}(k:∀ h',Fr [] h h'→Q (.lit (.int .u32 r.bits)) h'):C lz [.agg (Cd r)] h Q:=by
 refine CS _ _ _ ?_
 unfold BA
 refine dF (St.start h) rfl fun i h1 s1=>?_
 (repeat (first|refine an ?_|refine aj ‹_› (.head _) rfl ?_))
 exact k _ s1.fr
theorem Se (hF:ct) {r:Rw}(hr:r∈tbl) {h:ab}{Q:QT}(k:∀ h',Fr [] h h'→Q (.snap (cS r.kinds).length ((cS r.kinds).flatMap fun x=>[T x])) h'):C je [.agg (Cd r)] h Q:=by
 refine zD _ _ _ ?_
 unfold wZ
 refine dF (St.start h) rfl fun i h1 s1=>?_
 (repeat (first|refine an ?_|refine aj ‹_› (.head _) rfl ?_))
 refine yj hF hr ?_
 exact k _ s1.fr
theorem Q1 {op:Nat}(ho:op<tbl.length) (fv:AV) {h:ab}{Q:QT}(k:CV fv [.agg (Cd tbl[op])] h Q):C ii [I (op:Nat),fv] h Q:=by
 refine xN _ _ _ _ ?_
 unfold uN
 refine w6 ?_
 (repeat (first|refine ep ?_|refine aP ?_|refine cy ?_))
 refine ag (fun _=>?_) (fun hb=>(by exfalso;first|(simp at hb;done)|(simp at hb;omega)|(revert hb;decide)|omega))
 refine (Aa h).idx sZ ho fun p t=>?_
 refine cb t rfl ?_
 exact k
theorem TU {op:Nat}(ho:op<tbl.length) (fv:AV) {h:ab}{Q:QT}(k:CV fv [.agg (Cd tbl[op])] h Q):C kQ [I (op:Nat),fv] h Q:=by
 refine xC _ _ _ _ ?_
 unfold uZ
 refine w6 ?_
 (repeat (first|refine ep ?_|refine aP ?_|refine cy ?_))
 refine ag (fun _=>?_) (fun hb=>(by exfalso;first|(simp at hb;done)|(simp at hb;omega)|(revert hb;decide)|omega))
 refine (Aa h).idx sZ ho fun p t=>?_
 refine cb t rfl ?_
 exact k
theorem Uh {op:Nat}(ho:op<tbl.length) (fv:AV) {h:ab}{Q:QT}(k:CV fv [.agg (Cd tbl[op])] h Q):C j6 [I (op:Nat),fv] h Q:=by
 refine v6 _ _ _ _ ?_
 unfold td
 refine w6 ?_
 (repeat (first|refine ep ?_|refine aP ?_|refine cy ?_))
 refine ag (fun _=>?_) (fun hb=>(by exfalso;first|(simp at hb;done)|(simp at hb;omega)|(revert hb;decide)|omega))
 refine (Aa h).idx sZ ho fun p t=>?_
 refine cb t rfl ?_
 exact k
omit [Tabs] in
theorem xE {op:Nat}(ho:op<tbl.length):B2 op=tbl[op].name:=by simp[B2,ho]
omit [Tabs] in
theorem g9 {op:Nat}(ho:op<tbl.length):aZ op=tbl[op].kinds:=by simp[aZ,ho]
omit [Tabs] in
theorem OL {op:Nat}(ho:op<tbl.length):Gp op=tbl[op].bits:=by simp[Gp,ho]
theorem L3 {op:Nat}(ho:op<tbl.length) {h:ab}{Q:QT}(k:∀ h',Fr [] h h'→Q (T (B2 op)) h'):C ox [I (op:Nat)] h Q:=by
 refine I7 _ _ _ ?_
 unfold GR
 refine Q1 ho _ ?_
 rw[xE ho]at k
 exact Pu _ k
theorem II {op:Nat}(ho:op<tbl.length) {h:ab}{Q:QT}(k:∀ h',Fr [] h h'→Q (T (aZ op)) h'):C mR [I (op:Nat)] h Q:=by
 refine EF _ _ _ ?_
 unfold Ef
 refine Q1 ho _ ?_
 rw[g9 ho]at k
 exact H2 _ k
def jt (op:Nat):Nat:=if op<43 then 2 else 4
omit [Tabs] in
theorem Me:∀ r∈tbl,r.name≠[]:=by decide
theorem LY {op:Nat}(ho:op<tbl.length) {h:ab}{Q:QT}(k:∀ h',Fr [] h h'→Q (I (jt op:Nat)) h'):C nS [I (op:Nat)] h Q:=by
 refine I6 _ _ _ ?_
 unfold GJ
 refine L3 ho fun h1 f1=>?_
 (repeat refine bi ?_)
 have hn:B2 op≠[]:=by rw[xE ho];exact Me _ (by simp)
 refine ag (fun hb=>absurd (by simpa using hb) hn) (fun _=>?_)
 (repeat refine aP ?_)
 refine ag (fun hb=>?_) (fun hb=>?_)<;>simp only[za,zb,zc,zd,ze,zf,zg,zh,zi,u8i,zj,zk,zl]at hb
 ·have:=k h1 f1
  rw[jt,if_pos (by omega)]at this;exact this
 ·have:=k h1 f1
  rw[jt,if_neg (by omega)]at this;exact this
abbrev zG (k:IntKind) (a b:Int):Int:=k.wrap ((BitVec.ofInt k.bits a &&& BitVec.ofInt k.bits b).toNat:Int)
abbrev orI (k:IntKind) (a b:Int):Int:=k.wrap ((BitVec.ofInt k.bits a ||| BitVec.ofInt k.bits b).toNat:Int)
abbrev Gs (k:IntKind) (a:Int) (n:Nat):Int:=k.wrap (a*2^(min n k.bits))
abbrev F5 (k:IntKind) (a:Int) (n:Nat):Int:=a.fdiv (2^(min n k.bits))
theorem IJ (v:Int) {h:ab}{Q:QT}(k:Q (.tup [I (zG .i64 (F5 .i64 v 16) 15),I (zG .i64 (F5 .i64 v 11) 31),I (zG .i64 v 2047)]) h):C qZ [I v] h Q:=by
 refine Gv _ _ _ ?_
 unfold DD
 refine sb (by omega) ?_
 refine mM ?_
 refine sb (by omega) ?_
 refine mM ?_
 refine mM ?_
 exact k
def Tx (v:Int) (b:Nat):Int:=F5 .i64 (Gs .i64 v (64-b)) (64-b)
theorem RX (v:Int) (b:Nat) (h1:1≤b) (h2:b≤64) {h:ab}{Q:QT}(k:Q (I (Tx v b)) h):C tQ [I v,I (b:Nat)] h Q:=by
 refine G7 _ _ _ _ ?_
 unfold HD
 refine AE ?_
 refine Lh ?_
 have e:min (max (b:Int) 1) 64=(b:Int):=by omega
 rw[e]
 refine dD (by omega) ?_
 refine iJ (by omega) ?_
 refine sb (by omega) ?_
 have e2:((64:Int)-(b:Int)).toNat=64-b:=by omega
 rw[e2]
 exact k
def HG (f s ui v k:Int):Int:=orI .i64 (Gs .i64 v 8) (if k=s then zG .i64 ui 255 else if f=1 then 255 else 0)
def Ea (f s ui:Int):Int:=Tx (HG f s ui (HG f s ui (HG f s ui (HG f s ui 0 3) 2) 1) 0) 32
theorem qw (f s ui v:Int) (k:Int) (hk:0≤k) (hk2:k<10) (Q:QT) {h:ab}(next:NT) (q:next [I (HG f s ui v k),I (k-1)] h):oJ (I f) (I s) (I ui) Q [I v,I k] h next:=by
 unfold oJ
 refine cy ?_
 refine ag (fun _=>?_) (fun hb=>absurd hb (by simpa [af] using hk))
 have fin:∀ b,b=(if k=s then zG .i64 ui 255 else if f=1 then 255 else 0)→ol (I b) (I v) (I k) h next:=by
  intro b hb
  unfold ol
  refine iJ (by omega) ?_
  refine qY ?_
  refine dD (by omega) ?_
  subst hb
  exact q
 have mid:∀ b,b=(if f=1 then (255:Int) else 0)→ow (I b) (I v) (I k) (I s) (I ui) h next:=by
  intro b hb
  unfold ow
  refine aB ?_
  refine ag (fun hc=>?_) (fun hc=>?_)<;>simp only[za,zb,zc,zd,ze,zf,zg,zh,zi,u8i,zj,zk,zl]at hc
  ·refine mM ?_
   exact fin _ (by rw[if_pos hc])
  ·exact fin _ (by rw[if_neg hc,hb])
 refine aB ?_
 refine ag (fun hc=>?_) (fun hc=>?_)<;>simp only[za,zb,zc,zd,ze,zf,zg,zh,zi,u8i,zj,zk,zl]at hc
 ·exact mid _ (by rw[if_pos hc])
 ·exact mid _ (by rw[if_neg hc])
theorem Sj (f s ui:Int) {h:ab}{Q:QT}(k:Q (I (Ea f s ui)) h):C tO [I f,I s,I ui] h Q:=by
 refine GW _ _ _ _ _ ?_
 unfold G8
 refine G9 5 ?_
 refine uT (qw f s ui 0 3 (by omega) (by omega) _ _ (oF ?_))
 refine uT (qw f s ui _ 2 (by omega) (by omega) _ _ (oF ?_))
 refine uT (qw f s ui _ 1 (by omega) (by omega) _ _ (oF ?_))
 refine uT (qw f s ui _ 0 (by omega) (by omega) _ _ (oF ?_))
 refine uT ?_
 unfold oJ
 refine cy ?_
 refine ag (fun hb=>absurd hb (by simp[af])) (fun _=>?_)
 exact RX _ 32 (by omega) (by omega) k
theorem UF (f s ui:Int) {h:ab}{Q:QT}(k:∀ h',Fr [] h h'→Q (I (Ea f s ui)) h'):C g0 [.agg [I f,I s],I ui] h Q:=by
 refine Az _ _ _ _ ?_
 unfold yA
 refine dF (St.start h) rfl fun i h1 s1=>?_
 (repeat (first|refine an ?_|refine aj ‹_› (.head _) rfl ?_))
 exact Sj f s ui (k _ s1.fr)
def Bi (v f s:Int):Int:=eY (fun ui:Nat=>decide (Ea f s ui=v)) (List.range 256)
theorem RP (v f s:Int) {h:ab}{Q:QT}(k:∀ h',Fr [] h h'→Q (I (Bi v f s)) h'):C ri [I v,.fn (.func g0) [.agg [I f,I s]] []] h Q:=by
 refine FV _ _ _ _ ?_
 unfold D0
 refine aR (fun n vs h'=>Fr [] h h'∧∃ i:Nat,∃ b,vs=[b,I (i:Nat)]∧n+i=256∧∀ j (hj:j<i),decide (Ea f s j=v)=false) 256 ⟨Fr.refl _ _,0,_,rfl,by omega,fun j hj=>by omega⟩ ?_
 rintro n vs h' ⟨f1,i,b,rfl,hn,ha⟩
 unfold w8
 (repeat refine aP ?_)
 refine ag (fun hb=>?_) (fun hb=>?_)<;>simp only[za,zb,zc,zd,ze,zf,zg,zh,zi,u8i,zj,zk,zl]at hb
 ·have hi:i<256:=by omega
  show ACall Pg g0 [.agg [I f,I s],I (i:Nat)] h' _
  refine UF f s i fun h2 f2=>?_
  refine aB ?_
  have hlen:i<(List.range 256).length:=by simpa using hi
  refine ag (fun hc=>?_) (fun hc=>?_)<;>simp only[za,zb,zc,zd,ze,zf,zg,zh,zi,u8i,zj,zk,zl]at hc
  ·have:=k h2 (f1.trans f2 (by simp))
   unfold Bi at this
   rw[jv (p:=fun ui:Nat=>decide (Ea f s ui=v)) hlen (by simpa using hc) fun j hj=>by simpa using ha j hj]at this
   exact this
  ·(repeat refine aH (by omega) ?_)
   refine⟨n-1,by omega,f1.trans f2 (by simp),i+1,_,rfl,by omega,fun j hj=>?_⟩
   rcases Nat.lt_or_eq_of_le (Nat.le_of_lt_succ hj) with h1|h1
   ·exact ha j h1
   ·subst h1;simpa using hc
 ·have:=k h' f1
  unfold Bi at this
  rw[gg (p:=fun ui:Nat=>decide (Ea f s ui=v)) fun j hj=>by simpa using ha j (by simp at hj;omega)]at this
  exact this
def formsL:List (Int×Int):=[(0,0),(0,1),(0,2),(0,3),(1,0),(1,1),(1,2),(1,3)]
def L0 (x:Int×Int):List AV:=[I x.1,I x.2]
def LU (v:Int):List (Int×Int)→Option (Int×Int×Int)
 | []=>none
 | x::l=>if 0≤Bi v x.1 x.2 then some (x.1,x.2,Bi v x.1 x.2) else LU v l
abbrev SG (v:Int):Option (Int×Int×Int):=LU v formsL
theorem PN {h:ab}{Q:QT}(k:Q (.full formsL.length (formsL.flatMap L0)) h):C qp [] h Q:=by
 refine E8 _ _ ?_
 unfold Ey
 (repeat (first|refine aO rfl ?_|refine aG rfl rfl ?_))
 exact k
def Vb (o:Option (Int×Int×Int)):AV:=match o with
 | some (f,s,ui)=>.tup [I f,I s,I ui,B true]
 | none=>.tup [I 0,I 0,I 0,B false]
theorem Sw (v:Int) {h:ab}{Q:QT}(k:∀ h',Fr [] h h'→Q (Vb (SG v)) h'):C tg [I v] h Q:=by
 refine H0 _ _ _ ?_
 unfold IG
 refine PN ?_
 have R:∀ h,Row L0 2 h (.full formsL.length (formsL.flatMap L0)) formsL:=fun h=>Row.full (enc:=L0) (fun _=>rfl) formsL
 refine (R h).len ?_
 refine aR (fun n vs h'=>Fr [] h h'∧∃ (i:Nat) (a b c d:AV),vs=[a,b,c,d,I (i:Nat)]∧n+i=8∧SG v=LU v (formsL.drop i)) 8 ⟨Fr.refl _ _,0,_,_,_,_,rfl,by omega,rfl⟩ ?_
 rintro n vs h' ⟨f1,i,a,b,c,d,rfl,hn,hs⟩
 unfold yW
 (repeat refine aP ?_)
 refine ag (fun hb=>?_) (fun hb=>?_)<;>simp only[za,zb,zc,zd,ze,zf,zg,zh,zi,u8i,zj,zk,zl]at hb
 ·have hi:i<formsL.length:=hb
  have e8:formsL.length=8:=rfl
  refine (R h').idx (fun _=>rfl) hi fun p t=>?_
  refine cb t rfl ?_
  have s:=(St.start h).call f1
  refine bk s fun q h2 s2=>?_
  refine aF s2 .head rfl rfl rfl (by decide) fun h3 s3=>?_
  (repeat refine aW ‹_› (.head _) (nle rfl) ?_)
  refine RP v formsL[i].1 formsL[i].2 fun h4 f4=>?_
  have s4:=s3.call f4
  rw[List.drop_eq_getElem_cons hi,LU]at hs
  (repeat refine cy ?_)
  refine ag (fun hc=>?_) (fun hc=>?_)<;>simp only[za,zb,zc,zd,ze,zf,zg,zh,zi,u8i,zj,zk,zl]at hc
  ·(repeat (first|refine an ?_|refine aj ‹_› (.head _) rfl ?_))
   rw[if_pos hc]at hs
   have:=k h4 s4.fr
   rw[hs]at this
   exact this
  ·(repeat refine aH (by omega) ?_)
   rw[if_neg (by omega)]at hs
   exact⟨n-1,by omega,s4.fr,i+1,_,_,_,_,rfl,by omega,hs⟩
 ·have:=k h' f1
  rw[hs,List.drop_of_length_le (by simp[af]at hb;simpa using hb)]at this
  exact this
