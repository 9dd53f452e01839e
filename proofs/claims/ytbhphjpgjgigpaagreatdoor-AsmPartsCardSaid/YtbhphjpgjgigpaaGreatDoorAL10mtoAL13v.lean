import Derived.Test.YtbhphjpgjgigpaaGreatDoorAL9toAL10
import Derived.Laws.Externs
import Derived.Lib.Bytealg
set_option linter.all false
set_option autoImplicit true
set_option relaxedAutoImplicit true
set_option maxRecDepth 100000
namespace Go.Proofs.YtbhphjpgjgigpaaGreatDoor.AL
section
variable [Tabs]
section
variable {P:Program}
theorem MR {K K':AV→Prop}(hk:∀ v,K v→K' v) (op:BinOp) (x y:AV) (k:yZ op x y K):yZ op x y K':=by
 unfold yZ at *
 (repeat' split at k)<;>first|exact k.elim|simp_all
theorem JL {K K':AV→Prop}(hk:∀ v,K v→K' v) (op:BinOp) (x y:AV) (k:rI op x y K):rI op x y K':=by
 unfold rI at *
 (repeat' split at k)<;>first|exact k.elim|simp_all
theorem Jv {K K':AV→Prop}(hk:∀ v,K v→K' v) (op:BinOp) (x y:AV) (k:rQ op x y K):rQ op x y K':=by
 unfold rQ at *
 (repeat' split at k)<;>first|exact k.elim|simp_all
theorem Pd {K K':AV→Prop}(hk:∀ v,K v→K' v) (op:UnOp) (x:AV) (k:pUn op x K):pUn op x K':=by
 unfold pUn at *
 (repeat' split at k)<;>first|exact k.elim|simp_all
theorem FD {K K':AV→Prop}(hk:∀ v,K v→K' v) (d:IntKind) (x:AV) (k:j5 d x K):j5 d x K':=by
 unfold j5 at *
 (repeat' split at k)<;>first|exact k.elim|simp_all
theorem FQ {K K':AV→Prop}(hk:∀ v,K v→K' v) (d:FloatKind) (x:AV) (k:j1 d x K):j1 d x K':=by
 unfold j1 at *
 (repeat' split at k)<;>first|exact k.elim|simp_all
theorem Fm {K K':AV→Prop}(hk:∀ v,K v→K' v) (x:AV) (k:j3 x K):j3 x K':=by
 unfold j3 at *
 (repeat' split at k)<;>first|exact k.elim|simp_all
theorem MI {K K':AV→Prop}(hk:∀ v,K v→K' v) (x:AV) (k:CA x K):CA x K':=by
 unfold CA at *
 (repeat' split at k)<;>first|exact k.elim|simp_all
theorem y3 {K K':AV→Prop}(hk:∀ v,K v→K' v) (n:Nat) (x:AV) (k:em n x K):em n x K':=by
 unfold em at *
 (repeat' split at k)<;>first|exact k.elim|simp_all
theorem IT {K K':AV→Prop}(hk:∀ v,K v→K' v) (n:Nat) (x:AV) (h:ab) (k:kR n x h K):kR n x h K':=by
 unfold kR at *
 (repeat' split at k)<;>first|exact k.elim|simp_all
theorem Ie {K K':AV→Prop}(hk:∀ v,K v→K' v) (x:AV) (h:ab) (k:kT x h K):kT x h K':=by
 unfold kT at *
 (repeat' split at k)<;>first|exact k.elim|simp_all
theorem Gq {K K':AV→Prop}(hk:∀ v,K v→K' v) (o n:Nat) (x:AV) (k:nq o n x K):nq o n x K':=by
 unfold nq at *
 (repeat' split at k)<;>first|exact k.elim|simp_all
theorem Ig {K K':AV→Prop}(hk:∀ v,K v→K' v) (o:Nat) (x:AV) (k:m6 o x K):m6 o x K':=by
 unfold m6 at *
 (repeat' split at k)<;>first|exact k.elim|simp_all
theorem Fq {K K':AV→Prop}(hk:∀ v,K v→K' v) (x i:AV) (k:ja x i K):ja x i K':=by
 unfold ja at *
 (repeat' split at k)<;>first|exact k.elim|simp_all
theorem yY {K K':AV→Prop}(hk:∀ v,K v→K' v) (n:Nat) (x i:AV) (k:dA n x i K):dA n x i K':=by
 unfold dA at *
 (repeat' split at k)<;>first|exact k.elim|simp_all
theorem xg {K K':AV→Prop}(hk:∀ v,K v→K' v) (m n:Nat) (x i:AV) (k:cP m n x i K):cP m n x i K':=by
 unfold cP at *
 (repeat' split at k)<;>first|exact k.elim|simp_all
theorem Ey {K K':AV→Prop}(hk:∀ v,K v→K' v) (x:AV) (a b:Option AV) (k:gF x a b K):gF x a b K':=by
 unfold gF at *
 (repeat' split at k)<;>first|exact k.elim|simp_all
theorem E8 {K K':AV→Prop}(hk:∀ v,K v→K' v) (n:Nat) (x:AV) (a b:Option AV) (k:gx n x a b K):gx n x a b K':=by
 unfold gx at *
 (repeat' split at k)<;>first|exact k.elim|simp_all
theorem FY {K K':AV→Prop}(hk:∀ v,K v→K' v) (x:AV) (k:jO x K):jO x K':=by
 unfold jO at *
 (repeat' split at k)<;>first|exact k.elim|simp_all
theorem KO {K K':AV→Prop}(hk:∀ v,K v→K' v) (x:AV) (k:uW x K):uW x K':=by
 unfold uW at *
 (repeat' split at k)<;>first|exact k.elim|simp_all
theorem Jj {K K':AV→Prop}(hk:∀ v,K v→K' v) (x:AV) (k:uC x K):uC x K':=by
 unfold uC at *
 (repeat' split at k)<;>first|exact k.elim|simp_all
theorem JQ {K K':AV→Prop}(hk:∀ v,K v→K' v) (x:AV) (h:ab) (k:uD x h K):uD x h K':=by
 unfold uD at *
 (repeat' split at k)<;>first|exact k.elim|simp_all
theorem CQ {K K':AV→Prop}(hk:∀ v,K v→K' v) (i:Nat) (x:AV) (k:gg i x K):gg i x K':=by
 unfold gg at *
 (repeat' split at k)<;>first|exact k.elim|simp_all
theorem N2 {K K':AV→Prop}(hk:∀ v,K v→K' v) (x y:AV) (k:y9 x y K):y9 x y K':=by
 unfold y9 at *
 split at k
 ·exact hk _ k
 ·exact k.elim
theorem NK {K K':AV→Prop}(hk:∀ v,K v→K' v) (x y:AV) (k:zn x y K):zn x y K':=by
 unfold zn at *
 split at k
 ·exact hk _ k
 ·exact k.elim
theorem G6 {K K':AV→Prop}(hk:∀ v,K v→K' v) (z:List AV) (ps:List (Nat×Nat×AV)) (k:ma z ps K):ma z ps K':=by
 unfold ma at *
 (repeat' split at k)<;>first|exact k.elim|simp_all
theorem pM {K K':AV→Prop}(hk:∀ v,K v→K' v) (op:BinOp) (x y:AV) (k:ag op x y K):ag op x y K':=⟨MR hk op x y k.out⟩
theorem vd {K K':AV→Prop}(hk:∀ v,K v→K' v) (op:BinOp) (x y:AV) (k:Dr op x y K):Dr op x y K':=⟨JL hk op x y k.out⟩
theorem u4 {K K':AV→Prop}(hk:∀ v,K v→K' v) (op:BinOp) (x y:AV) (k:Dn op x y K):Dn op x y K':=⟨Jv hk op x y k.out⟩
theorem AP {K K':AV→Prop}(hk:∀ v,K v→K' v) (op:UnOp) (x:AV) (k:qUn op x K):qUn op x K':=⟨Pd hk op x k.out⟩
theorem qO {K K':AV→Prop}(hk:∀ v,K v→K' v) (d:IntKind) (x:AV) (k:ct d x K):ct d x K':=⟨FD hk d x k.out⟩
theorem qM {K K':AV→Prop}(hk:∀ v,K v→K' v) (d:FloatKind) (x:AV) (k:oA d x K):oA d x K':=⟨FQ hk d x k.out⟩
theorem qB {K K':AV→Prop}(hk:∀ v,K v→K' v) (x:AV) (k:tV x K):tV x K':=⟨Fm hk x k.out⟩
theorem xO {K K':AV→Prop}(hk:∀ v,K v→K' v) (x:AV) (k:aE x K):aE x K':=⟨MI hk x k.out⟩
theorem md {K K':AV→Prop}(hk:∀ v,K v→K' v) (n:Nat) (x:AV) (k:ae n x K):ae n x K':=⟨y3 hk n x k.out⟩
theorem fK {K K':AV→Prop}(hk:∀ v,K v→K' v) (n:Nat) (x:AV) (h:ab) (k:ay n x h K):ay n x h K':=⟨IT hk n x h k.out⟩
theorem fJ {K K':AV→Prop}(hk:∀ v,K v→K' v) (x:AV) (h:ab) (k:ah x h K):ah x h K':=⟨Ie hk x h k.out⟩
theorem tw {K K':AV→Prop}(hk:∀ v,K v→K' v) (o n:Nat) (x:AV) (k:xJ o n x K):xJ o n x K':=⟨Gq hk o n x k.out⟩
theorem sA {K K':AV→Prop}(hk:∀ v,K v→K' v) (o:Nat) (x:AV) (k:xi o x K):xi o x K':=⟨Ig hk o x k.out⟩
theorem qp {K K':AV→Prop}(hk:∀ v,K v→K' v) (x i:AV) (k:bM x i K):bM x i K':=⟨Fq hk x i k.out⟩
theorem gh {K K':AV→Prop}(hk:∀ v,K v→K' v) (n:Nat) (x i:AV) (k:am n x i K):am n x i K':=⟨yY hk n x i k.out⟩
theorem ed {K K':AV→Prop}(hk:∀ v,K v→K' v) (m n:Nat) (x i:AV) (k:dK m n x i K):dK m n x i K':=⟨xg hk m n x i k.out⟩
theorem q0 {K K':AV→Prop}(hk:∀ v,K v→K' v) (x:AV) (a b:Option AV) (k:bk x a b K):bk x a b K':=⟨Ey hk x a b k.out⟩
theorem qC {K K':AV→Prop}(hk:∀ v,K v→K' v) (n:Nat) (x:AV) (a b:Option AV) (k:ln n x a b K):ln n x a b K':=⟨E8 hk n x a b k.out⟩
theorem qh {K K':AV→Prop}(hk:∀ v,K v→K' v) (x:AV) (k:wl x K):wl x K':=⟨FY hk x k.out⟩
theorem vt {K K':AV→Prop}(hk:∀ v,K v→K' v) (x:AV) (k:ce x K):ce x K':=⟨KO hk x k.out⟩
theorem vI {K K':AV→Prop}(hk:∀ v,K v→K' v) (x:AV) (k:bd x K):bd x K':=⟨Jj hk x k.out⟩
theorem va {K K':AV→Prop}(hk:∀ v,K v→K' v) (x:AV) (h:ab) (k:DF x h K):DF x h K':=⟨JQ hk x h k.out⟩
theorem oO {K K':AV→Prop}(hk:∀ v,K v→K' v) (i:Nat) (x:AV) (k:aj i x K):aj i x K':=⟨CQ hk i x k.out⟩
theorem w8 {K K':AV→Prop}(hk:∀ v,K v→K' v) (x y:AV) (k:xA x y K):xA x y K':=⟨N2 hk x y k.out⟩
theorem xj {K K':AV→Prop}(hk:∀ v,K v→K' v) (x y:AV) (k:BZ x y K):BZ x y K':=⟨NK hk x y k.out⟩
theorem tq {K K':AV→Prop}(hk:∀ v,K v→K' v) (z:List AV) (ps:List (Nat×Nat×AV)) (k:aq z ps K):aq z ps K':=⟨G6 hk z ps k.out⟩
theorem xY {K K':AV→Prop}(hk:∀ v,K v→K' v) (n m:Nat) (vs:List AV) (k:fP n m vs K):fP n m vs K':=⟨k.1,hk _ k.2⟩
theorem HN {K K':ab→Prop}(hk:∀ v,K v→K' v) (n:Nat) (x y:AV) (h:ab) (k:qS n x y h K):qS n x y h K':=by
 unfold qS at *
 (repeat' split at k)<;>first|exact k.elim|exact⟨k.1,hk _ k.2⟩
theorem EH {K K':QT}(hk:∀ v h,K v h→K' v h) (n m:Nat) (x y:AV) (h:ab) (k:j0 n m x y h K):j0 n m x y h K':=by
 unfold j0 at *
 split at k
 ·exact k.elim
 ·split at k
  ·refine⟨k.1,?_⟩
   have k2:=k.2
   split at k2
   ·rename_i h0;rw[if_pos h0];exact hk _ _ k2
   ·rename_i h0;rw[if_neg h0];exact hk _ _ k2
  ·split at k
   ·exact⟨k.1,hk _ _ k.2⟩
   ·exact k.elim
  ·exact k.elim
theorem HW {K K':QT}(hk:∀ v h,K v h→K' v h) (x:AV) (vs:List AV) (h:ab) (k:qu P x vs h K):qu P x vs h K':=by
 unfold qu at *
 split at k
 ·exact k.mono hk
 ·exact k.elim
theorem bg {K K':AV→Prop}(hk:∀ v,K v→K' v) (o:Option AV) (k:bJ o K):bJ o K':=by
 unfold bJ at *;split at k
 ·exact hk _ k
 ·exact k.elim
theorem en {K K':List AV→Prop}(hk:∀ v,K v→K' v) (o:Option (List AV)) (k:dC o K):dC o K':=by
 unfold dC at *;split at k
 ·exact hk _ k
 ·exact k.elim
theorem vD {K K':Option AV→Prop}(hk:∀ v,K v→K' v) (o:Option (Option AV)) (k:wc o K):wc o K':=by
 unfold wc at *;split at k
 ·exact hk _ k
 ·exact k.elim
theorem dg {K K':AV→AV→Prop}(hk:∀ v u,K v u→K' v u) (a b:Option AV) (k:dX a b K):dX a b K':=bg (fun _ k=>bg (fun _ k=>hk _ _ k) _ k) _ k
theorem wN {v:AV}{X Y X' Y':Prop}(hx:X→X') (hy:Y→Y') (k:ifB v X Y):ifB v X' Y':=by
 unfold ifB at *;split at k
 ·exact hx k
 ·exact hy k
 ·exact k.elim
theorem sD {K K':AV→Prop}(hk:∀ v,K v→K' v) (t:TypeId) (x:AV) (k:td t x K):td t x K':=⟨hk _ k.out⟩
theorem k7 {K K':AV→Prop}(hk:∀ v,K v→K' v) (n m:Nat) (vs:List AV) (k:ao n m vs K):ao n m vs K':=⟨xY hk _ _ _ k.out⟩
theorem Hc {K K':ab→Prop}(hk:∀ v,K v→K' v) (n:Nat) (x y:AV) (h:ab) (k:au n x y h K):au n x y h K':=⟨HN hk _ _ _ _ k.out⟩
theorem EN {K K':QT}(hk:∀ v h,K v h→K' v h) (n m:Nat) (x y:AV) (h:ab) (k:bF n m x y h K):bF n m x y h K':=⟨EH hk _ _ _ _ _ k.out⟩
theorem Oc {env:Env}{h:ab}{o:Oper}{K K':QT}(hk:∀ v h,K v h→K' v h) (k:sK P env h o K):sK P env h o K':=by
 obtain⟨dst,op,ty,pos,after,guard⟩:=o
 have hk':∀ v,K v h→K' v h:=fun v=>hk v h
 cases op<;>simp only[sK]at k ⊢
 case move=>exact bg hk' _ k
 case assign=>exact bg hk' _ k
 case pick=>exact bg (fun _ k=>dg (fun _ _ k=>wN (hk' _) (hk' _) k) _ _ k) _ k
 case alloc=>unfold Re at *;(repeat' split at k)<;>first|exact k.elim|(rw[if_pos ‹_›];exact⟨hk _ _ k.out⟩)
 case box=>exact bg (fun _ k=>⟨⟨k.out.1,hk _ _ k.out.2⟩⟩) _ k
 case build=>refine en (fun _ k=>?_) _ k;unfold tc at *;(repeat' split at k)<;>first|exact k.elim|(rw[if_pos ‹_›];exact tq hk' _ _ k)
 case buildSlice=>refine en (fun _ k=>?_) _ k;unfold fO at *;(repeat' split at k)<;>first|exact k.elim|(rw[if_pos ‹_›];exact k7 hk' _ _ _ k)
 case load=>refine bg (fun _ k=>?_) _ k;unfold iT at *;(repeat' split at k)<;>first|exact k.elim|(rw[if_pos ‹_›];exact fK hk' _ _ _ k)|(rw[if_neg ‹_›];exact fJ hk' _ _ k)
 case store=>refine dg (fun _ _ k=>?_) _ _ k;unfold ES at *;(repeat' split at k)<;>first|exact k.elim|exact Hc (fun _ k=>hk _ _ k) _ _ _ _ k
 case nilCheck=>exact bg (fun _ k=>xO hk' _ k) _ k
 case binOp=>refine dg (fun _ _ k=>?_) _ _ k;unfold IQ at *;(repeat' split at k)<;>first|exact k.elim|exact pM hk' _ _ _ k|exact vd hk' _ _ _ k|exact u4 hk' _ _ _ k
 case unOp=>exact bg (fun _ k=>AP hk' _ _ k) _ k
 case convert=>refine bg (fun _ k=>?_) _ k;unfold yC at *;(repeat' split at k)<;>first|exact k.elim|exact qO hk' _ _ k|exact qM hk' _ _ k|exact qB hk' _ k
 case makeInterface=>refine bg (fun _ k=>?_) _ k;unfold wY at *;(repeat' split at k)<;>first|exact k.elim|exact sD hk' _ _ k
 case makeFunc=>exact en (fun _ k=>en (fun _ k=>hk _ _ k) _ k) _ k
 case slice=>refine bg (fun _ k=>vD (fun _ k=>vD (fun _ k=>vD (fun _ k=>?_) _ k) _ k) _ k) _ k;unfold kL at *;(repeat' split at k)<;>first|exact k.elim|exact q0 hk' _ _ _ k|exact qC hk' _ _ _ _ k|exact qh hk' _ k
 case fieldAddr=>refine bg (fun _ k=>?_) _ k;unfold kS at *;(repeat' split at k)<;>first|exact k.elim|(rw[if_neg ‹_›];exact md hk' _ _ k)
 case field=>refine bg (fun _ k=>?_) _ k;unfold tD yQ at *;(repeat' split at k)<;>first|exact k.elim|(rw[if_pos ‹_›];exact tw hk' _ _ _ k)|(rw[if_neg ‹_›];exact sA hk' _ _ k)
 case indexAddr=>refine dg (fun _ _ k=>?_) _ _ k;unfold dW at *;(repeat' split at k)<;>first|exact k.elim|exact gh hk' _ _ _ k|exact ed hk' _ _ _ _ k
 case index=>refine dg (fun _ _ k=>?_) _ _ k;unfold xI at *;(repeat' split at k)<;>first|exact k.elim|exact qp hk' _ _ k
 case extract=>exact bg (fun _ k=>oO hk' _ _ k) _ k
 case call c=>
  refine en (fun _ k=>?_) _ k
  split at k
  ·exact bg (fun _ k=>HW hk _ _ _ k) _ k
  ·split at k
   ·unfold w4 at *
    (repeat' split at k)<;>first|exact k.elim|exact vt hk' _ k|exact vI hk' _ k|exact va hk' _ _ k
   ·exact k.elim
  ·split at k
   ·unfold wd at *
    (repeat' split at k)<;>first|exact k.elim|(rw[if_pos ‹_›];exact EN hk _ _ _ _ _ k)
   ·exact k.elim
  ·split at k
   ·exact w8 hk' _ _ k
   ·exact k.elim
  ·split at k
   ·exact xj hk' _ _ k
   ·exact k.elim
  ·exact k.elim
end
end
section
variable [Tabs]
structure hY (d:TypeDesc) (ok:Bool) (z x key:AV) (h:ab) (K:AV→Prop):Prop where
 mk::(out:ib d ok z x key h K)
structure ia (x:AV) (h:ab) (K:AV→Prop):Prop where
 mk::(out:eJ x h K)
structure zR (op:BinOp) (x:AV) (K:AV→Prop):Prop where
 mk::(out:jY op x K)
structure zB (op:BinOp) (x:AV) (K:AV→Prop):Prop where
 mk::(out:jW op x K)
structure zy (op:BinOp) (x:AV) (K:AV→Prop):Prop where
 mk::(out:ka op x K)
structure j2 (op:BinOp) (x:AV) (K:AV→Prop):Prop where
 mk::(out:lp op x K)
structure vw (x:AV) (h:ab) (K:AV→Prop):Prop where
 mk::(out:me x h K)
structure R8 (op:BinOp) (ds:List TypeDesc) (x y:AV) (K:AV→Prop):Prop where
 mk::(out:Ao op ds x y K)
structure dU (d:TypeDesc) (x key v:AV) (h:ab) (K:ab→Prop):Prop where
 mk::(out:fZ d x key v h K)
structure mR (d:TypeDesc) (z x key:AV) (h:ab) (K:QT):Prop where
 mk::(out:ii d z x key h K)
structure jH (x st v:AV) (h:ab) (K:ab→Prop):Prop where
 mk::(out:eQ x st v h K)
structure vV (d:TypeDesc) (x key:AV) (h:ab) (K:ab→Prop):Prop where
 mk::(out:nX d x key h K)
structure m5 (h:ab) (K:QT):Prop where
 mk::(out:pJ h K)
structure qg (x:AV) (h:ab) (K:QT):Prop where
 mk::(out:nV x h K)
structure vk (x:AV) (h:ab) (K:QT):Prop where
 mk::(out:qx x h K)
structure qr (x:AV) (h:ab) (K:QT):Prop where
 mk::(out:mN x h K)
structure vz (x:AV) (h:ab) (K:QT):Prop where
 mk::(out:qZ x h K)
structure mU (x:AV) (h:ab) (K:QT):Prop where
 mk::(out:ij x h K)
structure jp (b:Nat) (z l c:AV) (h:ab) (K:QT):Prop where
 mk::(out:gd b z l c h K)
theorem jK {K K':AV→Prop}(hk:∀ v,K v→K' v) (op:BinOp) (b:Bool) (k:po op b K):po op b K':=by
 unfold po at *
 split at k<;>first|exact k.elim|exact hk _ k
theorem EI {K K':AV→Prop}(hk:∀ v,K v→K' v) (d:TypeDesc) (ok:Bool) (z x key:AV) (h:ab) (k:ib d ok z x key h K):ib d ok z x key h K':=by
 unfold ib at *
 (repeat' split at k)<;>first|exact k.elim|(simp_all;done)|(simp_all only [];exact hk _ k)
theorem qK {K K':AV→Prop}(hk:∀ v,K v→K' v) (d:TypeDesc) (ok:Bool) (z x key:AV) (h:ab) (k:hY d ok z x key h K):hY d ok z x key h K':=⟨EI hk d ok z x key h k.out⟩
theorem zV {K K':AV→Prop}(hk:∀ v,K v→K' v) (x:AV) (h:ab) (k:eJ x h K):eJ x h K':=by
 unfold eJ at *
 (repeat' split at k)<;>first|exact k.elim|(simp_all;done)|(simp_all only [];exact hk _ k)
theorem m4 {K K':AV→Prop}(hk:∀ v,K v→K' v) (x:AV) (h:ab) (k:ia x h K):ia x h K':=⟨zV hk x h k.out⟩
theorem FE {K K':AV→Prop}(hk:∀ v,K v→K' v) (op:BinOp) (x:AV) (k:jY op x K):jY op x K':=by
 unfold jY at *
 (repeat' split at k)<;>first|exact k.elim|(simp_all;done)|(simp_all only [];exact hk _ k)
theorem qe {K K':AV→Prop}(hk:∀ v,K v→K' v) (op:BinOp) (x:AV) (k:zR op x K):zR op x K':=⟨FE hk op x k.out⟩
theorem Ei {K K':AV→Prop}(hk:∀ v,K v→K' v) (op:BinOp) (x:AV) (k:jW op x K):jW op x K':=by
 unfold jW at *
 (repeat' split at k)<;>first|exact k.elim|(simp_all;done)|(simp_all only [];exact hk _ k)
theorem qW {K K':AV→Prop}(hk:∀ v,K v→K' v) (op:BinOp) (x:AV) (k:zB op x K):zB op x K':=⟨Ei hk op x k.out⟩
theorem Fi {K K':AV→Prop}(hk:∀ v,K v→K' v) (op:BinOp) (x:AV) (k:ka op x K):ka op x K':=by
 unfold ka at *
 (repeat' split at k)<;>first|exact k.elim|(simp_all;done)|(simp_all only [];exact hk _ k)
theorem qI {K K':AV→Prop}(hk:∀ v,K v→K' v) (op:BinOp) (x:AV) (k:zy op x K):zy op x K':=⟨Fi hk op x k.out⟩
theorem EU {K K':AV→Prop}(hk:∀ v,K v→K' v) (op:BinOp) (x:AV) (k:lp op x K):lp op x K':=by
 unfold lp at *
 split at k
 ·exact jK hk _ _ k
 ·split at k
  ·rename_i h0;rw[if_pos h0];exact⟨jK hk _ _ k.1,jK hk _ _ k.2⟩
  ·rename_i h0;rw[if_neg h0];exact jK hk _ _ k
 ·split at k
  ·rename_i h0;rw[if_pos h0];exact⟨jK hk _ _ k.1,jK hk _ _ k.2⟩
  ·rename_i h0;rw[if_neg h0];exact jK hk _ _ k
 ·exact k.elim
theorem vN {K K':AV→Prop}(hk:∀ v,K v→K' v) (op:BinOp) (x:AV) (k:j2 op x K):j2 op x K':=⟨EU hk op x k.out⟩
theorem Hq {K K':AV→Prop}(hk:∀ v,K v→K' v) (x:AV) (h:ab) (k:me x h K):me x h K':=by
 unfold me at *
 (repeat' split at k)<;>first|exact k.elim|(simp_all;done)|(simp_all only [];exact hk _ k)
theorem tj {K K':AV→Prop}(hk:∀ v,K v→K' v) (x:AV) (h:ab) (k:vw x h K):vw x h K':=⟨Hq hk x h k.out⟩
theorem MB {K K':AV→Prop}(hk:∀ v,K v→K' v) (op:BinOp) (ds:List TypeDesc) (x y:AV) (k:Ao op ds x y K):Ao op ds x y K':=by
 unfold Ao at *
 split at k
 ·split at k
  ·exact jK hk _ _ k
  ·exact k.elim
 ·exact k.elim
theorem x3 {K K':AV→Prop}(hk:∀ v,K v→K' v) (op:BinOp) (ds:List TypeDesc) (x y:AV) (k:R8 op ds x y K):R8 op ds x y K':=⟨MB hk op ds x y k.out⟩
theorem yV {K K':ab→Prop}(hk:∀ v,K v→K' v) (d:TypeDesc) (x key v:AV) (h:ab) (k:fZ d x key v h K):fZ d x key v h K':=by
 unfold fZ at *
 (repeat' split at k)<;>first|exact k.elim|exact hk _ k|(rw[if_pos ‹_›];exact hk _ k)|(rw[if_neg ‹_›];exact hk _ k)|(simp_all;done)|(simp only[*,if_true];done)|(simp only[*,if_true];exact hk _ k)
theorem rq {K K':ab→Prop}(hk:∀ v,K v→K' v) (d:TypeDesc) (x key v:AV) (h:ab) (k:dU d x key v h K):dU d x key v h K':=⟨yV hk d x key v h k.out⟩
theorem A6 {K K':QT}(hk:∀ v h,K v h→K' v h) (d:TypeDesc) (z x key:AV) (h:ab) (k:ii d z x key h K):ii d z x key h K':=by
 unfold ii at *
 (repeat' split at k)<;>first|exact k.elim|exact hk _ _ k|(rw[if_pos ‹_›];exact hk _ _ k)|(rw[if_neg ‹_›];exact hk _ _ k)|(simp_all;done)|(simp only[*,if_true];done)|(simp only[*,if_true];exact hk _ _ k)
theorem Ay {K K':QT}(hk:∀ v h,K v h→K' v h) (d:TypeDesc) (z x key:AV) (h:ab) (k:mR d z x key h K):mR d z x key h K':=⟨A6 hk d z x key h k.out⟩
theorem yd {K K':ab→Prop}(hk:∀ v,K v→K' v) (x st v:AV) (h:ab) (k:eQ x st v h K):eQ x st v h K':=by
 unfold eQ at *
 (repeat' split at k)<;>first|exact k.elim|exact hk _ k|(rw[if_pos ‹_›];exact hk _ k)|(rw[if_neg ‹_›];exact hk _ k)|(simp_all;done)|(simp only[*,if_true];done)|(simp only[*,if_true];exact hk _ k)
theorem xa {K K':ab→Prop}(hk:∀ v,K v→K' v) (x st v:AV) (h:ab) (k:jH x st v h K):jH x st v h K':=⟨yd hk x st v h k.out⟩
theorem Gb {K K':ab→Prop}(hk:∀ v,K v→K' v) (d:TypeDesc) (x key:AV) (h:ab) (k:nX d x key h K):nX d x key h K':=by
 unfold nX at *
 (repeat' split at k)<;>first|exact k.elim|exact hk _ k|(rw[if_pos ‹_›];exact hk _ k)|(rw[if_neg ‹_›];exact hk _ k)|(simp_all;done)|(simp only[*,if_true];done)|(simp only[*,if_true];exact hk _ k)
theorem FR {K K':ab→Prop}(hk:∀ v,K v→K' v) (d:TypeDesc) (x key:AV) (h:ab) (k:vV d x key h K):vV d x key h K':=⟨Gb hk d x key h k.out⟩
theorem Ch {K K':QT}(hk:∀ v h,K v h→K' v h) (h:ab) (k:pJ h K):pJ h K':=by
 exact hk _ _ k
theorem Cv {K K':QT}(hk:∀ v h,K v h→K' v h) (h:ab) (k:m5 h K):m5 h K':=⟨Ch hk h k.out⟩
theorem EZ {K K':QT}(hk:∀ v h,K v h→K' v h) (x:AV) (h:ab) (k:nV x h K):nV x h K':=by
 unfold nV at *
 (repeat' split at k)<;>first|exact k.elim|exact hk _ _ k|(rw[if_pos ‹_›];exact hk _ _ k)|(rw[if_neg ‹_›];exact hk _ _ k)|(simp_all;done)|(simp only[*,if_true];done)|(simp only[*,if_true];exact hk _ _ k)
theorem Fh {K K':QT}(hk:∀ v h,K v h→K' v h) (x:AV) (h:ab) (k:qg x h K):qg x h K':=⟨EZ hk x h k.out⟩
theorem HU {K K':QT}(hk:∀ v h,K v h→K' v h) (x:AV) (h:ab) (k:qx x h K):qx x h K':=by
 unfold qx at *
 (repeat' split at k)<;>first|exact k.elim|exact hk _ _ k|(rw[if_pos ‹_›];exact hk _ _ k)|(rw[if_neg ‹_›];exact hk _ _ k)|(simp_all;done)|(simp only[*,if_true];done)|(simp only[*,if_true];exact hk _ _ k)
theorem H4 {K K':QT}(hk:∀ v h,K v h→K' v h) (x:AV) (h:ab) (k:vk x h K):vk x h K':=⟨HU hk x h k.out⟩
theorem Em {K K':QT}(hk:∀ v h,K v h→K' v h) (x:AV) (h:ab) (k:mN x h K):mN x h K':=by
 unfold mN at *
 (repeat' split at k)<;>first|exact k.elim|exact hk _ _ k|(rw[if_pos ‹_›];exact hk _ _ k)|(rw[if_neg ‹_›];exact hk _ _ k)|(simp_all;done)|(simp only[*,if_true];done)|(simp only[*,if_true];exact hk _ _ k)
theorem FS {K K':QT}(hk:∀ v h,K v h→K' v h) (x:AV) (h:ab) (k:qr x h K):qr x h K':=⟨Em hk x h k.out⟩
theorem It {K K':QT}(hk:∀ v h,K v h→K' v h) (x:AV) (h:ab) (k:qZ x h K):qZ x h K':=by
 unfold qZ at *
 split at k
 ·split at k
  ·exact hk _ _ k
  ·split at k
   ·exact⟨k.1,fun a=>hk _ _ (k.2.1 a),fun e he hs=>hk _ _ (k.2.2 e he hs)⟩
   ·exact k.elim
  ·exact k.elim
 ·exact k.elim
theorem Gx {K K':QT}(hk:∀ v h,K v h→K' v h) (x:AV) (h:ab) (k:vz x h K):vz x h K':=⟨It hk x h k.out⟩
theorem Bk {K K':QT}(hk:∀ v h,K v h→K' v h) (x:AV) (h:ab) (k:ij x h K):ij x h K':=by
 unfold ij at *
 (repeat' split at k)<;>first|exact k.elim|exact hk _ _ k|(rw[if_pos ‹_›];exact hk _ _ k)|(rw[if_neg ‹_›];exact hk _ _ k)|(simp_all;done)|(simp only[*,if_true];done)|(simp only[*,if_true];exact hk _ _ k)
theorem BK {K K':QT}(hk:∀ v h,K v h→K' v h) (x:AV) (h:ab) (k:mU x h K):mU x h K':=⟨Bk hk x h k.out⟩
theorem y8 {K K':QT}(hk:∀ v h,K v h→K' v h) (b:Nat) (z l c:AV) (h:ab) (k:gd b z l c h K):gd b z l c h K':=by
 unfold gd at *
 split at k
 ·exact⟨k.1,hk _ _ k.2⟩
 ·exact k.elim
theorem yW {K K':QT}(hk:∀ v h,K v h→K' v h) (b:Nat) (z l c:AV) (h:ab) (k:jp b z l c h K):jp b z l c h K':=⟨y8 hk b z l c h k.out⟩
end
section
variable [Tabs]
section
variable {P:Program}{G:Gh}{h:ab}{w:World}
def yK (P:Program):Op→Bool
 | .makeMap _ none=>true
 | .lookup ..=>true
 | .mapUpdate ..=>true
 | .insert ..=>true
 | .mapEntry ..=>true
 | .entryStore ..=>true
 | .range ..=>true
 | .next ..=>true
 | .entry _=>true
 | .makeSlice ..=>true
 | .convert s d _=>match P.underlying s,P.underlying d with
   | some (.slice _),some .string=>true
   | some .string,some (.slice _)=>true
   | _,_=>false
 | .binOp _ t _ _ _=>match P.underlying t with
   | some (.slice _)=>true
   | some (.map _ _)=>true
   | some (.interface _)=>true
   | some (.func _ _ _)=>true
   | some (.struct _)=>true
   | _=>false
 | .call c=>match c.callee with
   | .builtin .delete=>true
   | _=>false
 | _=>false
def xE (P:Program) (t:TypeId) (K:TypeDesc→Value→Prop):Prop:=
 match P.underlying t with
 | some (.map kt et)=>(match P.underlying kt,P.info? et with
   | some d,some i=>(match i.zero with|some z=>if okV z=true then K d z else False|none=>False)
   | _,_=>False)
 | _=>False
def vP (P:Program) (t:TypeId) (K:TypeDesc→Prop):Prop:=
 match P.underlying t with
 | some (.map kt _)=>(match P.underlying kt with|some d=>K d|none=>False)
 | _=>False
def tW (P:Program) (e:TypeId):Bool:=match P.underlying e with|some (.int .u8)=>true|_=>false
def tU (P:Program) (op:BinOp) (t:TypeId) (a:AV) (y:Operand) (K:AV→Prop):Prop:=
 match P.underlying t,y with
 | some (.slice _),.const (.slice none 0 0)=>j2 op a K
 | some (.map _ _),.const (.map none)=>zR op a K
 | some (.interface _),.const .nilIface=>zB op a K
 | some (.func _ _ _),.const .nilFunc=>zy op a K
 | _,_=>False
def rU (P:Program) (env:Env) (h:ab) (o:Oper) (K:QT):Prop:=
 match o.op with
 | .makeMap _ none=>m5 h K
 | .lookup t x i ok=>dX (opv env x) (opv env i) fun a b=>xE P t fun d z=>hY d ok (ofV z) a b h fun r=>K r h
 | .mapUpdate t m k v=>dX (opv env m) (opv env k) fun a b=>bJ (opv env v) fun c=>vP P t fun d=>dU d a b c h fun h'=>K (.tup []) h'
 | .insert t m k v=>dX (opv env m) (opv env k) fun a b=>bJ (opv env v) fun c=>vP P t fun d=>dU d a b c h fun h'=>K (.tup []) h'
 | .mapEntry t m k=>dX (opv env m) (opv env k) fun a b=>xE P t fun d z=>mR d (ofV z) a b h K
 | .entryStore t m s v=>dX (opv env m) (opv env s) fun a b=>bJ (opv env v) fun c=>jH a b c h fun h'=>K (.tup []) h'
 | .range t x=>bJ (opv env x) fun a=>match P.underlying t with
   | some .string=>qg a h K
   | some (.map _ _)=>qr a h K
   | _=>False
 | .next x b=>bJ (opv env x) fun a=>if b=true then vk a h K else vz a h K
 | .entry x=>bJ (opv env x) fun a=>vw a h fun r=>K r h
 | .makeSlice t l c=>dX (opv env l) (opv env c) fun a b=>match P.underlying t with
   | some (.slice e)=>(match P.info? e with
     | some i=>(match i.zero with|some z=>if (i.size==1&&z.oneCell')=true then jp i.bytes (zU z) a b h K else False|none=>False)
     | none=>False)
   | _=>False
 | .convert s d x=>bJ (opv env x) fun a=>match P.underlying s,P.underlying d with
   | some (.slice e),some .string=>if tW P e=true then ia a h fun r=>K r h else False
   | some .string,some (.slice e)=>if tW P e=true then mU a h K else False
   | _,_=>False
 | .binOp op t x y _=>match P.underlying t with
   | some (.struct fs)=>dX (opv env x) (opv env y) fun a b=>(match su P fs.toList 0 with
     | some ds=>if (!P.stoodInHeld t&&!P.eqGuardType P.depth t)=true then R8 op ds a b fun r=>K r h else False
     | none=>False)
   | _=>bJ (opv env x) fun a=>tU P op t a y fun r=>K r h
 | .call c=>match c.callee with
   | .builtin .delete=>dC (i3 env c.args.toList) fun vs=>(match vs,c.argTypes.toList with
     | [m,k],t::_=>vP P t fun d=>vV d m k h fun h'=>K (.tup []) h'
     | _,_=>False)
   | _=>False
 | _=>False
def to (P:Program) (env:Env) (h:ab) (o:Oper) (K:QT):Prop:=if yK P o.op=true then rU P env h o K else sK P env h o K
theorem zO {t:TypeId}{K:TypeDesc→Value→Prop}(k:xE P t K):∃ kt et d i z,P.underlying t=some (.map kt et)∧P.underlying kt=some d∧P.info? et=some i∧i.zero=some z∧okV z=true∧K d z:=by
 unfold xE at k
 split at k
 ·split at k
  ·split at k
   ·split at k
    ·exact⟨_,_,_,_,_,‹_›,‹_›,‹_›,‹_›,‹_›,k⟩
    ·exact k.elim
   ·exact k.elim
  ·exact k.elim
 ·exact k.elim
theorem ww {t:TypeId}{K:TypeDesc→Prop}(k:vP P t K):∃ kt et d,P.underlying t=some (.map kt et)∧P.underlying kt=some d∧K d:=by
 unfold vP at k
 split at k
 ·split at k
  ·exact⟨_,_,_,‹_›,‹_›,k⟩
  ·exact k.elim
 ·exact k.elim
theorem BL {e:TypeId}(h:tW P e=true):P.underlying e=some (.int .u8):=by
 unfold tW at h
 split at h
 ·assumption
 ·cases h
theorem Q1 {m:Sem Unit}{K:ab→Prop}(k:∃ h' G' w',m.run P w=.ok () w'∧K h'∧Sim G' h' w'∧Evo G h w G' h' w'):UpV P (N0 G h w fun v h'=>v=.tup []∧K h') ((do m;pure .skip:Sem Next).run P w):=by
 obtain⟨h',G',w',q1,q2,q3,q4⟩:=k
 simp only[Sem.run_bind,q1,Result.andThen_ok,Sem.run_pure]
 exact⟨.tup [],h',G',by simp[Rep,RepL,undef],⟨rfl,q2⟩,q3,q4⟩
theorem Qv {N N':Value→World→Prop}(hk:∀ v w,N v w→N' v w) {r:Result Next}(k:UpV P N r):UpV P N' r:=by
 unfold UpV at *
 split at k
 ·exact hk _ _ k
 ·exact hk _ _ k
 ·exact Calls.mono k fun e w'' ⟨v,he,hv⟩=>⟨v,he,hk _ _ hv⟩
 ·exact k.elim
theorem zW {m:Sem Unit}{K:QT}(k:∃ h' G' w',m.run P w=.ok () w'∧K (.tup []) h'∧Sim G' h' w'∧Evo G h w G' h' w'):UpV P (N0 G h w K) ((do m;pure .skip:Sem Next).run P w):=
 Qv (fun v w' ⟨r,h',G',q1,⟨q2,q3⟩,q4,q5⟩=>⟨r,h',G',q1,by subst q2;exact q3,q4,q5⟩) (Q1 (K:=K (.tup [])) k)
theorem RV (s:Sim G h w) {env:Env}{a:Act}(r:EnvRep G env a.tmps) {o:Oper}{K:QT}(k:rU P env h o K):UpV P (N0 G h w K) ((execOp a.eval o).run P w):=by
 obtain⟨dst,op,ty,pos,after,guard⟩:=o
 cases op<;>simp only[rU]at k<;>try exact k.elim
 case makeMap t re=>
  cases re with
  | none=>exact fD (HX s k.out)
  | some x=>exact k.elim
 case lookup t x i ok=>
  obtain⟨v,h1,k⟩:=ar k
  obtain⟨u,h2,k⟩:=ar k
  obtain⟨kt,et,d,inf,z,q1,q2,q3,q4,q5,k⟩:=zO k
  exact aW s (Jh s q1 q2 q3 q4 q5 (aH r h1) (aH r h2) k.out)
 case mapUpdate t m i x=>
  obtain⟨v,h1,k⟩:=ar k
  obtain⟨u,h2,k⟩:=ar k
  obtain⟨y,h3,k⟩:=ar k
  obtain⟨kt,et,d,q1,q2,k⟩:=ww k
  exact zW (uF s q1 q2 (aH r h1) (aH r h2) (aH r h3) k.out)
 case insert t m i x=>
  obtain⟨v,h1,k⟩:=ar k
  obtain⟨u,h2,k⟩:=ar k
  obtain⟨y,h3,k⟩:=ar k
  obtain⟨kt,et,d,q1,q2,k⟩:=ww k
  exact zW (uF s q1 q2 (aH r h1) (aH r h2) (aH r h3) k.out)
 case mapEntry t m i=>
  obtain⟨v,h1,k⟩:=ar k
  obtain⟨u,h2,k⟩:=ar k
  obtain⟨kt,et,d,inf,z,q1,q2,q3,q4,q5,k⟩:=zO k
  exact fD (FM s q1 q2 q3 q4 q5 (aH r h1) (aH r h2) k.out)
 case entryStore t m i x=>
  obtain⟨v,h1,k⟩:=ar k
  obtain⟨u,h2,k⟩:=ar k
  obtain⟨y,h3,k⟩:=ar k
  exact zW (Aj s (aH r h1) (aH r h2) (aH r h3) k.out)
 case range t x=>
  obtain⟨v,h1,k⟩:=ar k
  split at k
  ·exact fD (Jd s ‹_› (aH r h1) k.out)
  ·exact fD (J2 s ‹_› (aH r h1) k.out)
  ·exact k.elim
 case next x b=>
  obtain⟨v,h1,k⟩:=ar k
  cases b
  ·exact fD (NH s (aH r h1) k.out)
  ·exact fD (Nc s (aH r h1) k.out)
 case entry x=>
  obtain⟨v,h1,k⟩:=ar k
  exact aW s (NL s (aH r h1) k.out)
 case makeSlice t l c=>
  obtain⟨v,h1,k⟩:=ar k
  obtain⟨u,h2,k⟩:=ar k
  split at k
  ·split at k
   ·split at k
    ·split at k
     ·rename_i hc
      simp only[Bool.and_eq_true,beq_iff_eq]at hc
      exact fD (CI s ‹_› ‹_› ‹_› hc.1 hc.2 (aH r h1) (aH r h2) k.out)
     ·exact k.elim
    ·exact k.elim
   ·exact k.elim
  ·exact k.elim
 case convert sr d x=>
  obtain⟨v,h1,k⟩:=ar k
  split at k
  ·split at k
   ·exact aW s (FJ s ‹_› (BL ‹_›) ‹_› (aH r h1) k.out)
   ·exact k.elim
  ·split at k
   ·exact fD (F8 s ‹_› ‹_› (BL ‹_›) (aH r h1) k.out)
   ·exact k.elim
  ·exact k.elim
 case binOp op t x y yt=>
  split at k
  ·rename_i fs ht
   obtain⟨v,h1,k⟩:=ar k
   obtain⟨u,h2,k⟩:=ar k
   split at k
   ·split at k
    ·rename_i hc
     simp only[Bool.and_eq_true,Bool.not_eq_true']at hc
     exact aW s (RY ht ‹_› hc.1 hc.2 (aH r h1) (aH r h2) k.out)
    ·exact k.elim
   ·exact k.elim
  ·obtain⟨v,h1,k⟩:=ar k
   unfold tU at k
   split at k
   ·exact aW s (JB ‹_› (aH r h1) k.out)
   ·exact aW s (KB ‹_› (aH r h1) k.out)
   ·exact aW s (K8 ‹_› (aH r h1) k.out)
   ·exact aW s (J5 ‹_› (aH r h1) k.out)
   ·exact k.elim
 case call c=>
  obtain⟨callee,args,argTypes⟩:=c
  simp only at k
  split at k
  ·obtain⟨vs,h1,k⟩:=c6 k
   have hr:=g0 r h1
   split at k
   ·rename_i m ke t ts hT
    obtain⟨kt,et,d,q1,q2,k⟩:=ww k
    obtain⟨x,y,hx,hx2,hx3⟩:=hr.two
    have hargs:args.map a.eval=#[x,y]:=by apply Array.toList_inj.1;simpa using hx
    have hts:argTypes[0]?=some t:=by have:=congrArg (·[0]?) hT;simpa using this
    obtain⟨r',v',h',G',w',p1,p2,⟨p3,p4⟩,p5,p6⟩:=KT (ty:=ty) s q1 q2 hx2 hx3 hts k.out
    subst p3
    simp only[execOp,resolve,Sem.run_bind,Sem.run_pure,Result.andThen_ok,invoke,builtin,hargs,p1]
    exact⟨_,h',G',p2,p4,p5,p6⟩
   ·exact k.elim
  ·exact k.elim
theorem Rv (s:Sim G h w) {env:Env}{a:Act}(r:EnvRep G env a.tmps) {o:Oper}{K:QT}(k:to P env h o K):UpV P (N0 G h w K) ((execOp a.eval o).run P w):=by
 unfold to at k
 split at k
 ·exact RV s r k
 ·exact Rj s r k
theorem Dt {t:TypeId}{K K':TypeDesc→Value→Prop}(hk:∀ d z,K d z→K' d z) (k:xE P t K):xE P t K':=by
 unfold xE at *
 (repeat' split at k)<;>first|exact k.elim|(simp only[*,if_true];exact hk _ _ k)|(rw[if_pos ‹_›];exact hk _ _ k)
theorem xK {t:TypeId}{K K':TypeDesc→Prop}(hk:∀ d,K d→K' d) (k:vP P t K):vP P t K':=by
 unfold vP at *
 (repeat' split at k)<;>first|exact k.elim|exact hk _ k
theorem MU {env:Env}{h:ab}{o:Oper}{K K':QT}(hk:∀ v h,K v h→K' v h) (k:rU P env h o K):rU P env h o K':=by
 obtain⟨dst,op,ty,pos,after,guard⟩:=o
 have hk':∀ v,K v h→K' v h:=fun v=>hk v h
 have hk2:∀ h',K (.tup []) h'→K' (.tup []) h':=fun h'=>hk _ h'
 cases op<;>simp only[rU]at k ⊢<;>try exact k.elim
 case makeMap t re=>
  cases re with
  | none=>exact Cv hk _ k
  | some x=>exact k.elim
 case lookup=>exact dg (fun _ _ k=>Dt (fun _ _ k=>qK hk' _ _ _ _ _ _ k) k) _ _ k
 case mapUpdate=>exact dg (fun _ _ k=>bg (fun _ k=>xK (fun _ k=>rq hk2 _ _ _ _ _ k) k) _ k) _ _ k
 case insert=>exact dg (fun _ _ k=>bg (fun _ k=>xK (fun _ k=>rq hk2 _ _ _ _ _ k) k) _ k) _ _ k
 case mapEntry=>exact dg (fun _ _ k=>Dt (fun _ _ k=>Ay hk _ _ _ _ _ k) k) _ _ k
 case entryStore=>exact dg (fun _ _ k=>bg (fun _ k=>xa hk2 _ _ _ _ k) _ k) _ _ k
 case range=>
  refine bg (fun _ k=>?_) _ k
  split at k
  ·exact Fh hk _ _ k
  ·exact FS hk _ _ k
  ·exact k.elim
 case next x b=>
  refine bg (fun _ k=>?_) _ k
  cases b
  ·exact Gx hk _ _ k
  ·exact H4 hk _ _ k
 case entry=>exact bg (fun _ k=>tj hk' _ _ k) _ k
 case makeSlice=>
  refine dg (fun _ _ k=>?_) _ _ k
  (repeat' split at k)<;>first|exact k.elim|(rw[if_pos ‹_›];exact yW hk _ _ _ _ _ k)
 case convert=>
  refine bg (fun _ k=>?_) _ k
  (repeat' split at k)<;>first|exact k.elim|(rw[if_pos ‹_›];exact m4 hk' _ _ k)|(rw[if_pos ‹_›];exact BK hk _ _ k)
 case binOp=>
  split at k
  ·refine dg (fun _ _ k=>?_) _ _ k
   (repeat' split at k)<;>first|exact k.elim|(rw[if_pos ‹_›];exact x3 hk' _ _ _ _ k)
  ·refine bg (fun _ k=>?_) _ k
   unfold tU at *
   split at k
   ·exact vN hk' _ _ k
   ·exact qe hk' _ _ k
   ·exact qW hk' _ _ k
   ·exact qI hk' _ _ k
   ·exact k.elim
 case call c=>
  split at k
  ·refine en (fun _ k=>?_) _ k
   split at k
   ·exact xK (fun _ k=>FR hk2 _ _ _ _ k) k
   ·exact k.elim
  ·exact k.elim
theorem ML {env:Env}{h:ab}{o:Oper}{K K':QT}(hk:∀ v h,K v h→K' v h) (k:to P env h o K):to P env h o K':=by
 unfold to at *
 split at k
 ·rename_i hn;rw[if_pos hn];exact MU hk k
 ·rename_i hn;rw[if_neg hn];exact Oc hk k
end
end
section
variable [Tabs]
section
variable {P:Program}{G:Gh}{h:ab}{w:World}
omit [Tabs] in
theorem Bc {α:Type}(l:List α) (off:Nat):splice l off []=l:=by simp[splice]
omit [Tabs] in
theorem Ic {i:Nat}{o:AObj}(hi:h[i]?=some o):h.set i o=h:=by
 apply List.ext_getElem?
 intro j
 rw[List.getElem?_set]
 split
 ·rename_i e;subst e
  split
  ·exact hi.symm
  ·rename_i hn;rw[List.getElem?_eq_none (by omega)]at hi;cases hi
 ·rfl
theorem C1 (s:Sim G h w) {i off len sz:Nat}{cs xs:List AV}{x:Value}(hcs:h[i]?=some (.cells cs)) (hx:Rep G (.sl i off len sz) x) {vs:List Value}(hv:RepL G xs vs) (hone:xs.all AV.one=true) (hl:xs.length≤len*sz) (hle:off+len*sz≤cs.length):
  ∃ b c,x=.slice (some b) len c∧∃ G' w',(storeCells b vs).run P w=.ok () w'∧Sim G' (h.set i (.cells (splice cs off xs))) w'∧Evo G h w G' (h.set i (.cells (splice cs off xs))) w':=by
 simp only[Rep]at hx
 obtain⟨b,o,c,ad,h1,h2,h3,h4,rfl⟩:=hx
 refine⟨_,_,rfl,?_⟩
 have hlv:=hv.length
 rcases Nat.eq_zero_or_pos c with hc0|hc0
 ·have:xs=[]:=by
   have:len=0:=by omega
   subst this
   exact List.length_eq_zero_iff.1 (by omega)
  subst this
  simp only[RepL]at hv
  subst hv
  refine⟨G,w,by simp[storeCells],?_,?_⟩
  ·rw[Bc,Ic hcs];exact s
  ·rw[Bc,Ic hcs];exact Evo.refl _ _ _
 ·obtain rfl:=h4 hc0
  obtain⟨b',o',arr,el,lo,hi',e1,e2,e3,e4,e5,e6⟩:=nN s hcs
  rw[h1]at e1
  cases e1
  obtain⟨arr',q2,q3⟩:=ql (P:=P) b (o+off) el lo hi' vs 0 arr w e2 e3 (by omega) (zK hv hone)
  have hsz:arr'.size=arr.size:=by
   have:=congrArg List.length q3
   rw[eZ (by simp;omega)]at this
   simpa using this
  have x:ObjAt G (cV w b (.cells arr' el (lo,hi'))) i (.cells (splice cs off xs)):=by
   refine⟨b,o,arr',el,lo,hi',h1,kW w b _ (Array.getElem?_eq_some_iff.1 e2).1,by rw[hsz];exact e3,by rw[eZ (by omega)];exact e4,by rw[hsz];exact e5,?_⟩
   intro q a ha
   rw[cZ (by omega)]at ha
   have hget:arr'[o+q]?=arr'.toList[o+q]?:=by simp
   rw[hget,q3,cZ (by simp;omega)]
   by_cases c1:q<off
   ·rw[if_pos c1]at ha
    rw[if_pos (by omega)]
    simpa using e6 q a ha
   ·rw[if_neg c1]at ha
    rw[if_neg (by omega)]
    by_cases c2:q<off+xs.length
    ·rw[if_pos c2]at ha
     rw[if_pos (by omega)]
     obtain⟨v,h4,h5⟩:=hv.at _ a ha
     exact⟨v,by rw[← h4];congr 1;omega,h5⟩
    ·rw[if_neg c2]at ha
     rw[if_neg (by omega)]
     simpa using e6 q a ha
  obtain⟨s',ev⟩:=sa s hcs rfl h1 rfl x
  exact⟨_,_,q2,s',ev⟩
theorem ye (s:Sim G h w) {size:Nat}{v:AV}{x:Value}(hx:Rep G v x) {m:Nat}{xs:List AV}(e:de h size v=some (m,xs)) {k:Nat}(hk:k≤m):
  ∃ vs:List Value,RepL G (xs.take (k*size)) vs∧(Builtin.firstCells size k x).run P w=.ok vs.toArray w:=by
 have hmul:k*size≤m*size:=Nat.mul_le_mul_right _ hk
 have snap:∀ (n c:Nat) (cs:List AV) (base:Option Addr),de h size (.snap n cs)=some (m,xs)→k≤n→(cs=[]∧n=0∨∃ b o,base=some ⟨b,o,none⟩∧RepAt G cs b o)→
   ∃ vs:List Value,RepL G (xs.take (k*size)) vs∧(Builtin.firstCells size k (.slice base n c)).run P w=.ok vs.toArray w:=by
  intro n c cs base e hkn hb
  simp only[de]at e
  split at e
  ·rename_i hl
   cases e
   rcases hb with ⟨rfl,rfl⟩|⟨b,o,rfl,h2⟩
   ·exact⟨[],by simp[RepL],by rw[show k=0 by omega];cases base<;>simp[Builtin.firstCells,loadCells,loadCellsFrom]⟩
   ·obtain⟨vs,h3,h4,h5⟩:=qi s h2 hl
    refine⟨vs.take (k*size),?_,?_⟩
    ·refine gY (by simp;omega) fun j a ha=>?_
     rw[List.getElem?_take]at ha ⊢
     split at ha
     ·rename_i hj;rw[if_pos hj];exact h4.at j a ha
     ·cases ha
    ·have:=run_loadCells_list (P:=P) w ⟨b,o,none⟩ (vs.take (k*size)) (fun j v hj=>by
      rw[dR]
      rw[List.getElem?_take]at hj
      split at hj
      ·exact h5 j v hj
      ·cases hj)
     have hlen:(vs.take (k*size)).length=k*size:=by simp;omega
     rw[hlen]at this
     simpa [Builtin.firstCells] using this
  ·cases e
 unfold de at e
 split at e
 ·rename_i n cs
  have hn:n=m:=by split at e<;>cases e;rfl
  simp only[Rep]at hx
  rcases hx with ⟨rfl,rfl,za,rfl⟩|⟨b,o,c,h1,rfl,h2⟩
  ·exact snap 0 0 [] za (by simpa [de] using e) (by omega) (.inl ⟨rfl,rfl⟩)
  ·exact snap n c cs _ (by simpa [de] using e) (by omega) (.inr ⟨b,o,rfl,h2⟩)
 ·rename_i n cs
  have hn:n=m:=by split at e<;>cases e;rfl
  simp only[Rep]at hx
  rcases hx with ⟨rfl,rfl,za,rfl⟩|⟨b,o,rfl,h2⟩
  ·exact snap 0 0 [] za (by simpa [de] using e) (by omega) (.inl ⟨rfl,rfl⟩)
  ·exact snap n n cs _ (by simpa [de] using e) (by omega) (.inr ⟨b,o,rfl,h2⟩)
 ·rename_i i off len sz
  split at e
  ·rename_i cs hcs
   split at e
   ·rename_i hc
    obtain⟨rfl,hle⟩:=hc
    cases e
    simp only[Rep]at hx
    obtain⟨b,o,c,ad,h1,h2,h3,h4,rfl⟩:=hx
    obtain⟨vs,q1,q2,_,q4⟩:=ld (P:=P) (size:=sz) s (v:=.sl i off k sz) (x:=.slice (some ⟨b,ad,none⟩) k c) (by
     simp only[Rep];exact⟨b,o,c,ad,h1,h2,by omega,h4,rfl⟩) (m:=k) (xs:=(cs.drop off).take (k*sz)) (by simp[de,hcs];omega)
    refine⟨vs,?_,?_⟩
    ·rw[List.take_take,Nat.min_eq_left hmul];exact q2
    ·simpa [Builtin.firstCells] using q4
   ·cases e
  ·cases e
 ·rename_i s'
  split at e
  ·rename_i h1
   subst h1
   cases e
   simp only[Rep]at hx
   obtain⟨rfl,_⟩:=hx
   refine⟨(s'.data.toList.take k).map fun b=>Value.int .u8 b.toNat,by rw[Nat.mul_one,← List.map_take];exact vH G _,?_⟩
   simp only[Builtin.firstCells,Sem.run_pure]
   congr 1
   apply Array.toList_inj.1
   simp[ByteArray.extract,ByteArray.copySlice]
  ·cases e
 ·cases e
def yh (size:Nat) (v x:AV) (h:ab) (K:QT):Prop:=
 match de h size x with
 | none=>False
 | some (m,xs)=>match v with
   | .sl i off len sz=>(match h[i]? with
     | some (.cells cs)=>(sz=size∧off+len*size≤cs.length∧xs.all AV.one=true)∧K (I (Nat.min m len)) (h.set i (.cells (splice cs off (xs.take (Nat.min m len*size)))))
     | _=>False)
   | .full n _=>Nat.min m n=0∧K (I 0) h
   | .snap n _=>Nat.min m n=0∧K (I 0) h
   | _=>False
structure T7 (size:Nat) (v x:AV) (h:ab) (K:QT):Prop where
 mk::(out:yh size v x h K)
theorem OH (s:Sim G h w) {t e ty:TypeId}{ts:Array TypeId}{i:TypeInfo}(ht0:ts[0]?=some t) (ht:P.underlying t=some (.slice e)) (hi:P.info? e=some i) {v x:AV}{a b:Value}(hx:Rep G v a) (hy:Rep G x b) {K:QT}(k:yh i.size v x h K):
  Ye P G h w (Builtin.copy_ ts ty #[a,b]) K:=by
 unfold yh at k
 split at k
 ·exact k.elim
 ·rename_i m xs hxs
  obtain⟨_,_,_,hm,_⟩:=ld (P:=P) s hy hxs
  have none_:∀ (base:Option Addr) (n c:Nat),a=.slice base n c→Nat.min m n=0→K (I 0) h→Ye P G h w (Builtin.copy_ ts ty #[a,b]) K:=by
   rintro base n c rfl hmn k
   obtain⟨vs,hv1,hv2⟩:=ye (P:=P) s hy hxs (k:=0) (Nat.zero_le _)
   simp only[Nat.zero_mul,List.take_zero,RepL]at hv1
   subst hv1
   refine⟨I 0,.int .i64 0,h,G,w,?_,by simp[Rep,Value.oneCell'],k,s,Evo.refl _ _ _⟩
   have hmn':min m n=0:=hmn
   cases base<;>simp[Builtin.copy_,ht0,run_underlying ht,hm,sizeOf,typeInfo,hi,hmn',hv2,storeCells,goInt]
  split at k
  ·rename_i j off len sz
   split at k
   ·rename_i cs hcs
    obtain⟨⟨rfl,hle,hone⟩,k⟩:=k
    have hkm:Nat.min m len≤m:=Nat.min_le_left _ _
    have hkl:Nat.min m len≤len:=Nat.min_le_right _ _
    obtain⟨vs,hv1,hv2⟩:=ye (P:=P) s hy hxs hkm
    obtain⟨ba,c,rfl,G',w',q1,q2,q3⟩:=C1 (P:=P) s hcs hx hv1 (by
     rw[List.all_eq_true]at hone ⊢;exact fun y hy=>hone y (List.mem_of_mem_take hy)) (by simp only[List.length_take];exact Nat.le_trans (Nat.min_le_left _ _) (Nat.mul_le_mul_right _ hkl)) hle
    refine⟨_,.int .i64 (Nat.min m len),_,G',w',?_,by simp[Rep,Value.oneCell'],k,q2,q3⟩
    have hv2':(Builtin.firstCells i.size (min m len) b).run P w=.ok vs.toArray w:=hv2
    simp[Builtin.copy_,ht0,run_underlying ht,hm,sizeOf,typeInfo,hi,hv2',q1,goInt]
   ·exact k.elim
  ·rename_i n cs
   simp only[Rep]at hx
   rcases hx with ⟨rfl,rfl,za,rfl⟩|⟨bb,o,rfl,h2⟩
   ·exact none_ _ _ _ rfl k.1 k.2
   ·exact none_ _ _ _ rfl k.1 k.2
  ·rename_i n cs
   simp only[Rep]at hx
   rcases hx with ⟨rfl,rfl,za,rfl⟩|⟨bb,o,c,_,rfl,h2⟩
   ·exact none_ _ _ _ rfl k.1 k.2
   ·exact none_ _ _ _ rfl k.1 k.2
  ·exact k.elim
theorem JE {size:Nat}{v x:AV}{h:ab}{K K':QT}(hk:∀ v h,K v h→K' v h) (k:yh size v x h K):yh size v x h K':=by
 unfold yh at *
 split at k
 ·exact k.elim
 ·split at k
  ·split at k
   ·exact⟨k.1,hk _ _ k.2⟩
   ·exact k.elim
  ·exact⟨k.1,hk _ _ k.2⟩
  ·exact⟨k.1,hk _ _ k.2⟩
  ·exact k.elim
def sP (size:Nat) (u v:AV) (h:ab) (K:ab→Prop):Prop:=
 match v with
 | .sl i off len sz=>(match h[i]? with
   | some (.cells cs)=>(u.isTup=false∧u.cells.length=size∧sz=size∧off+len*size≤cs.length∧u.cells.all AV.one=true)∧K (h.set i (.cells (splice cs off (List.replicate len u.cells).flatten)))
   | _=>False)
 | .full 0 _=>K h
 | .snap 0 _=>K h
 | _=>False
structure TN (size:Nat) (u v:AV) (h:ab) (K:ab→Prop):Prop where
 mk::(out:sP size u v h K)
omit [Tabs] in
theorem tn (zs:Array Value):∀ n,(Builtin.zeroCells zs n).toList=(List.replicate n zs.toList).flatten
 | 0=>by simp[Builtin.zeroCells]
 | n+1=>by
   have ih:=tn zs n
   rw[List.replicate_succ',List.flatten_append,← ih]
   simp only[Builtin.zeroCells,Array.toList_map,Array.toList_range,List.flatten_cons,List.flatten_nil,List.append_nil]
   rw[Nat.succ_mul,List.range_add,List.map_append]
   congr 1
   rw[List.map_map]
   apply List.ext_getElem?
   intro j
   simp only[List.getElem?_map,Function.comp_apply]
   by_cases hj:j<zs.size
   ·simp[hj,Nat.mod_eq_of_lt hj]
   ·simp[hj]
theorem Gi {G:Gh}{cs:List AV}{vs:List Value}(r:RepL G cs vs):∀ n,RepL G (List.replicate n cs).flatten (List.replicate n vs).flatten
 | 0=>by simp[RepL]
 | n+1=>by rw[List.replicate_succ,List.replicate_succ,List.flatten_cons,List.flatten_cons];exact r.append (Gi r n)
theorem Nr (s:Sim G h w) {t e ty:TypeId}{ts:Array TypeId}{i:TypeInfo}{z:Value}(ht0:ts[0]?=some t) (ht:P.underlying t=some (.slice e)) (hi:P.info? e=some i) (hz:i.zero=some z) {u v:AV}{a:Value}(hx:Rep G v a) (hu:Rep G u z) {K:ab→Prop}(k:sP i.size u v h K):
  Ye P G h w (Builtin.clear_ ts ty #[a]) (fun r h'=>r=.tup []∧K h'):=by
 unfold sP at k
 split at k
 ·rename_i j off len sz
  split at k
  ·rename_i cs hcs
   obtain⟨⟨hut,hul,rfl,hle,hone⟩,k⟩:=k
   have hc:=hu.cells hut
   have hrr:=Gi hc len
   have hlen:(List.replicate len u.cells).flatten.length=len*i.size:=by simp[List.length_flatten,hul]
   have hone':(List.replicate len u.cells).flatten.all AV.one=true:=by
    rw[List.all_eq_true]at hone ⊢
    intro y hy
    obtain⟨l,h1,h2⟩:=List.mem_flatten.1 hy
    rw[(List.mem_replicate.1 h1).2]at h2
    exact hone y h2
   obtain⟨ba,c,rfl,G',w',q1,q2,q3⟩:=C1 (P:=P) s hcs hx hrr hone' (by omega) hle
   refine⟨.tup [],.tuple #[],_,G',w',?_,by simp[Rep,RepL],⟨rfl,k⟩,q2,q3⟩
   rw[← tn]at q1
   cases len with
   | zero=>
     have:w'=w:=by
      simp[Builtin.zeroCells,storeCells]at q1
      exact q1.symm
     subst this
     simp[Builtin.clear_,ht0,run_underlying ht]
   | succ len=>simp[Builtin.clear_,ht0,run_underlying ht,zeroValue,typeInfo,hi,hz,q1]
  ·exact k.elim
 ·simp only[Rep]at hx
  refine⟨.tup [],.tuple #[],h,G,w,?_,by simp[Rep,RepL],⟨rfl,k⟩,s,Evo.refl _ _ _⟩
  rcases hx with ⟨_,rfl,za,rfl⟩|⟨bb,o,rfl,h2⟩<;>(try cases za)<;>simp[Builtin.clear_,ht0,run_underlying ht]
 ·simp only[Rep]at hx
  refine⟨.tup [],.tuple #[],h,G,w,?_,by simp[Rep,RepL],⟨rfl,k⟩,s,Evo.refl _ _ _⟩
  rcases hx with ⟨_,rfl,za,rfl⟩|⟨bb,o,c,_,rfl,h2⟩<;>(try cases za)<;>simp[Builtin.clear_,ht0,run_underlying ht]
 ·exact k.elim
theorem HY {size:Nat}{u v:AV}{h:ab}{K K':ab→Prop}(hk:∀ h,K h→K' h) (k:sP size u v h K):sP size u v h K':=by
 unfold sP at *
 split at k
 ·split at k
  ·exact⟨k.1,hk _ k.2⟩
  ·exact k.elim
 ·exact hk _ k
 ·exact hk _ k
 ·exact k.elim
end
end
section
variable [Tabs]
section
variable {P:Program}{G:Gh}{h:ab}{w:World}
inductive Ext where
 | index
 | count
 | bits
 | frombits
def Gy (P:Program) (f:FuncId):Option Ext:=match P.funcs[f]? with
 | some fn => if fn.body.isNone = true then (if (fn.name == "internal/bytealg.IndexByteString" && fn.origin == "") = true then some .index
   else if (fn.name == "internal/bytealg.CountString" && fn.origin == "") = true then some .count else if (fn.name == "math.Float64bits" && fn.origin == "") = true then some .bits else if (fn.name == "math.Float64frombits" && fn.origin == "") = true then some .frombits else none) else none
 | none=>none
def vy (e:Ext) (vs:List AV) (K:AV→Prop):Prop:=
 match e,vs with
 | .index,[.lit (.string s),.lit (.int .u8 c)]=>K (I (Lib.indexByte s.data.toList c.toNat.toUInt8))
 | .count,[.lit (.string s),.lit (.int .u8 c)]=>K (I (Lib.countByte s.data.toList c.toNat.toUInt8))
 | .bits,[.lit (.float .f64 b)]=>K (.lit (.int .u64 b))
 | .frombits,[.lit (.int .u64 n)]=>K (.lit (.float .f64 n.toNat))
 | _,_=>False
structure Oz (e:Ext) (vs:List AV) (K:AV→Prop):Prop where
 mk::(out:vy e vs K)
theorem x7 {e:Ext}{vs:List AV}{K K':AV→Prop}(hk:∀ r,K r→K' r) (k:vy e vs K):vy e vs K':=by
 unfold vy at *
 split at k<;>first|exact hk _ k|exact k.elim
theorem QZ {e:Ext}{vs:List AV}{K:AV→Prop}(k:vy e vs K):∃ v,K v∧vy e vs fun r=>r=v:=by
 unfold vy at *
 split at k<;>first|exact⟨_,k,rfl⟩|exact k.elim
theorem look_index : Extern.allGenericRows.lookup "internal/bytealg.IndexByteString" = none ∧ Extern.allTypedRows.lookup "internal/bytealg.IndexByteString" = none ∧ Extern.allRows.lookup "internal/bytealg.IndexByteString" = some Extern.BytealgIndexByte.indexByte := ⟨by kernel_rfl, by kernel_rfl, by kernel_rfl⟩
theorem look_count : Extern.allGenericRows.lookup "internal/bytealg.CountString" = none ∧ Extern.allTypedRows.lookup "internal/bytealg.CountString" = none ∧ Extern.allRows.lookup "internal/bytealg.CountString" = some Extern.BytealgCount.count := ⟨by kernel_rfl, by kernel_rfl, by kernel_rfl⟩
theorem look_bits : Extern.allGenericRows.lookup "math.Float64bits" = none ∧ Extern.allTypedRows.lookup "math.Float64bits" = none ∧ Extern.allRows.lookup "math.Float64bits" = some Extern.MathFloatBits.float64bits := ⟨by kernel_rfl, by kernel_rfl, by kernel_rfl⟩
theorem look_frombits : Extern.allGenericRows.lookup "math.Float64frombits" = none ∧ Extern.allTypedRows.lookup "math.Float64frombits" = none ∧ Extern.allRows.lookup "math.Float64frombits" = some Extern.MathFloatBits.float64frombits := ⟨by kernel_rfl, by kernel_rfl, by kernel_rfl⟩
theorem look_next2 : Extern.allNextRows.lookup "math.Float64bits" = none ∧ Extern.allNextRows.lookup "math.Float64frombits" = none := ⟨by kernel_rfl, by kernel_rfl⟩
theorem look_next : Extern.allNextRows.lookup "internal/bytealg.IndexByteString" = none ∧ Extern.allNextRows.lookup "internal/bytealg.CountString" = none ∧ Extern.allNextRows.lookup "" = none := ⟨by kernel_rfl, by kernel_rfl, by kernel_rfl⟩
theorem Sj {f:FuncId}{e:Ext}(he:Gy P f=some e) {vs:List AV}{xs:Array Value}(hr:RepL G vs xs.toList) {K:AV→Prop}(k:vy e vs K):
  ∃ r v,(callFunc f xs).run P w=.ok (.value v) w∧Rep G r v∧K r:=by
 unfold Gy at he
 split at he
 ·rename_i fn hf
  split at he
  ·rename_i hb
   split at he
   ·rename_i hn
    cases he
    simp only[Bool.and_eq_true,beq_iff_eq]at hn
    have h1:Extern.findNext fn=none:=by unfold Extern.findNext;simp only[hn.1,hn.2,look_next.1,look_next.2.2];rfl
    have h2:Extern.find fn=some Extern.BytealgIndexByte.indexByte:=by unfold Extern.find;simp only[hn.1,look_index.1,look_index.2.1,look_index.2.2];rfl
    rw[run_callFunc_extern hf (by rw[hn.1];decide) hb h1 h2]
    have k:∃ s c,vs=[.lit (.string s),.lit (.int .u8 c)]∧K (I (Lib.indexByte s.data.toList c.toNat.toUInt8)):=by
     unfold vy at k;split at k<;>first|contradiction|exact⟨_,_,rfl,k⟩|exact k.elim
    obtain⟨s,c,rfl,k⟩:=k
    ·obtain⟨a,b,hx,ha,hb⟩:=hr.two
     simp only[Rep]at ha hb
     have:xs=#[a,b]:=by apply Array.toList_inj.1;simpa using hx
     rw[this,ha.1,hb.1,run_indexByte_string,Lib.firstIdx_eq]
     exact⟨_,_,rfl,by simp[Rep,Value.oneCell'],k⟩
   ·split at he
    ·rename_i hn
     cases he
     simp only[Bool.and_eq_true,beq_iff_eq]at hn
     have h1:Extern.findNext fn=none:=by unfold Extern.findNext;simp only[hn.1,hn.2,look_next.2.1,look_next.2.2];rfl
     have h2:Extern.find fn=some Extern.BytealgCount.count:=by unfold Extern.find;simp only[hn.1,look_count.1,look_count.2.1,look_count.2.2];rfl
     rw[run_callFunc_extern hf (by rw[hn.1];decide) hb h1 h2]
     have k:∃ s c,vs=[.lit (.string s),.lit (.int .u8 c)]∧K (I (Lib.countByte s.data.toList c.toNat.toUInt8)):=by
      unfold vy at k;split at k<;>first|contradiction|exact⟨_,_,rfl,k⟩|exact k.elim
     obtain⟨s,c,rfl,k⟩:=k
     ·obtain⟨a,b,hx,ha,hb⟩:=hr.two
      simp only[Rep]at ha hb
      have:xs=#[a,b]:=by apply Array.toList_inj.1;simpa using hx
      rw[this,ha.1,hb.1,Lib.run_countString]
      exact⟨_,_,rfl,by simp[Rep,Value.oneCell'],k⟩
    ·split at he
     ·rename_i hn
      cases he
      simp only[Bool.and_eq_true,beq_iff_eq]at hn
      have h1:Extern.findNext fn=none:=by unfold Extern.findNext;simp only[hn.1,hn.2,look_next2.1,look_next.2.2];rfl
      have h2:Extern.find fn=some Extern.MathFloatBits.float64bits:=by unfold Extern.find;simp only[hn.1,look_bits.1,look_bits.2.1,look_bits.2.2];rfl
      rw[run_callFunc_extern hf (by rw[hn.1];decide) hb h1 h2]
      have k:∃ b,vs=[.lit (.float .f64 b)]∧K (.lit (.int .u64 b)):=by
       unfold vy at k;split at k<;>first|contradiction|exact⟨_,rfl,k⟩|exact k.elim
      obtain⟨b,rfl,k⟩:=k
      obtain⟨a,hx,ha⟩:=hr.single
      simp only[Rep]at ha
      have:xs=#[a]:=by apply Array.toList_inj.1;simpa using hx
      rw[this,ha.1]
      exact⟨_,_,rfl,by simp[Rep,Value.oneCell'],k⟩
     ·split at he
      ·rename_i hn
       cases he
       simp only[Bool.and_eq_true,beq_iff_eq]at hn
       have h1:Extern.findNext fn=none:=by unfold Extern.findNext;simp only[hn.1,hn.2,look_next2.2,look_next.2.2];rfl
       have h2:Extern.find fn=some Extern.MathFloatBits.float64frombits:=by unfold Extern.find;simp only[hn.1,look_frombits.1,look_frombits.2.1,look_frombits.2.2];rfl
       rw[run_callFunc_extern hf (by rw[hn.1];decide) hb h1 h2]
       have k:∃ n,vs=[.lit (.int .u64 n)]∧K (.lit (.float .f64 n.toNat)):=by
        unfold vy at k;split at k<;>first|contradiction|exact⟨_,rfl,k⟩|exact k.elim
       obtain⟨n,rfl,k⟩:=k
       obtain⟨a,hx,ha⟩:=hr.single
       simp only[Rep]at ha
       have:xs=#[a]:=by apply Array.toList_inj.1;simpa using hx
       rw[this,ha.1]
       exact⟨_,_,rfl,by simp[Rep,Value.oneCell'],k⟩
      ·cases he
  ·cases he
 ·cases he
def isX (P:Program):Op→Bool
 | .call c=>match c.callee with
   | .value (.func f)=>(Gy P f).isSome
   | .builtin .copy=>true
   | .builtin .clear=>true
   | _=>false
 | .indexAddr _ (.global _) _=>true
 | .load _ (.global _)=>true
 | _=>false
def O7:Op→Bool
 | .call c=>match c.callee with
   | .value (.func _)=>true
   | _=>false
 | .indexAddr _ (.global _) _=>true
 | .load _ (.global _)=>true
 | _=>false
def BF (P:Program) (ts:Array TypeId) (K:Value→TypeInfo→Prop):Prop:=
 match ts.toList with
 | t::_=>(match P.underlying t with
   | some (.slice e)=>(match P.info? e with
     | some i=>(match i.zero with|some z=>if okV z=true then K z i else False|none=>False)
     | none=>False)
   | _=>False)
 | _=>False
theorem zz {ts:Array TypeId}{K:Value→TypeInfo→Prop}(k:BF P ts K):∃ t e i z,ts[0]?=some t∧P.underlying t=some (.slice e)∧P.info? e=some i∧i.zero=some z∧okV z=true∧K z i:=by
 unfold BF at k
 split at k
 ·rename_i t rest ht
  split at k
  ·split at k
   ·split at k
    ·split at k
     ·refine⟨t,_,_,_,?_,by assumption,by assumption,by assumption,by assumption,k⟩
      rw[← Array.getElem?_toList,ht];rfl
     ·exact k.elim
    ·exact k.elim
   ·exact k.elim
  ·exact k.elim
 ·exact k.elim
theorem Dw {ts:Array TypeId}{K K':Value→TypeInfo→Prop}(hk:∀ z i,K z i→K' z i) (k:BF P ts K):BF P ts K':=by
 unfold BF at *
 split at k
 ·split at k
  ·split at k
   ·split at k
    ·split at k
     ·rename_i h;rw[if_pos h];exact hk _ _ k
     ·exact k.elim
    ·exact k.elim
   ·exact k.elim
  ·exact k.elim
 ·exact k.elim
def rO (P:Program) (env:Env) (h:ab) (o:Oper) (K:QT):Prop:=
 match o.op with
 | .call c=>match c.callee with
   | .value (.func f)=>dC (i3 env c.args.toList) fun vs=>(match Gy P f with|some e=>Oz e vs fun r=>K r h|none=>False)
   | .builtin .copy=>dC (i3 env c.args.toList) fun vs=>BF P c.argTypes fun _ i=>(match vs with|[v,x]=>T7 i.size v x h K|_=>False)
   | .builtin .clear=>dC (i3 env c.args.toList) fun vs=>BF P c.argTypes fun z i=>(match vs with|[v]=>TN i.size (ofV z) v h fun h'=>K (.tup []) h'|_=>False)
   | _=>False
 | .indexAddr t (.global g) i=>(match Tabs.tab g with
   | some cs=>bJ (opv env i) fun iv=>dW P t (.cptr cs) iv fun r=>K r h
   | none=>False)
 | .load t (.global g)=>(match Tabs.tab g with
   | some cs=>iT P t (.cptr cs) h fun r=>K r h
   | none=>False)
 | _=>False
def aop (P:Program) (env:Env) (h:ab) (o:Oper) (K:QT):Prop:=if isX P o.op=true then rO P env h o K else to P env h o K
theorem LQ (s:Sim G h w) {g:Nat}{cs:List AV}(hg:Tabs.tab g=some cs) (a:Act):Rep G (.cptr cs) (a.eval (.global g)):=by
 simp only[Act.eval,Rep]
 exact⟨g,0,rfl,Tabs.tab_ok G g cs s.tab hg⟩
theorem So (s:Sim G h w) {env:Env}{a:Act}(r:EnvRep G env a.tmps) {o:Oper}{K:QT}(k:rO P env h o K):UpV P (N0 G h w K) ((execOp a.eval o).run P w):=by
 obtain⟨dst,op,ty,pos,after,guard⟩:=o
 cases op<;>simp only[rO]at k<;>try exact k.elim
 case call c=>
  obtain⟨callee,args,argTypes⟩:=c
  simp only at k
  split at k
  ·rename_i f
   obtain⟨vs,h1,k⟩:=c6 k
   split at k
   ·rename_i e he
    have hr:=g0 r h1
    obtain⟨rr,v,q1,q2,q3⟩:=Sj (w:=w) (xs:=args.map a.eval) he (by simpa using hr) k.out
    simp only[execOp,resolve,Deferred.ofValue,Act.eval,Sem.run_bind,Sem.run_pure,Result.andThen_ok,invoke,Array.append_empty,Array.empty_append]
    rw[q1]
    exact⟨rr,h,G,q2,q3,s,Evo.refl _ _ _⟩
   ·exact k.elim
  ·obtain⟨vs,h1,k⟩:=c6 k
   obtain⟨t,e,i,z,ht0,ht,hi,hz,hzo,k2⟩:=zz k
   have hr:=g0 r h1
   clear k
   split at k2
   ·rename_i v u
    obtain⟨x,y,hx,hx2,hx3⟩:=(show RepL G [v,u] (args.map a.eval).toList by simpa using hr).two
    have hargs:args.map a.eval=#[x,y]:=by apply Array.toList_inj.1;simpa using hx
    obtain⟨r',v',h',G',w',q1,q2,q3,q4,q5⟩:=OH (ty:=ty) s ht0 ht hi hx2 hx3 k2.out
    simp only[execOp,resolve,Sem.run_bind,Sem.run_pure,Result.andThen_ok,invoke,builtin,hargs,q1]
    exact⟨r',h',G',q2,q3,q4,q5⟩
   ·exact k2.elim
  ·obtain⟨vs,h1,k⟩:=c6 k
   obtain⟨t,e,i,z,ht0,ht,hi,hz,hzo,k2⟩:=zz k
   have hr:=g0 r h1
   clear k
   split at k2
   ·rename_i v
    obtain⟨x,hx,hx2⟩:=(show RepL G [v] (args.map a.eval).toList by simpa using hr).single
    have hargs:args.map a.eval=#[x]:=by apply Array.toList_inj.1;simpa using hx
    obtain⟨r',v',h',G',w',q1,q2,⟨rfl,q3⟩,q4,q5⟩:=Nr (ty:=ty) s ht0 ht hi hz hx2 (nU G z hzo) k2.out
    simp only[execOp,resolve,Sem.run_bind,Sem.run_pure,Result.andThen_ok,invoke,builtin,hargs,q1]
    exact⟨_,h',G',q2,q3,q4,q5⟩
   ·exact k2.elim
  ·exact k.elim
 case indexAddr t x i=>
  cases x<;>simp only at k<;>try exact k.elim
  split at k
  ·rename_i cs hg
   obtain⟨iv,h1,k⟩:=ar k
   have hx:=LQ s hg a
   unfold dW at k
   split at k
   ·split at k
    ·exact aW s (uX ‹_› ‹_› hx (aH r h1) k.out)
    ·exact k.elim
   ·split at k
    ·exact aW s (tx ‹_› ‹_› hx (aH r h1) k.out)
    ·exact k.elim
   ·exact k.elim
  ·exact k.elim
 case load t x=>
  cases x<;>simp only at k<;>try exact k.elim
  split at k
  ·rename_i cs hg
   have hx:=LQ s hg a
   unfold iT at k
   split at k
   ·split at k
    ·exact aW s (xc s ‹_› ‹_› ‹_› hx k.out)
    ·rename_i hd;exact aW s (xb s ‹_› (by simpa using hd) hx k.out)
   ·exact k.elim
  ·exact k.elim
theorem NJ {env:Env}{h:ab}{o:Oper}{K K':QT}(hk:∀ v h,K v h→K' v h) (k:rO P env h o K):rO P env h o K':=by
 obtain⟨dst,op,ty,pos,after,guard⟩:=o
 cases op<;>simp only[rO]at k ⊢<;>try exact k.elim
 case call c=>
  split at k
  ·refine en (fun _ k=>?_) _ k
   split at k
   ·exact⟨x7 (fun r k=>hk r h k) k.out⟩
   ·exact k.elim
  ·refine en (fun _ k=>Dw (fun z i k=>?_) k) _ k
   split at k
   ·exact⟨JE hk k.out⟩
   ·exact k.elim
  ·refine en (fun _ k=>Dw (fun z i k=>?_) k) _ k
   split at k
   ·exact⟨HY (fun h k=>hk _ h k) k.out⟩
   ·exact k.elim
  ·exact k.elim
 case indexAddr t x i=>
  cases x<;>simp only at k ⊢<;>try exact k.elim
  split at k
  ·refine bg (fun _ k=>?_) _ k
   unfold dW at *
   (repeat' split at k)<;>first
    | exact k.elim
    | exact gh (fun r k=>hk r h k) _ _ _ k
    | exact ed (fun r k=>hk r h k) _ _ _ _ k
  ·exact k.elim
 case load t x=>
  cases x<;>simp only at k ⊢<;>try exact k.elim
  split at k
  ·unfold iT at *
   split at k
   ·split at k
    ·rename_i hd;rw[if_pos hd];exact fK (fun r k=>hk r h k) _ _ _ k
    ·rename_i hd;rw[if_neg hd];exact fJ (fun r k=>hk r h k) _ _ k
   ·exact k.elim
  ·exact k.elim
theorem Ow (s:Sim G h w) {env:Env}{a:Act}(r:EnvRep G env a.tmps) {o:Oper}{K:QT}(k:aop P env h o K):UpV P (N0 G h w K) ((execOp a.eval o).run P w):=by
 unfold aop at k
 split at k
 ·exact So s r k
 ·exact Rv s r k
theorem iY {env:Env}{h:ab}{o:Oper}{K K':QT}(hk:∀ v h,K v h→K' v h) (k:aop P env h o K):aop P env h o K':=by
 unfold aop at *
 split at k
 ·rename_i hn;rw[if_pos hn];exact NJ hk k
 ·rename_i hn;rw[if_neg hn];exact ML hk k
end
end
section
variable [Tabs]
section
variable {P:Program}{G:Gh}{h:ab}{w:World}{n:Nat}
def putD (env:Env) (d:Option Tmp) (v:AV):Env:=match d with|some d=>(d,v)::env|none=>env
def eG (n:Nat) (d:Option Tmp):Bool:=match d with|some d=>decide (d<n)|none=>true
theorem EnvRep.putD {env:Env}{a:Act}(r:EnvRep G env a.tmps) {d:Option Tmp}(hd:eG a.tmps.size d=true) {v:AV}{x:Value}(hx:Rep G v x):EnvRep G (putD env d v) (a.put d x).tmps:=by
 cases d with
 | none=>exact r
 | some d=>exact r.put (by simpa [eG] using hd) hx
theorem put_size (a:Act) (d:Option Tmp) (x:Value):(a.put d x).tmps.size=a.tmps.size:=by cases d<;>simp[Act.put]
theorem put_defers (a:Act) (d:Option Tmp) (x:Value):(a.put d x).defers=a.defers:=by cases d<;>simp[Act.put]
def nr (P:Program) (n:Nat) (env:Env) (h:ab) (o:Oper) (K:Env→ab→Prop):Prop:=
 if eG n o.dst=true then aop P env h o fun v h'=>K (putD env o.dst v) h' else False
def ifT (v:AV) (X Y Z:Prop):Prop:=match v with|.tup []=>Z|_=>ifB v X Y
def ifG (g:Bool) (v:AV) (X Y Z:Prop):Prop:=match g with|true=>ifT v X Y Z|false=>ifB v X Y
def Nj (ops:Array Oper) (j:Nat):Bool:=match ops[j]? with|some o=>o.guard.isSome|none=>false
omit [Tabs] in
theorem Dk {v:AV}{X Y:Prop}(k:ifB v X Y):(v=B true∧X)∨(v=B false∧Y):=by
 unfold ifB at k;split at k
 ·exact .inl ⟨rfl,k⟩
 ·exact .inr ⟨rfl,k⟩
 ·exact k.elim
omit [Tabs] in
theorem DL {g:Bool}{v:AV}{X Y Z:Prop}(k:ifG g v X Y Z):(v=B true∧X)∨(v=B false∧Y)∨(v=.tup []∧Z):=by
 unfold ifG at k;split at k
 ·unfold ifT at k;split at k
  ·exact .inr (.inr ⟨rfl,k⟩)
  ·exact (Dk k).elim .inl fun h=>.inr (.inl h)
 ·exact (Dk k).elim .inl fun h=>.inr (.inl h)
theorem Hd {g:Bool}{v:AV}{X Y Z X' Y' Z':Prop}(hx:X→X') (hy:Y→Y') (hz:Z→Z') (k:ifG g v X Y Z):ifG g v X' Y' Z':=by
 unfold ifG at *
 split at k
 ·unfold ifT at *;split at k
  ·exact hz k
  ·exact wN hx hy k
 ·exact wN hx hy k
omit [Tabs] in
theorem L9 {g:Bool}{X Y Z:Prop}(k:X):ifG g (B true) X Y Z:=by cases g<;>exact k
omit [Tabs] in
theorem Mb {g:Bool}{X Y Z:Prop}(k:Y):ifG g (B false) X Y Z:=by cases g<;>exact k
def gW (P:Program) (n:Nat) (ops:Array Oper):List Nat→Env→ab→(Env→ab→Prop)→Prop
 | [],env,h,K=>K env h
 | i::rest,env,h,K=>match ops[i]? with
   | none=>False
   | some o=>match o.guard with
     | none=>nr P n env h o fun env' h'=>gW P n ops rest env' h' K
     | some (j,want)=>match (ops[j]?).bind (·.dst) with
       | none=>False
       | some s=>bJ (get env s) fun v=>
         ifG (Nj ops j) v
          (if want=true then nr P n ((s,B true)::env) h o fun env' h'=>gW P n ops rest env' h' K
           else if eG n o.dst=true then gW P n ops rest (putD ((s,B true)::env) o.dst (.tup [])) h K else False)
          (if want=true then (if eG n o.dst=true then gW P n ops rest (putD ((s,B false)::env) o.dst (.tup [])) h K else False)
           else nr P n ((s,B false)::env) h o fun env' h'=>gW P n ops rest env' h' K)
          (if eG n o.dst=true then gW P n ops rest (putD ((s,.tup [])::env) o.dst (.tup [])) h K else False)
def zP (G:Gh) (h:ab) (w:World) (n:Nat) (D:List Deferred) (K:Env→ab→Prop) (a:Act) (w':World):Prop:=
 ∃ env' h' G',K env' h'∧Sim G' h' w'∧Evo G h w G' h' w'∧EnvRep G' env' a.tmps∧a.tmps.size=n∧a.defers=D
theorem H8 {o:Oper}{env:Env}{K:Env→ab→Prop}{a:Act}{Q:Exit→Act→World→Prop}{next:Act→World→Prop}(s:Sim G h w) (hn:a.tmps.size=n) (r:EnvRep G env a.tmps) (k:nr P n env h o K)
  (hnext:∀ a' w',zP G h w n a.defers K a' w'→next a' w'):o.wp P a w next Q:=by
 unfold nr at k
 split at k
 ·rename_i hd
  unfold Oper.wp
  refine yU ?_
  have:=Ow s r k
  unfold UpV at this ⊢
  have conv:∀ v w',N0 G h w (fun v h'=>K (putD env o.dst v) h') v w'→next (a.put o.dst v) w':=fun v w' ⟨rr,h',G',q1,q2,q3,q4⟩=>by
   refine hnext _ _ ⟨_,h',G',q2,q3,q4,(r.mono q4.le).putD (by rw[hn];exact hd) q1,by rw[put_size,hn],put_defers _ _ _⟩
  split at this
  ·exact conv _ _ this
  ·exact conv _ _ this
  ·exact Calls.mono this fun e w'' ⟨v,he,hv⟩=>⟨v,he,conv _ _ hv⟩
  ·exact this.elim
 ·exact k.elim
theorem sf {env:Env}{tmps:Array Value}(r:EnvRep G env tmps) {s:Nat}{v:AV}(h:get env s=some v):EnvRep G ((s,v)::env) tmps:=fun k a e=>by
 simp only[get]at e
 split at e
 ·rename_i hk;subst hk;cases e;exact r _ _ h
 ·exact r k a e
theorem qP {ops:Array Oper}{o:Oper}{j:Nat}{want b:Bool}{s:Nat}{env:Env}{a:Act}(hg:o.guard=some (j,want)) (hs:(ops[j]?).bind (·.dst)=some s) (r:EnvRep G env a.tmps) (hv:get env s=some (B b)):
  Region.wanted o (yielded ops a.tmps)=(b==want):=by
 obtain⟨x,h1,h2⟩:=r s _ hv
 simp only[Rep]at h2
 obtain⟨rfl,_⟩:=h2
 have hy:yielded ops a.tmps j=some b:=by
  unfold yielded
  simp only[hs]
  simp[Array.getD_eq_getD_getElem?,h1]
 simp only[Region.wanted,hg,hy]
 cases b<;>cases want<;>rfl
theorem wU {ops:Array Oper}{o:Oper}{j:Nat}{want:Bool}{s:Nat}{env:Env}{a:Act}(hg:o.guard=some (j,want)) (hs:(ops[j]?).bind (·.dst)=some s) (r:EnvRep G env a.tmps) (hv:get env s=some (.tup [])):
  Region.wanted o (yielded ops a.tmps)=false:=by
 obtain⟨x,h1,h2⟩:=r s _ hv
 simp only[Rep]at h2
 obtain⟨vs,rfl,h3⟩:=h2
 have hy:yielded ops a.tmps j=none:=by
  unfold yielded
  simp only[hs]
  simp[Array.getD_eq_getD_getElem?,h1]
 simp only[Region.wanted,hg,hy]
 rfl
theorem Ae (ops:Array Oper) (Q:Exit→Act→World→Prop):∀ (l:List Nat) (env:Env) (h:ab) (G:Gh) (w:World) (a:Act) (K:Env→ab→Prop),Sim G h w→a.tmps.size=n→EnvRep G env a.tmps→gW P n ops l env h K→
  (∀ a' w',zP G h w n a.defers K a' w'→Q .normal a' w')→wpOps P ops Q l a w
 | [],env,h,G,w,a,K,s,hn,r,k,hq=>hq a w ⟨env,h,G,k,s,Evo.refl _ _ _,r,hn,rfl⟩
 | i::rest,env,h,G,w,a,K,s,hn,r,k,hq=>by
   unfold gW at k
   unfold wpOps
   split at k
   ·exact k.elim
   ·rename_i o ho
    simp only[ho]
    have go:∀ {env:Env},EnvRep G env a.tmps→nr P n env h o (fun env' h'=>gW P n ops rest env' h' K)→o.wp P a w (wpOps P ops Q rest) Q:=fun r k=>
     H8 s hn r k fun a' w' ⟨env',h',G',q1,q2,q3,q4,q5,q6⟩=>
      Ae ops Q rest env' h' G' w' a' K q2 q5 q4 q1 fun a2 w2 ⟨env2,h2,G2,p1,p2,p3,p4,p5,p6⟩=>hq a2 w2 ⟨env2,h2,G2,p1,p2,q3.trans p3,p4,p5,p6.trans q6⟩
    have skip:∀ {env:Env},EnvRep G env a.tmps→eG n o.dst=true→gW P n ops rest (putD env o.dst (.tup [])) h K→wpOps P ops Q rest (a.put o.dst undef) w:=fun r hd k=>
     Ae ops Q rest _ h G w _ K s (by rw[put_size,hn]) (r.putD (by rw[hn];exact hd) (by simp[Rep,RepL,undef])) k fun a2 w2 p=>hq a2 w2 (by rwa [put_defers]at p)
    split at k
    ·rename_i hg
     have:Region.wanted o (yielded ops a.tmps)=true:=by simp[Region.wanted,hg]
     rw[if_pos this]
     exact .inl (go r k)
    ·rename_i j want hg
     split at k
     ·exact k.elim
     ·rename_i sl hsl
      obtain⟨v,hv,k⟩:=ar k
      replace k:=DL k
      rcases k with ⟨rfl,k⟩|⟨rfl,k⟩|⟨rfl,k⟩
      ·have r':=sf r hv
       have hw:=qP hg hsl r hv
       rw[hw]
       cases want
       ·simp only[Bool.false_eq_true,if_false]at k
        rw[if_neg (by simp)]
        split at k
        ·exact skip r' ‹_› k
        ·exact k.elim
       ·simp only[if_true]at k
        rw[if_pos (by simp)]
        exact .inl (go r' k)
      ·have r':=sf r hv
       have hw:=qP hg hsl r hv
       rw[hw]
       cases want
       ·simp only[Bool.false_eq_true,if_false]at k
        rw[if_pos (by simp)]
        exact .inl (go r' k)
       ·simp only[if_true]at k
        rw[if_neg (by simp)]
        split at k
        ·exact skip r' ‹_› k
        ·exact k.elim
      ·have r':=sf r hv
       rw[wU hg hsl r hv]
       rw[if_neg (by simp)]
       split at k
       ·exact skip r' ‹_› k
       ·exact k.elim
theorem BT {id:Nat}{ops:Array Oper}{env:Env}{K:Exit→Env→ab→Prop}(k:gW P n ops (List.range ops.size) env h fun env' h'=>K .normal env' h'):AWp P n (.region id ops false) env h K:=
 fun G w a s hn r=>wp_region (Ae ops _ _ env h G w a _ s hn r k fun a' w' p=>p)
theorem Hi {c:Operand}{x y:Code}{env:Env}{K:Exit→Env→ab→Prop}(k:bJ (opv env c) fun v=>ifB v (AWp P n x env h K) (AWp P n y env h K)):AWp P n (.cond c x y) env h K:=by
 intro G w a s hn r
 obtain⟨v,hv,k⟩:=ar k
 have hr:=aH r hv
 unfold ifB at k
 split at k
 ·simp only[Rep]at hr
  exact wp_cond_true hr.1 (k G w a s hn r)
 ·simp only[Rep]at hr
  exact wp_cond_false hr.1 (k G w a s hn r)
 ·exact k.elim
def cW:Code→List Nat
 | .region _ ops _=>ops.toList.filterMap (·.dst)
 | .seq a b=>cW a++cW b
 | .cond _ a b=>cW a++cW b
 | .block _ b=>cW b
 | .loop b=>cW b
 | .scope b=>cW b
 | .rangeFunc _ _ a b=>cW a++cW b
 | _=>[]
def wF (o:Oper):List Nat:=o.op.operands.toList.filterMap fun|.tmp t=>some t|_=>none
def S3:List Nat→List Nat
 | []=>[]
 | x::xs=>if xs.contains x then S3 xs else x::S3 xs
def zt (env:Env):List Nat→Option (List AV)
 | []=>some []
 | s::l=>match get env s,zt env l with
   | some v,some vs=>some (v::vs)
   | _,_=>none
def gG (ws:List Nat) (env:Env):Env:=env.filter fun p=>!ws.contains p.1
theorem vJ {ws:List Nat}:∀ {env:Env}{s:Nat}{a:AV},get (gG ws env) s=some a→get env s=some a
 | [],s,a,e=>by simp[gG,get]at e
 | (k,v)::env,s,a,e=>by
   simp only[gG,List.filter_cons]at e
   split at e
   ·simp only[get]at e ⊢
    split
    ·rename_i hk;rw[if_pos hk]at e;exact e
    ·rename_i hk;rw[if_neg hk]at e;exact vJ e
   ·rename_i hc
    have ih:=vJ (ws:=ws) (env:=env) (s:=s) (a:=a) e
    simp only[get]
    split
    ·rename_i hk
     subst hk
     exfalso
     have:∀ env:Env,get (gG ws env) k=none:=fun env=>by
      induction env with
      | nil=>simp[gG,get]
      | cons p env ih=>
        simp only[gG,List.filter_cons]
        split
        ·rename_i hp
         simp only[get]
         rw[if_neg (fun e=>by subst e;exact hc hp)]
         exact ih
        ·exact ih
     rw[show env.filter _=gG ws env from rfl,this]at e
     cases e
    ·exact ih
def an (vs:List AV) (i:Nat):AV:=(vs[i]?).getD default
def kj (vs:List AV):Nat→List Nat→Env
 | _,[]=>[]
 | i,k::ks=>(k,an vs i)::kj vs (i+1) ks
structure cC (vs:List AV) (h:ab) (B:List AV→ab→(NT)→Prop):Prop where
 mk::(out:∃ J:Nat→NT,(∃ k,J k vs h)∧∀ k vs h,J k vs h→B vs h fun vs' h'=>∃ m,m<k∧J m vs' h')
def Uo (ws ks:List Nat) (body:Env→ab→(Exit→Env→ab→Prop)→Prop) (env:Env) (h:ab) (K:Exit→Env→ab→Prop):Prop:=
 dC (zt env ks) fun vs0=>cC vs0 h fun vs h next=>body (kj vs 0 ks++gG ws env) h fun e env' h'=>match e with
  | .normal=>dC (zt env' ks) fun vs'=>next vs' h'
  | e=>K e env' h'
abbrev FP:=List (Nat×List Nat×List Nat)
def ox:Code→Nat
 | .region id _ _=>id+1
 | .seq a b=>match ox a with|0=>ox b|k=>k
 | .cond _ a b=>match ox a with|0=>ox b|k=>k
 | .block _ b=>ox b
 | .loop b=>ox b
 | .scope b=>ox b
 | _=>0
def JN:FP→Nat→Option (List Nat×List Nat)
 | [],_=>none
 | (k,p)::r,i=>if k=i then some p else JN r i
def Kn (c:Code) (ws ks:List Nat):Bool:=((cW c).all ws.contains&&ws.all (cW c).contains)&&ks.all ws.contains
theorem yx {c:Code}{ws ks:List Nat}(h:Kn c ws ks=true):(∀ s,s∈cW c→s∈ws)∧(∀ s,s∈ws→s∈cW c)∧∀ s,s∈ks→s∈ws:=by
 simp only[Kn,Bool.and_eq_true,List.all_eq_true]at h
 exact⟨fun s hs=>by simpa using h.1.1 s hs,fun s hs=>by simpa using h.1.2 s hs,fun s hs=>by simpa using h.2 s hs⟩
end
end
section
variable [Tabs]
section
variable {P:Program}
theorem OE {K:AV→Prop}(op:BinOp) (x y:AV) (k:yZ op x y K):∃ v,K v∧yZ op x y fun r=>r=v:=by
 unfold yZ at *
 (repeat' split at k)<;>first|exact k.elim|exact⟨_,k,rfl⟩|exact⟨_,k.2,k.1,rfl⟩|exact⟨_,k.2.2,k.1,k.2.1,rfl⟩|(refine⟨_,k,?_⟩;simp_all;done)|(refine⟨_,k.2,?_⟩;simp_all;done)|(refine⟨_,k.2.2,?_⟩;simp_all;done)
theorem NN {K:AV→Prop}(op:BinOp) (x y:AV) (k:rI op x y K):∃ v,K v∧rI op x y fun r=>r=v:=by
 unfold rI at *
 (repeat' split at k)<;>first|exact k.elim|exact⟨_,k,rfl⟩|exact⟨_,k.2,k.1,rfl⟩|exact⟨_,k.2.2,k.1,k.2.1,rfl⟩|(refine⟨_,k,?_⟩;simp_all;done)|(refine⟨_,k.2,?_⟩;simp_all;done)|(refine⟨_,k.2.2,?_⟩;simp_all;done)
theorem Oj {K:AV→Prop}(op:BinOp) (x y:AV) (k:rQ op x y K):∃ v,K v∧rQ op x y fun r=>r=v:=by
 unfold rQ at *
 (repeat' split at k)<;>first|exact k.elim|exact⟨_,k,rfl⟩|exact⟨_,k.2,k.1,rfl⟩|exact⟨_,k.2.2,k.1,k.2.1,rfl⟩|(refine⟨_,k,?_⟩;simp_all;done)|(refine⟨_,k.2,?_⟩;simp_all;done)|(refine⟨_,k.2.2,?_⟩;simp_all;done)
theorem Sb {K:AV→Prop}(op:UnOp) (x:AV) (k:pUn op x K):∃ v,K v∧pUn op x fun r=>r=v:=by
 unfold pUn at *
 (repeat' split at k)<;>first|exact k.elim|exact⟨_,k,rfl⟩|exact⟨_,k.2,k.1,rfl⟩|exact⟨_,k.2.2,k.1,k.2.1,rfl⟩|(refine⟨_,k,?_⟩;simp_all;done)|(refine⟨_,k.2,?_⟩;simp_all;done)|(refine⟨_,k.2.2,?_⟩;simp_all;done)
theorem Iq {K:AV→Prop}(d:IntKind) (x:AV) (k:j5 d x K):∃ v,K v∧j5 d x fun r=>r=v:=by
 unfold j5 at *
 (repeat' split at k)<;>first|exact k.elim|exact⟨_,k,rfl⟩|exact⟨_,k.2,k.1,rfl⟩|exact⟨_,k.2.2,k.1,k.2.1,rfl⟩|(refine⟨_,k,?_⟩;simp_all;done)|(refine⟨_,k.2,?_⟩;simp_all;done)|(refine⟨_,k.2.2,?_⟩;simp_all;done)
theorem IV {K:AV→Prop}(d:FloatKind) (x:AV) (k:j1 d x K):∃ v,K v∧j1 d x fun r=>r=v:=by
 unfold j1 at *
 (repeat' split at k)<;>first|exact k.elim|exact⟨_,k,rfl⟩|exact⟨_,k.2,k.1,rfl⟩|exact⟨_,k.2.2,k.1,k.2.1,rfl⟩|(refine⟨_,k,?_⟩;simp_all;done)|(refine⟨_,k.2,?_⟩;simp_all;done)|(refine⟨_,k.2.2,?_⟩;simp_all;done)
theorem GC {K:AV→Prop}(x:AV) (k:j3 x K):∃ v,K v∧j3 x fun r=>r=v:=by
 unfold j3 at *
 (repeat' split at k)<;>first|exact k.elim|exact⟨_,k,rfl⟩|exact⟨_,k.2,k.1,rfl⟩|exact⟨_,k.2.2,k.1,k.2.1,rfl⟩|(refine⟨_,k,?_⟩;simp_all;done)|(refine⟨_,k.2,?_⟩;simp_all;done)|(refine⟨_,k.2.2,?_⟩;simp_all;done)
theorem Px {K:AV→Prop}(x:AV) (k:CA x K):∃ v,K v∧CA x fun r=>r=v:=by
 unfold CA at *
 (repeat' split at k)<;>first|exact k.elim|exact⟨_,k,rfl⟩|exact⟨_,k.2,k.1,rfl⟩|exact⟨_,k.2.2,k.1,k.2.1,rfl⟩|(refine⟨_,k,?_⟩;simp_all;done)|(refine⟨_,k.2,?_⟩;simp_all;done)|(refine⟨_,k.2.2,?_⟩;simp_all;done)
theorem Bv {K:AV→Prop}(n:Nat) (x:AV) (k:em n x K):∃ v,K v∧em n x fun r=>r=v:=by
 unfold em at *
 (repeat' split at k)<;>first|exact k.elim|exact⟨_,k,rfl⟩|exact⟨_,k.2,k.1,rfl⟩|exact⟨_,k.2.2,k.1,k.2.1,rfl⟩|(refine⟨_,k,?_⟩;simp_all;done)|(refine⟨_,k.2,?_⟩;simp_all;done)|(refine⟨_,k.2.2,?_⟩;simp_all;done)
theorem Jc {K:AV→Prop}(n:Nat) (x:AV) (h:ab) (k:kR n x h K):∃ v,K v∧kR n x h fun r=>r=v:=by
 unfold kR at *
 (repeat' split at k)<;>first|exact k.elim|exact⟨_,k,rfl⟩|exact⟨_,k.2,k.1,rfl⟩|exact⟨_,k.2.2,k.1,k.2.1,rfl⟩|(refine⟨_,k,?_⟩;simp_all;done)|(refine⟨_,k.2,?_⟩;simp_all;done)|(refine⟨_,k.2.2,?_⟩;simp_all;done)
theorem Jm {K:AV→Prop}(x:AV) (h:ab) (k:kT x h K):∃ v,K v∧kT x h fun r=>r=v:=by
 unfold kT at *
 (repeat' split at k)<;>first|exact k.elim|exact⟨_,k,rfl⟩|exact⟨_,k.2,k.1,rfl⟩|exact⟨_,k.2.2,k.1,k.2.1,rfl⟩|(refine⟨_,k,?_⟩;simp_all;done)|(refine⟨_,k.2,?_⟩;simp_all;done)|(refine⟨_,k.2.2,?_⟩;simp_all;done)
theorem KP {K:AV→Prop}(o n:Nat) (x:AV) (k:nq o n x K):∃ v,K v∧nq o n x fun r=>r=v:=by
 unfold nq at *
 (repeat' split at k)<;>first|exact k.elim|exact⟨_,k,rfl⟩|exact⟨_,k.2,k.1,rfl⟩|exact⟨_,k.2.2,k.1,k.2.1,rfl⟩|(refine⟨_,k,?_⟩;simp_all;done)|(refine⟨_,k.2,?_⟩;simp_all;done)|(refine⟨_,k.2.2,?_⟩;simp_all;done)
theorem JW {K:AV→Prop}(o:Nat) (x:AV) (k:m6 o x K):∃ v,K v∧m6 o x fun r=>r=v:=by
 unfold m6 at *
 (repeat' split at k)<;>first|exact k.elim|exact⟨_,k,rfl⟩|exact⟨_,k.2,k.1,rfl⟩|exact⟨_,k.2.2,k.1,k.2.1,rfl⟩|(refine⟨_,k,?_⟩;simp_all;done)|(refine⟨_,k.2,?_⟩;simp_all;done)|(refine⟨_,k.2.2,?_⟩;simp_all;done)
theorem IC {K:AV→Prop}(x i:AV) (k:ja x i K):∃ v,K v∧ja x i fun r=>r=v:=by
 unfold ja at *
 (repeat' split at k)<;>first|exact k.elim|exact⟨_,k,rfl⟩|exact⟨_,k.2,k.1,rfl⟩|exact⟨_,k.2.2,k.1,k.2.1,rfl⟩|(refine⟨_,k,?_⟩;simp_all;done)|(refine⟨_,k.2,?_⟩;simp_all;done)|(refine⟨_,k.2.2,?_⟩;simp_all;done)
theorem BC {K:AV→Prop}(n:Nat) (x i:AV) (k:dA n x i K):∃ v,K v∧dA n x i fun r=>r=v:=by
 unfold dA at *
 (repeat' split at k)<;>first|exact k.elim|exact⟨_,k,rfl⟩|exact⟨_,k.2,k.1,rfl⟩|exact⟨_,k.2.2,k.1,k.2.1,rfl⟩|(refine⟨_,k,?_⟩;simp_all;done)|(refine⟨_,k.2,?_⟩;simp_all;done)|(refine⟨_,k.2.2,?_⟩;simp_all;done)
theorem y1 {K:AV→Prop}(m n:Nat) (x i:AV) (k:cP m n x i K):∃ v,K v∧cP m n x i fun r=>r=v:=by
 unfold cP at *
 (repeat' split at k)<;>first|exact k.elim|exact⟨_,k,rfl⟩|exact⟨_,k.2,k.1,rfl⟩|exact⟨_,k.2.2,k.1,k.2.1,rfl⟩|(refine⟨_,k,?_⟩;simp_all;done)|(refine⟨_,k.2,?_⟩;simp_all;done)|(refine⟨_,k.2.2,?_⟩;simp_all;done)
theorem H0 {K:AV→Prop}(x:AV) (a b:Option AV) (k:gF x a b K):∃ v,K v∧gF x a b fun r=>r=v:=by
 unfold gF at *
 (repeat' split at k)<;>first|exact k.elim|exact⟨_,k,rfl⟩|exact⟨_,k.2,k.1,rfl⟩|exact⟨_,k.2.2,k.1,k.2.1,rfl⟩|(refine⟨_,k,?_⟩;simp_all;done)|(refine⟨_,k.2,?_⟩;simp_all;done)|(refine⟨_,k.2.2,?_⟩;simp_all;done)
theorem GB {K:AV→Prop}(n:Nat) (x:AV) (a b:Option AV) (k:gx n x a b K):∃ v,K v∧gx n x a b fun r=>r=v:=by
 unfold gx at *
 (repeat' split at k)<;>first|exact k.elim|exact⟨_,k,rfl⟩|exact⟨_,k.2,k.1,rfl⟩|exact⟨_,k.2.2,k.1,k.2.1,rfl⟩|(refine⟨_,k,?_⟩;simp_all;done)|(refine⟨_,k.2,?_⟩;simp_all;done)|(refine⟨_,k.2.2,?_⟩;simp_all;done)
theorem Gr {K:AV→Prop}(x:AV) (k:jO x K):∃ v,K v∧jO x fun r=>r=v:=by
 unfold jO at *
 (repeat' split at k)<;>first|exact k.elim|exact⟨_,k,rfl⟩|exact⟨_,k.2,k.1,rfl⟩|exact⟨_,k.2.2,k.1,k.2.1,rfl⟩|(refine⟨_,k,?_⟩;simp_all;done)|(refine⟨_,k.2,?_⟩;simp_all;done)|(refine⟨_,k.2.2,?_⟩;simp_all;done)
theorem NY {K:AV→Prop}(x:AV) (k:uW x K):∃ v,K v∧uW x fun r=>r=v:=by
 unfold uW at *
 (repeat' split at k)<;>first|exact k.elim|exact⟨_,k,rfl⟩|exact⟨_,k.2,k.1,rfl⟩|exact⟨_,k.2.2,k.1,k.2.1,rfl⟩|(refine⟨_,k,?_⟩;simp_all;done)|(refine⟨_,k.2,?_⟩;simp_all;done)|(refine⟨_,k.2.2,?_⟩;simp_all;done)
theorem NA {K:AV→Prop}(x:AV) (k:uC x K):∃ v,K v∧uC x fun r=>r=v:=by
 unfold uC at *
 (repeat' split at k)<;>first|exact k.elim|exact⟨_,k,rfl⟩|exact⟨_,k.2,k.1,rfl⟩|exact⟨_,k.2.2,k.1,k.2.1,rfl⟩|(refine⟨_,k,?_⟩;simp_all;done)|(refine⟨_,k.2,?_⟩;simp_all;done)|(refine⟨_,k.2.2,?_⟩;simp_all;done)
theorem Nl {K:AV→Prop}(x:AV) (h:ab) (k:uD x h K):∃ v,K v∧uD x h fun r=>r=v:=by
 unfold uD at *
 (repeat' split at k)<;>first|exact k.elim|exact⟨_,k,rfl⟩|exact⟨_,k.2,k.1,rfl⟩|exact⟨_,k.2.2,k.1,k.2.1,rfl⟩|(refine⟨_,k,?_⟩;simp_all;done)|(refine⟨_,k.2,?_⟩;simp_all;done)|(refine⟨_,k.2.2,?_⟩;simp_all;done)
theorem Fe {K:AV→Prop}(i:Nat) (x:AV) (k:gg i x K):∃ v,K v∧gg i x fun r=>r=v:=by
 unfold gg at *
 (repeat' split at k)<;>first|exact k.elim|exact⟨_,k,rfl⟩|exact⟨_,k.2,k.1,rfl⟩|exact⟨_,k.2.2,k.1,k.2.1,rfl⟩|(refine⟨_,k,?_⟩;simp_all;done)|(refine⟨_,k.2,?_⟩;simp_all;done)|(refine⟨_,k.2.2,?_⟩;simp_all;done)
theorem Pj {K:AV→Prop}(x y:AV) (k:y9 x y K):∃ v,K v∧y9 x y fun r=>r=v:=by
 unfold y9 at *
 split at k
 ·exact⟨_,k,rfl⟩
 ·exact k.elim
theorem QO {K:AV→Prop}(x y:AV) (k:zn x y K):∃ v,K v∧zn x y fun r=>r=v:=by
 unfold zn at *
 split at k
 ·exact⟨_,k,rfl⟩
 ·exact k.elim
theorem KG {K:AV→Prop}(z:List AV) (ps:List (Nat×Nat×AV)) (k:ma z ps K):∃ v,K v∧ma z ps fun r=>r=v:=by
 unfold ma at *
 (repeat' split at k)<;>first|exact k.elim|exact⟨_,k,rfl⟩|exact⟨_,k.2,k.1,rfl⟩|exact⟨_,k.2.2,k.1,k.2.1,rfl⟩|(refine⟨_,k,?_⟩;simp_all;done)|(refine⟨_,k.2,?_⟩;simp_all;done)|(refine⟨_,k.2.2,?_⟩;simp_all;done)
theorem JO {K:AV→Prop}(t:TypeId) (x:AV) (k:xe t x K):∃ v,K v∧xe t x fun r=>r=v:=⟨_,k,rfl⟩
theorem zp {K:AV→Prop}(n m:Nat) (vs:List AV) (k:fP n m vs K):∃ v,K v∧fP n m vs fun r=>r=v:=⟨_,k.2,k.1,rfl⟩
theorem OJ {K:AV→Prop}(op:BinOp) (x y:AV) (k:ag op x y K):∃ v,K v∧ag op x y fun r=>r=v:=let ⟨v,h1,h2⟩:=OE op x y k.out;⟨v,h1,⟨h2⟩⟩
theorem NZ {K:AV→Prop}(op:BinOp) (x y:AV) (k:Dr op x y K):∃ v,K v∧Dr op x y fun r=>r=v:=let ⟨v,h1,h2⟩:=NN op x y k.out;⟨v,h1,⟨h2⟩⟩
theorem Mw {K:AV→Prop}(op:BinOp) (x y:AV) (k:Dn op x y K):∃ v,K v∧Dn op x y fun r=>r=v:=let ⟨v,h1,h2⟩:=Oj op x y k.out;⟨v,h1,⟨h2⟩⟩
theorem Sl {K:AV→Prop}(op:UnOp) (x:AV) (k:qUn op x K):∃ v,K v∧qUn op x fun r=>r=v:=let ⟨v,h1,h2⟩:=Sb op x k.out;⟨v,h1,⟨h2⟩⟩
theorem HJ {K:AV→Prop}(d:IntKind) (x:AV) (k:ct d x K):∃ v,K v∧ct d x fun r=>r=v:=let ⟨v,h1,h2⟩:=Iq d x k.out;⟨v,h1,⟨h2⟩⟩
theorem Hx {K:AV→Prop}(d:FloatKind) (x:AV) (k:oA d x K):∃ v,K v∧oA d x fun r=>r=v:=let ⟨v,h1,h2⟩:=IV d x k.out;⟨v,h1,⟨h2⟩⟩
theorem GO {K:AV→Prop}(x:AV) (k:tV x K):∃ v,K v∧tV x fun r=>r=v:=let ⟨v,h1,h2⟩:=GC x k.out;⟨v,h1,⟨h2⟩⟩
theorem PE {K:AV→Prop}(x:AV) (k:aE x K):∃ v,K v∧aE x fun r=>r=v:=let ⟨v,h1,h2⟩:=Px x k.out;⟨v,h1,⟨h2⟩⟩
theorem BX {K:AV→Prop}(n:Nat) (x:AV) (k:ae n x K):∃ v,K v∧ae n x fun r=>r=v:=let ⟨v,h1,h2⟩:=Bv n x k.out;⟨v,h1,⟨h2⟩⟩
theorem BG {K:AV→Prop}(n:Nat) (x:AV) (h:ab) (k:ay n x h K):∃ v,K v∧ay n x h fun r=>r=v:=let ⟨v,h1,h2⟩:=Jc n x h k.out;⟨v,h1,⟨h2⟩⟩
theorem B3 {K:AV→Prop}(x:AV) (h:ab) (k:ah x h K):∃ v,K v∧ah x h fun r=>r=v:=let ⟨v,h1,h2⟩:=Jm x h k.out;⟨v,h1,⟨h2⟩⟩
theorem KR {K:AV→Prop}(o n:Nat) (x:AV) (k:xJ o n x K):∃ v,K v∧xJ o n x fun r=>r=v:=let ⟨v,h1,h2⟩:=KP o n x k.out;⟨v,h1,⟨h2⟩⟩
theorem Kc {K:AV→Prop}(o:Nat) (x:AV) (k:xi o x K):∃ v,K v∧xi o x fun r=>r=v:=let ⟨v,h1,h2⟩:=JW o x k.out;⟨v,h1,⟨h2⟩⟩
theorem IY {K:AV→Prop}(x i:AV) (k:bM x i K):∃ v,K v∧bM x i fun r=>r=v:=let ⟨v,h1,h2⟩:=IC x i k.out;⟨v,h1,⟨h2⟩⟩
theorem sR {K:AV→Prop}(n:Nat) (x i:AV) (k:am n x i K):∃ v,K v∧am n x i fun r=>r=v:=let ⟨v,h1,h2⟩:=BC n x i k.out;⟨v,h1,⟨h2⟩⟩
theorem rm {K:AV→Prop}(m n:Nat) (x i:AV) (k:dK m n x i K):∃ v,K v∧dK m n x i fun r=>r=v:=let ⟨v,h1,h2⟩:=y1 m n x i k.out;⟨v,h1,⟨h2⟩⟩
theorem Ih {K:AV→Prop}(x:AV) (a b:Option AV) (k:bk x a b K):∃ v,K v∧bk x a b fun r=>r=v:=let ⟨v,h1,h2⟩:=H0 x a b k.out;⟨v,h1,⟨h2⟩⟩
theorem GY {K:AV→Prop}(n:Nat) (x:AV) (a b:Option AV) (k:ln n x a b K):∃ v,K v∧ln n x a b fun r=>r=v:=let ⟨v,h1,h2⟩:=GB n x a b k.out;⟨v,h1,⟨h2⟩⟩
theorem GD {K:AV→Prop}(x:AV) (k:wl x K):∃ v,K v∧wl x fun r=>r=v:=let ⟨v,h1,h2⟩:=Gr x k.out;⟨v,h1,⟨h2⟩⟩
theorem Nv {K:AV→Prop}(x:AV) (k:ce x K):∃ v,K v∧ce x fun r=>r=v:=let ⟨v,h1,h2⟩:=NY x k.out;⟨v,h1,⟨h2⟩⟩
theorem Mu {K:AV→Prop}(x:AV) (k:bd x K):∃ v,K v∧bd x fun r=>r=v:=let ⟨v,h1,h2⟩:=NA x k.out;⟨v,h1,⟨h2⟩⟩
theorem NS {K:AV→Prop}(x:AV) (h:ab) (k:DF x h K):∃ v,K v∧DF x h fun r=>r=v:=let ⟨v,h1,h2⟩:=Nl x h k.out;⟨v,h1,⟨h2⟩⟩
theorem Ep {K:AV→Prop}(i:Nat) (x:AV) (k:aj i x K):∃ v,K v∧aj i x fun r=>r=v:=let ⟨v,h1,h2⟩:=Fe i x k.out;⟨v,h1,⟨h2⟩⟩
theorem Qk {K:AV→Prop}(x y:AV) (k:xA x y K):∃ v,K v∧xA x y fun r=>r=v:=let ⟨v,h1,h2⟩:=Pj x y k.out;⟨v,h1,⟨h2⟩⟩
theorem Oy {K:AV→Prop}(x y:AV) (k:BZ x y K):∃ v,K v∧BZ x y fun r=>r=v:=let ⟨v,h1,h2⟩:=QO x y k.out;⟨v,h1,⟨h2⟩⟩
theorem J1 {K:AV→Prop}(z:List AV) (ps:List (Nat×Nat×AV)) (k:aq z ps K):∃ v,K v∧aq z ps fun r=>r=v:=let ⟨v,h1,h2⟩:=KG z ps k.out;⟨v,h1,⟨h2⟩⟩
theorem Jw {K:AV→Prop}(t:TypeId) (x:AV) (k:td t x K):∃ v,K v∧td t x fun r=>r=v:=let ⟨v,h1,h2⟩:=JO t x k.out;⟨v,h1,⟨h2⟩⟩
theorem zr {K:AV→Prop}(n m:Nat) (vs:List AV) (k:ao n m vs K):∃ v,K v∧ao n m vs fun r=>r=v:=let ⟨v,h1,h2⟩:=zp n m vs k.out;⟨v,h1,⟨h2⟩⟩
