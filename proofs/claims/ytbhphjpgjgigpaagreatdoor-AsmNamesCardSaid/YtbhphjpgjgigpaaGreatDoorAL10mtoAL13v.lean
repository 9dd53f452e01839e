import Derived.Test.YtbhphjpgjgigpaaGreatDoorAL9toAL10
import Derived.Laws.Externs
import Derived.Lib.Bytealg
set_option linter.all false
set_option autoImplicit true
set_option relaxedAutoImplicit true
set_option maxRecDepth 100000
namespace Go.Proofs.YtbhphjpgjgigpaaGreatDoor.AL
section
variable [Tabs]
section
variable {P:Program}
theorem Nz {K K':AV→Prop}(hk:∀ v,K v→K' v) (op:BinOp) (x y:AV) (k:y8 op x y K):y8 op x y K':=by
 unfold y8 at *
 (repeat' split at k)<;>first|exact k.elim|simp_all
theorem J2 {K K':AV→Prop}(hk:∀ v,K v→K' v) (op:BinOp) (x y:AV) (k:tc op x y K):tc op x y K':=by
 unfold tc at *
 (repeat' split at k)<;>first|exact k.elim|simp_all
theorem K9 {K K':AV→Prop}(hk:∀ v,K v→K' v) (op:BinOp) (x y:AV) (k:sN op x y K):sN op x y K':=by
 unfold sN at *
 (repeat' split at k)<;>first|exact k.elim|simp_all
theorem RE {K K':AV→Prop}(hk:∀ v,K v→K' v) (op:UnOp) (x:AV) (k:pUn op x K):pUn op x K':=by
 unfold pUn at *
 (repeat' split at k)<;>first|exact k.elim|simp_all
theorem FI {K K':AV→Prop}(hk:∀ v,K v→K' v) (d:IntKind) (x:AV) (k:jU d x K):jU d x K':=by
 unfold jU at *
 (repeat' split at k)<;>first|exact k.elim|simp_all
theorem EZ {K K':AV→Prop}(hk:∀ v,K v→K' v) (d:FloatKind) (x:AV) (k:j2 d x K):j2 d x K':=by
 unfold j2 at *
 (repeat' split at k)<;>first|exact k.elim|simp_all
theorem FP {K K':AV→Prop}(hk:∀ v,K v→K' v) (x:AV) (k:kA x K):kA x K':=by
 unfold kA at *
 (repeat' split at k)<;>first|exact k.elim|simp_all
theorem OC {K K':AV→Prop}(hk:∀ v,K v→K' v) (x:AV) (k:C7 x K):C7 x K':=by
 unfold C7 at *
 (repeat' split at k)<;>first|exact k.elim|simp_all
theorem zv {K K':AV→Prop}(hk:∀ v,K v→K' v) (n:Nat) (x:AV) (k:eu n x K):eu n x K':=by
 unfold eu at *
 (repeat' split at k)<;>first|exact k.elim|simp_all
theorem Hf {K K':AV→Prop}(hk:∀ v,K v→K' v) (n:Nat) (x:AV) (h:ab) (k:kS n x h K):kS n x h K':=by
 unfold kS at *
 (repeat' split at k)<;>first|exact k.elim|simp_all
theorem Hv {K K':AV→Prop}(hk:∀ v,K v→K' v) (x:AV) (h:ab) (k:kP x h K):kP x h K':=by
 unfold kP at *
 (repeat' split at k)<;>first|exact k.elim|simp_all
theorem Jp {K K':AV→Prop}(hk:∀ v,K v→K' v) (o n:Nat) (x:AV) (k:nq o n x K):nq o n x K':=by
 unfold nq at *
 (repeat' split at k)<;>first|exact k.elim|simp_all
theorem HA {K K':AV→Prop}(hk:∀ v,K v→K' v) (o:Nat) (x:AV) (k:m9 o x K):m9 o x K':=by
 unfold m9 at *
 (repeat' split at k)<;>first|exact k.elim|simp_all
theorem GA {K K':AV→Prop}(hk:∀ v,K v→K' v) (x i:AV) (k:jg x i K):jg x i K':=by
 unfold jg at *
 (repeat' split at k)<;>first|exact k.elim|simp_all
theorem zr {K K':AV→Prop}(hk:∀ v,K v→K' v) (n:Nat) (x i:AV) (k:dB n x i K):dB n x i K':=by
 unfold dB at *
 (repeat' split at k)<;>first|exact k.elim|simp_all
theorem xy {K K':AV→Prop}(hk:∀ v,K v→K' v) (m n:Nat) (x i:AV) (k:cT m n x i K):cT m n x i K':=by
 unfold cT at *
 (repeat' split at k)<;>first|exact k.elim|simp_all
theorem Gn {K K':AV→Prop}(hk:∀ v,K v→K' v) (x:AV) (a b:Option AV) (k:gN x a b K):gN x a b K':=by
 unfold gN at *
 (repeat' split at k)<;>first|exact k.elim|simp_all
theorem EM {K K':AV→Prop}(hk:∀ v,K v→K' v) (n:Nat) (x:AV) (a b:Option AV) (k:gK n x a b K):gK n x a b K':=by
 unfold gK at *
 (repeat' split at k)<;>first|exact k.elim|simp_all
theorem Gc {K K':AV→Prop}(hk:∀ v,K v→K' v) (x:AV) (k:jW x K):jW x K':=by
 unfold jW at *
 (repeat' split at k)<;>first|exact k.elim|simp_all
theorem KG {K K':AV→Prop}(hk:∀ v,K v→K' v) (x:AV) (k:vb x K):vb x K':=by
 unfold vb at *
 (repeat' split at k)<;>first|exact k.elim|simp_all
theorem JH {K K':AV→Prop}(hk:∀ v,K v→K' v) (x:AV) (k:uJ x K):uJ x K':=by
 unfold uJ at *
 (repeat' split at k)<;>first|exact k.elim|simp_all
theorem KJ {K K':AV→Prop}(hk:∀ v,K v→K' v) (x:AV) (h:ab) (k:uH x h K):uH x h K':=by
 unfold uH at *
 (repeat' split at k)<;>first|exact k.elim|simp_all
theorem C3 {K K':AV→Prop}(hk:∀ v,K v→K' v) (i:Nat) (x:AV) (k:gw i x K):gw i x K':=by
 unfold gw at *
 (repeat' split at k)<;>first|exact k.elim|simp_all
theorem OH {K K':AV→Prop}(hk:∀ v,K v→K' v) (x y:AV) (k:y5 x y K):y5 x y K':=by
 unfold y5 at *
 split at k
 ·exact hk _ k
 ·exact k.elim
theorem OE {K K':AV→Prop}(hk:∀ v,K v→K' v) (x y:AV) (k:zu x y K):zu x y K':=by
 unfold zu at *
 split at k
 ·exact hk _ k
 ·exact k.elim
theorem Jq {K K':AV→Prop}(hk:∀ v,K v→K' v) (z:List AV) (ps:List (Nat×Nat×AV)) (k:mj z ps K):mj z ps K':=by
 unfold mj at *
 (repeat' split at k)<;>first|exact k.elim|simp_all
theorem pL {K K':AV→Prop}(hk:∀ v,K v→K' v) (op:BinOp) (x y:AV) (k:ah op x y K):ah op x y K':=⟨Nz hk op x y k.out⟩
theorem vE {K K':AV→Prop}(hk:∀ v,K v→K' v) (op:BinOp) (x y:AV) (k:DB op x y K):DB op x y K':=⟨J2 hk op x y k.out⟩
theorem vd {K K':AV→Prop}(hk:∀ v,K v→K' v) (op:BinOp) (x y:AV) (k:Eh op x y K):Eh op x y K':=⟨K9 hk op x y k.out⟩
theorem Bj {K K':AV→Prop}(hk:∀ v,K v→K' v) (op:UnOp) (x:AV) (k:qUn op x K):qUn op x K':=⟨RE hk op x k.out⟩
theorem ra {K K':AV→Prop}(hk:∀ v,K v→K' v) (d:IntKind) (x:AV) (k:cz d x K):cz d x K':=⟨FI hk d x k.out⟩
theorem qX {K K':AV→Prop}(hk:∀ v,K v→K' v) (d:FloatKind) (x:AV) (k:oo d x K):oo d x K':=⟨EZ hk d x k.out⟩
theorem qh {K K':AV→Prop}(hk:∀ v,K v→K' v) (x:AV) (k:t0 x K):t0 x K':=⟨FP hk x k.out⟩
theorem xj {K K':AV→Prop}(hk:∀ v,K v→K' v) (x:AV) (k:aJ x K):aJ x K':=⟨OC hk x k.out⟩
theorem me {K K':AV→Prop}(hk:∀ v,K v→K' v) (n:Nat) (x:AV) (k:ae n x K):ae n x K':=⟨zv hk n x k.out⟩
theorem fU {K K':AV→Prop}(hk:∀ v,K v→K' v) (n:Nat) (x:AV) (h:ab) (k:aD n x h K):aD n x h K':=⟨Hf hk n x h k.out⟩
theorem fR {K K':AV→Prop}(hk:∀ v,K v→K' v) (x:AV) (h:ab) (k:ai x h K):ai x h K':=⟨Hv hk x h k.out⟩
theorem rY {K K':AV→Prop}(hk:∀ v,K v→K' v) (o n:Nat) (x:AV) (k:xB o n x K):xB o n x K':=⟨Jp hk o n x k.out⟩
theorem tU {K K':AV→Prop}(hk:∀ v,K v→K' v) (o:Nat) (x:AV) (k:xZ o x K):xZ o x K':=⟨HA hk o x k.out⟩
theorem qA {K K':AV→Prop}(hk:∀ v,K v→K' v) (x i:AV) (k:aV x i K):aV x i K':=⟨GA hk x i k.out⟩
theorem gq {K K':AV→Prop}(hk:∀ v,K v→K' v) (n:Nat) (x i:AV) (k:ao n x i K):ao n x i K':=⟨zr hk n x i k.out⟩
theorem en {K K':AV→Prop}(hk:∀ v,K v→K' v) (m n:Nat) (x i:AV) (k:dN m n x i K):dN m n x i K':=⟨xy hk m n x i k.out⟩
theorem qN {K K':AV→Prop}(hk:∀ v,K v→K' v) (x:AV) (a b:Option AV) (k:aM x a b K):aM x a b K':=⟨Gn hk x a b k.out⟩
theorem q9 {K K':AV→Prop}(hk:∀ v,K v→K' v) (n:Nat) (x:AV) (a b:Option AV) (k:lC n x a b K):lC n x a b K':=⟨EM hk n x a b k.out⟩
theorem ql {K K':AV→Prop}(hk:∀ v,K v→K' v) (x:AV) (k:wG x K):wG x K':=⟨Gc hk x k.out⟩
theorem vo {K K':AV→Prop}(hk:∀ v,K v→K' v) (x:AV) (k:bZ x K):bZ x K':=⟨KG hk x k.out⟩
theorem vK {K K':AV→Prop}(hk:∀ v,K v→K' v) (x:AV) (k:bh x K):bh x K':=⟨JH hk x k.out⟩
theorem vA {K K':AV→Prop}(hk:∀ v,K v→K' v) (x:AV) (h:ab) (k:D5 x h K):D5 x h K':=⟨KJ hk x h k.out⟩
theorem oL {K K':AV→Prop}(hk:∀ v,K v→K' v) (i:Nat) (x:AV) (k:am i x K):am i x K':=⟨C3 hk i x k.out⟩
theorem xO {K K':AV→Prop}(hk:∀ v,K v→K' v) (x y:AV) (k:x3 x y K):x3 x y K':=⟨OH hk x y k.out⟩
theorem yi {K K':AV→Prop}(hk:∀ v,K v→K' v) (x y:AV) (k:BE x y K):BE x y K':=⟨OE hk x y k.out⟩
theorem sO {K K':AV→Prop}(hk:∀ v,K v→K' v) (z:List AV) (ps:List (Nat×Nat×AV)) (k:au z ps K):au z ps K':=⟨Jq hk z ps k.out⟩
theorem xe {K K':AV→Prop}(hk:∀ v,K v→K' v) (n m:Nat) (vs:List AV) (k:fQ n m vs K):fQ n m vs K':=⟨k.1,hk _ k.2⟩
theorem HI {K K':ab→Prop}(hk:∀ v,K v→K' v) (n:Nat) (x y:AV) (h:ab) (k:qU n x y h K):qU n x y h K':=by
 unfold qU at *
 (repeat' split at k)<;>first|exact k.elim|exact⟨k.1,hk _ k.2⟩
theorem Gw {K K':QT}(hk:∀ v h,K v h→K' v h) (n m:Nat) (x y:AV) (h:ab) (k:jT n m x y h K):jT n m x y h K':=by
 unfold jT at *
 split at k
 ·exact k.elim
 ·split at k
  ·refine⟨k.1,?_⟩
   have k2:=k.2
   split at k2
   ·rename_i h0;rw[if_pos h0];exact hk _ _ k2
   ·rename_i h0;rw[if_neg h0];exact hk _ _ k2
  ·split at k
   ·exact⟨k.1,hk _ _ k.2⟩
   ·exact k.elim
  ·exact k.elim
theorem Ha {K K':QT}(hk:∀ v h,K v h→K' v h) (x:AV) (vs:List AV) (h:ab) (k:qP P x vs h K):qP P x vs h K':=by
 unfold qP at *
 split at k
 ·exact k.mono hk
 ·exact k.elim
theorem bj {K K':AV→Prop}(hk:∀ v,K v→K' v) (o:Option AV) (k:bO o K):bO o K':=by
 unfold bO at *;split at k
 ·exact hk _ k
 ·exact k.elim
theorem eC {K K':List AV→Prop}(hk:∀ v,K v→K' v) (o:Option (List AV)) (k:dH o K):dH o K':=by
 unfold dH at *;split at k
 ·exact hk _ k
 ·exact k.elim
theorem vR {K K':Option AV→Prop}(hk:∀ v,K v→K' v) (o:Option (Option AV)) (k:wL o K):wL o K':=by
 unfold wL at *;split at k
 ·exact hk _ k
 ·exact k.elim
theorem dl {K K':AV→AV→Prop}(hk:∀ v u,K v u→K' v u) (a b:Option AV) (k:d5 a b K):d5 a b K':=bj (fun _ k=>bj (fun _ k=>hk _ _ k) _ k) _ k
theorem wj {v:AV}{X Y X' Y':Prop}(hx:X→X') (hy:Y→Y') (k:ifB v X Y):ifB v X' Y':=by
 unfold ifB at *;split at k
 ·exact hx k
 ·exact hy k
 ·exact k.elim
theorem sQ {K K':AV→Prop}(hk:∀ v,K v→K' v) (t:TypeId) (x:AV) (k:tJ t x K):tJ t x K':=⟨hk _ k.out⟩
theorem lh {K K':AV→Prop}(hk:∀ v,K v→K' v) (n m:Nat) (vs:List AV) (k:ap n m vs K):ap n m vs K':=⟨xe hk _ _ _ k.out⟩
theorem IE {K K':ab→Prop}(hk:∀ v,K v→K' v) (n:Nat) (x y:AV) (h:ab) (k:aw n x y h K):aw n x y h K':=⟨HI hk _ _ _ _ k.out⟩
theorem Fv {K K':QT}(hk:∀ v h,K v h→K' v h) (n m:Nat) (x y:AV) (h:ab) (k:bL n m x y h K):bL n m x y h K':=⟨Gw hk _ _ _ _ _ k.out⟩
theorem Nq {env:Env}{h:ab}{o:Oper}{K K':QT}(hk:∀ v h,K v h→K' v h) (k:tH P env h o K):tH P env h o K':=by
 obtain⟨dst,op,ty,pos,after,guard⟩:=o
 have hk':∀ v,K v h→K' v h:=fun v=>hk v h
 cases op<;>simp only[tH]at k ⊢
 case move=>exact bj hk' _ k
 case assign=>exact bj hk' _ k
 case pick=>exact bj (fun _ k=>dl (fun _ _ k=>wj (hk' _) (hk' _) k) _ _ k) _ k
 case alloc=>unfold SU at *;(repeat' split at k)<;>first|exact k.elim|(rw[if_pos ‹_›];exact⟨hk _ _ k.out⟩)
 case box=>exact bj (fun _ k=>⟨⟨k.out.1,hk _ _ k.out.2⟩⟩) _ k
 case build=>refine eC (fun _ k=>?_) _ k;unfold tA at *;(repeat' split at k)<;>first|exact k.elim|(rw[if_pos ‹_›];exact sO hk' _ _ k)
 case buildSlice=>refine eC (fun _ k=>?_) _ k;unfold fT at *;(repeat' split at k)<;>first|exact k.elim|(rw[if_pos ‹_›];exact lh hk' _ _ _ k)
 case load=>refine bj (fun _ k=>?_) _ k;unfold iZ at *;(repeat' split at k)<;>first|exact k.elim|(rw[if_pos ‹_›];exact fU hk' _ _ _ k)|(rw[if_neg ‹_›];exact fR hk' _ _ k)
 case store=>refine dl (fun _ _ k=>?_) _ _ k;unfold Gy at *;(repeat' split at k)<;>first|exact k.elim|exact IE (fun _ k=>hk _ _ k) _ _ _ _ k
 case nilCheck=>exact bj (fun _ k=>xj hk' _ k) _ k
 case binOp=>refine dl (fun _ _ k=>?_) _ _ k;unfold Hc at *;(repeat' split at k)<;>first|exact k.elim|exact pL hk' _ _ _ k|exact vE hk' _ _ _ k|exact vd hk' _ _ _ k
 case unOp=>exact bj (fun _ k=>Bj hk' _ _ k) _ k
 case convert=>refine bj (fun _ k=>?_) _ k;unfold yB at *;(repeat' split at k)<;>first|exact k.elim|exact ra hk' _ _ k|exact qX hk' _ _ k|exact qh hk' _ k
 case makeInterface=>refine bj (fun _ k=>?_) _ k;unfold xK at *;(repeat' split at k)<;>first|exact k.elim|exact sQ hk' _ _ k
 case makeFunc=>exact eC (fun _ k=>eC (fun _ k=>hk _ _ k) _ k) _ k
 case slice=>refine bj (fun _ k=>vR (fun _ k=>vR (fun _ k=>vR (fun _ k=>?_) _ k) _ k) _ k) _ k;unfold lf at *;(repeat' split at k)<;>first|exact k.elim|exact qN hk' _ _ _ k|exact q9 hk' _ _ _ _ k|exact ql hk' _ k
 case fieldAddr=>refine bj (fun _ k=>?_) _ k;unfold kW at *;(repeat' split at k)<;>first|exact k.elim|(rw[if_neg ‹_›];exact me hk' _ _ k)
 case field=>refine bj (fun _ k=>?_) _ k;unfold to yO at *;(repeat' split at k)<;>first|exact k.elim|(rw[if_pos ‹_›];exact rY hk' _ _ _ k)|(rw[if_neg ‹_›];exact tU hk' _ _ k)
 case indexAddr=>refine dl (fun _ _ k=>?_) _ _ k;unfold d6 at *;(repeat' split at k)<;>first|exact k.elim|exact gq hk' _ _ _ k|exact en hk' _ _ _ _ k
 case index=>refine dl (fun _ _ k=>?_) _ _ k;unfold xf at *;(repeat' split at k)<;>first|exact k.elim|exact qA hk' _ _ k
 case extract=>exact bj (fun _ k=>oL hk' _ _ k) _ k
 case call c=>
  refine eC (fun _ k=>?_) _ k
  split at k
  ·exact bj (fun _ k=>Ha hk _ _ _ k) _ k
  ·split at k
   ·unfold x4 at *
    (repeat' split at k)<;>first|exact k.elim|exact vo hk' _ k|exact vK hk' _ k|exact vA hk' _ _ k
   ·exact k.elim
  ·split at k
   ·unfold wM at *
    (repeat' split at k)<;>first|exact k.elim|(rw[if_pos ‹_›];exact Fv hk _ _ _ _ _ k)
   ·exact k.elim
  ·split at k
   ·exact xO hk' _ _ k
   ·exact k.elim
  ·split at k
   ·exact yi hk' _ _ k
   ·exact k.elim
  ·exact k.elim
end
end
section
variable [Tabs]
structure hY (d:TypeDesc) (ok:Bool) (z x key:AV) (h:ab) (K:AV→Prop):Prop where
 mk::(out:ie d ok z x key h K)
structure hZ (x:AV) (h:ab) (K:AV→Prop):Prop where
 mk::(out:eO x h K)
structure z7 (op:BinOp) (x:AV) (K:AV→Prop):Prop where
 mk::(out:j5 op x K)
structure zQ (op:BinOp) (x:AV) (K:AV→Prop):Prop where
 mk::(out:kp op x K)
structure zT (op:BinOp) (x:AV) (K:AV→Prop):Prop where
 mk::(out:kB op x K)
structure j7 (op:BinOp) (x:AV) (K:AV→Prop):Prop where
 mk::(out:lA op x K)
structure vn (x:AV) (h:ab) (K:AV→Prop):Prop where
 mk::(out:mh x h K)
structure R8 (op:BinOp) (ds:List TypeDesc) (x y:AV) (K:AV→Prop):Prop where
 mk::(out:Bv op ds x y K)
structure d3 (d:TypeDesc) (x key v:AV) (h:ab) (K:ab→Prop):Prop where
 mk::(out:ga d x key v h K)
structure m1 (d:TypeDesc) (z x key:AV) (h:ab) (K:QT):Prop where
 mk::(out:ik d z x key h K)
structure jD (x st v:AV) (h:ab) (K:ab→Prop):Prop where
 mk::(out:fb x st v h K)
structure v8 (d:TypeDesc) (x key:AV) (h:ab) (K:ab→Prop):Prop where
 mk::(out:of d x key h K)
structure np (h:ab) (K:QT):Prop where
 mk::(out:px h K)
structure qI (x:AV) (h:ab) (K:QT):Prop where
 mk::(out:nZ x h K)
structure vU (x:AV) (h:ab) (K:QT):Prop where
 mk::(out:qK x h K)
structure qT (x:AV) (h:ab) (K:QT):Prop where
 mk::(out:mQ x h K)
structure vm (x:AV) (h:ab) (K:QT):Prop where
 mk::(out:q8 x h K)
structure m3 (x:AV) (h:ab) (K:QT):Prop where
 mk::(out:io x h K)
structure jq (b:Nat) (z l c:AV) (h:ab) (K:QT):Prop where
 mk::(out:fY b z l c h K)
theorem jM {K K':AV→Prop}(hk:∀ v,K v→K' v) (op:BinOp) (b:Bool) (k:o6 op b K):o6 op b K':=by
 unfold o6 at *
 split at k<;>first|exact k.elim|exact hk _ k
theorem ES {K K':AV→Prop}(hk:∀ v,K v→K' v) (d:TypeDesc) (ok:Bool) (z x key:AV) (h:ab) (k:ie d ok z x key h K):ie d ok z x key h K':=by
 unfold ie at *
 (repeat' split at k)<;>first|exact k.elim|(simp_all;done)|(simp_all only [];exact hk _ k)
theorem qj {K K':AV→Prop}(hk:∀ v,K v→K' v) (d:TypeDesc) (ok:Bool) (z x key:AV) (h:ab) (k:hY d ok z x key h K):hY d ok z x key h K':=⟨ES hk d ok z x key h k.out⟩
theorem BK {K K':AV→Prop}(hk:∀ v,K v→K' v) (x:AV) (h:ab) (k:eO x h K):eO x h K':=by
 unfold eO at *
 (repeat' split at k)<;>first|exact k.elim|(simp_all;done)|(simp_all only [];exact hk _ k)
theorem nn {K K':AV→Prop}(hk:∀ v,K v→K' v) (x:AV) (h:ab) (k:hZ x h K):hZ x h K':=⟨BK hk x h k.out⟩
theorem EE {K K':AV→Prop}(hk:∀ v,K v→K' v) (op:BinOp) (x:AV) (k:j5 op x K):j5 op x K':=by
 unfold j5 at *
 (repeat' split at k)<;>first|exact k.elim|(simp_all;done)|(simp_all only [];exact hk _ k)
theorem qm {K K':AV→Prop}(hk:∀ v,K v→K' v) (op:BinOp) (x:AV) (k:z7 op x K):z7 op x K':=⟨EE hk op x k.out⟩
theorem Gq {K K':AV→Prop}(hk:∀ v,K v→K' v) (op:BinOp) (x:AV) (k:kp op x K):kp op x K':=by
 unfold kp at *
 (repeat' split at k)<;>first|exact k.elim|(simp_all;done)|(simp_all only [];exact hk _ k)
theorem qQ {K K':AV→Prop}(hk:∀ v,K v→K' v) (op:BinOp) (x:AV) (k:zQ op x K):zQ op x K':=⟨Gq hk op x k.out⟩
theorem Gg {K K':AV→Prop}(hk:∀ v,K v→K' v) (op:BinOp) (x:AV) (k:kB op x K):kB op x K':=by
 unfold kB at *
 (repeat' split at k)<;>first|exact k.elim|(simp_all;done)|(simp_all only [];exact hk _ k)
theorem qq {K K':AV→Prop}(hk:∀ v,K v→K' v) (op:BinOp) (x:AV) (k:zT op x K):zT op x K':=⟨Gg hk op x k.out⟩
theorem Fw {K K':AV→Prop}(hk:∀ v,K v→K' v) (op:BinOp) (x:AV) (k:lA op x K):lA op x K':=by
 unfold lA at *
 split at k
 ·exact jM hk _ _ k
 ·split at k
  ·rename_i h0;rw[if_pos h0];exact⟨jM hk _ _ k.1,jM hk _ _ k.2⟩
  ·rename_i h0;rw[if_neg h0];exact jM hk _ _ k
 ·split at k
  ·rename_i h0;rw[if_pos h0];exact⟨jM hk _ _ k.1,jM hk _ _ k.2⟩
  ·rename_i h0;rw[if_neg h0];exact jM hk _ _ k
 ·exact k.elim
theorem w9 {K K':AV→Prop}(hk:∀ v,K v→K' v) (op:BinOp) (x:AV) (k:j7 op x K):j7 op x K':=⟨Fw hk op x k.out⟩
theorem HV {K K':AV→Prop}(hk:∀ v,K v→K' v) (x:AV) (h:ab) (k:mh x h K):mh x h K':=by
 unfold mh at *
 (repeat' split at k)<;>first|exact k.elim|(simp_all;done)|(simp_all only [];exact hk _ k)
theorem rR {K K':AV→Prop}(hk:∀ v,K v→K' v) (x:AV) (h:ab) (k:vn x h K):vn x h K':=⟨HV hk x h k.out⟩
theorem NG {K K':AV→Prop}(hk:∀ v,K v→K' v) (op:BinOp) (ds:List TypeDesc) (x y:AV) (k:Bv op ds x y K):Bv op ds x y K':=by
 unfold Bv at *
 split at k
 ·split at k
  ·exact jM hk _ _ k
  ·exact k.elim
 ·exact k.elim
theorem xP {K K':AV→Prop}(hk:∀ v,K v→K' v) (op:BinOp) (ds:List TypeDesc) (x y:AV) (k:R8 op ds x y K):R8 op ds x y K':=⟨NG hk op ds x y k.out⟩
theorem zA {K K':ab→Prop}(hk:∀ v,K v→K' v) (d:TypeDesc) (x key v:AV) (h:ab) (k:ga d x key v h K):ga d x key v h K':=by
 unfold ga at *
 (repeat' split at k)<;>first|exact k.elim|exact hk _ k|(rw[if_pos ‹_›];exact hk _ k)|(rw[if_neg ‹_›];exact hk _ k)|(simp_all;done)|(simp only[*,if_true];done)|(simp only[*,if_true];exact hk _ k)
theorem rv {K K':ab→Prop}(hk:∀ v,K v→K' v) (d:TypeDesc) (x key v:AV) (h:ab) (k:d3 d x key v h K):d3 d x key v h K':=⟨zA hk d x key v h k.out⟩
theorem Am {K K':QT}(hk:∀ v h,K v h→K' v h) (d:TypeDesc) (z x key:AV) (h:ab) (k:ik d z x key h K):ik d z x key h K':=by
 unfold ik at *
 (repeat' split at k)<;>first|exact k.elim|exact hk _ _ k|(rw[if_pos ‹_›];exact hk _ _ k)|(rw[if_neg ‹_›];exact hk _ _ k)|(simp_all;done)|(simp only[*,if_true];done)|(simp only[*,if_true];exact hk _ _ k)
theorem Ck {K K':QT}(hk:∀ v h,K v h→K' v h) (d:TypeDesc) (z x key:AV) (h:ab) (k:m1 d z x key h K):m1 d z x key h K':=⟨Am hk d z x key h k.out⟩
theorem xt {K K':ab→Prop}(hk:∀ v,K v→K' v) (x st v:AV) (h:ab) (k:fb x st v h K):fb x st v h K':=by
 unfold fb at *
 (repeat' split at k)<;>first|exact k.elim|exact hk _ k|(rw[if_pos ‹_›];exact hk _ k)|(rw[if_neg ‹_›];exact hk _ k)|(simp_all;done)|(simp only[*,if_true];done)|(simp only[*,if_true];exact hk _ k)
theorem xz {K K':ab→Prop}(hk:∀ v,K v→K' v) (x st v:AV) (h:ab) (k:jD x st v h K):jD x st v h K':=⟨xt hk x st v h k.out⟩
theorem Gm {K K':ab→Prop}(hk:∀ v,K v→K' v) (d:TypeDesc) (x key:AV) (h:ab) (k:of d x key h K):of d x key h K':=by
 unfold of at *
 (repeat' split at k)<;>first|exact k.elim|exact hk _ k|(rw[if_pos ‹_›];exact hk _ k)|(rw[if_neg ‹_›];exact hk _ k)|(simp_all;done)|(simp only[*,if_true];done)|(simp only[*,if_true];exact hk _ k)
theorem Gb {K K':ab→Prop}(hk:∀ v,K v→K' v) (d:TypeDesc) (x key:AV) (h:ab) (k:v8 d x key h K):v8 d x key h K':=⟨Gm hk d x key h k.out⟩
theorem CJ {K K':QT}(hk:∀ v h,K v h→K' v h) (h:ab) (k:px h K):px h K':=by
 exact hk _ _ k
theorem CE {K K':QT}(hk:∀ v h,K v h→K' v h) (h:ab) (k:np h K):np h K':=⟨CJ hk h k.out⟩
theorem Fp {K K':QT}(hk:∀ v h,K v h→K' v h) (x:AV) (h:ab) (k:nZ x h K):nZ x h K':=by
 unfold nZ at *
 (repeat' split at k)<;>first|exact k.elim|exact hk _ _ k|(rw[if_pos ‹_›];exact hk _ _ k)|(rw[if_neg ‹_›];exact hk _ _ k)|(simp_all;done)|(simp only[*,if_true];done)|(simp only[*,if_true];exact hk _ _ k)
theorem Gj {K K':QT}(hk:∀ v h,K v h→K' v h) (x:AV) (h:ab) (k:qI x h K):qI x h K':=⟨Fp hk x h k.out⟩
theorem IP {K K':QT}(hk:∀ v h,K v h→K' v h) (x:AV) (h:ab) (k:qK x h K):qK x h K':=by
 unfold qK at *
 (repeat' split at k)<;>first|exact k.elim|exact hk _ _ k|(rw[if_pos ‹_›];exact hk _ _ k)|(rw[if_neg ‹_›];exact hk _ _ k)|(simp_all;done)|(simp only[*,if_true];done)|(simp only[*,if_true];exact hk _ _ k)
theorem Jj {K K':QT}(hk:∀ v h,K v h→K' v h) (x:AV) (h:ab) (k:vU x h K):vU x h K':=⟨IP hk x h k.out⟩
theorem EA {K K':QT}(hk:∀ v h,K v h→K' v h) (x:AV) (h:ab) (k:mQ x h K):mQ x h K':=by
 unfold mQ at *
 (repeat' split at k)<;>first|exact k.elim|exact hk _ _ k|(rw[if_pos ‹_›];exact hk _ _ k)|(rw[if_neg ‹_›];exact hk _ _ k)|(simp_all;done)|(simp only[*,if_true];done)|(simp only[*,if_true];exact hk _ _ k)
theorem Fo {K K':QT}(hk:∀ v h,K v h→K' v h) (x:AV) (h:ab) (k:qT x h K):qT x h K':=⟨EA hk x h k.out⟩
theorem GU {K K':QT}(hk:∀ v h,K v h→K' v h) (x:AV) (h:ab) (k:q8 x h K):q8 x h K':=by
 unfold q8 at *
 split at k
 ·split at k
  ·exact hk _ _ k
  ·split at k
   ·exact⟨k.1,fun a=>hk _ _ (k.2.1 a),fun e he hs=>hk _ _ (k.2.2 e he hs)⟩
   ·exact k.elim
  ·exact k.elim
 ·exact k.elim
theorem Hs {K K':QT}(hk:∀ v h,K v h→K' v h) (x:AV) (h:ab) (k:vm x h K):vm x h K':=⟨GU hk x h k.out⟩
theorem Ai {K K':QT}(hk:∀ v h,K v h→K' v h) (x:AV) (h:ab) (k:io x h K):io x h K':=by
 unfold io at *
 (repeat' split at k)<;>first|exact k.elim|exact hk _ _ k|(rw[if_pos ‹_›];exact hk _ _ k)|(rw[if_neg ‹_›];exact hk _ _ k)|(simp_all;done)|(simp only[*,if_true];done)|(simp only[*,if_true];exact hk _ _ k)
theorem AJ {K K':QT}(hk:∀ v h,K v h→K' v h) (x:AV) (h:ab) (k:m3 x h K):m3 x h K':=⟨Ai hk x h k.out⟩
theorem zw {K K':QT}(hk:∀ v h,K v h→K' v h) (b:Nat) (z l c:AV) (h:ab) (k:fY b z l c h K):fY b z l c h K':=by
 unfold fY at *
 split at k
 ·exact⟨k.1,hk _ _ k.2⟩
 ·exact k.elim
theorem zn {K K':QT}(hk:∀ v h,K v h→K' v h) (b:Nat) (z l c:AV) (h:ab) (k:jq b z l c h K):jq b z l c h K':=⟨zw hk b z l c h k.out⟩
end
section
variable [Tabs]
section
variable {P:Program}{G:Gh}{h:ab}{w:World}
def y1 (P:Program):Op→Bool
 | .makeMap _ none=>true
 | .lookup ..=>true
 | .mapUpdate ..=>true
 | .insert ..=>true
 | .mapEntry ..=>true
 | .entryStore ..=>true
 | .range ..=>true
 | .next ..=>true
 | .entry _=>true
 | .makeSlice ..=>true
 | .convert s d _=>match P.underlying s,P.underlying d with
   | some (.slice _),some .string=>true
   | some .string,some (.slice _)=>true
   | _,_=>false
 | .binOp _ t _ _ _=>match P.underlying t with
   | some (.slice _)=>true
   | some (.map _ _)=>true
   | some (.interface _)=>true
   | some (.func _ _ _)=>true
   | some (.struct _)=>true
   | _=>false
 | .call c=>match c.callee with
   | .builtin .delete=>true
   | _=>false
 | _=>false
def xG (P:Program) (t:TypeId) (K:TypeDesc→Value→Prop):Prop:=
 match P.underlying t with
 | some (.map kt et)=>(match P.underlying kt,P.info? et with
   | some d,some i=>(match i.zero with|some z=>if okV z=true then K d z else False|none=>False)
   | _,_=>False)
 | _=>False
def wF (P:Program) (t:TypeId) (K:TypeDesc→Prop):Prop:=
 match P.underlying t with
 | some (.map kt _)=>(match P.underlying kt with|some d=>K d|none=>False)
 | _=>False
def tY (P:Program) (e:TypeId):Bool:=match P.underlying e with|some (.int .u8)=>true|_=>false
def um (P:Program) (op:BinOp) (t:TypeId) (a:AV) (y:Operand) (K:AV→Prop):Prop:=
 match P.underlying t,y with
 | some (.slice _),.const (.slice none 0 0)=>j7 op a K
 | some (.map _ _),.const (.map none)=>z7 op a K
 | some (.interface _),.const .nilIface=>zQ op a K
 | some (.func _ _ _),.const .nilFunc=>zT op a K
 | _,_=>False
def rT (P:Program) (env:Env) (h:ab) (o:Oper) (K:QT):Prop:=
 match o.op with
 | .makeMap _ none=>np h K
 | .lookup t x i ok=>d5 (opv env x) (opv env i) fun a b=>xG P t fun d z=>hY d ok (ofV z) a b h fun r=>K r h
 | .mapUpdate t m k v=>d5 (opv env m) (opv env k) fun a b=>bO (opv env v) fun c=>wF P t fun d=>d3 d a b c h fun h'=>K (.tup []) h'
 | .insert t m k v=>d5 (opv env m) (opv env k) fun a b=>bO (opv env v) fun c=>wF P t fun d=>d3 d a b c h fun h'=>K (.tup []) h'
 | .mapEntry t m k=>d5 (opv env m) (opv env k) fun a b=>xG P t fun d z=>m1 d (ofV z) a b h K
 | .entryStore t m s v=>d5 (opv env m) (opv env s) fun a b=>bO (opv env v) fun c=>jD a b c h fun h'=>K (.tup []) h'
 | .range t x=>bO (opv env x) fun a=>match P.underlying t with
   | some .string=>qI a h K
   | some (.map _ _)=>qT a h K
   | _=>False
 | .next x b=>bO (opv env x) fun a=>if b=true then vU a h K else vm a h K
 | .entry x=>bO (opv env x) fun a=>vn a h fun r=>K r h
 | .makeSlice t l c=>d5 (opv env l) (opv env c) fun a b=>match P.underlying t with
   | some (.slice e)=>(match P.info? e with
     | some i=>(match i.zero with|some z=>if (i.size==1&&z.oneCell')=true then jq i.bytes (Bm z) a b h K else False|none=>False)
     | none=>False)
   | _=>False
 | .convert s d x=>bO (opv env x) fun a=>match P.underlying s,P.underlying d with
   | some (.slice e),some .string=>if tY P e=true then hZ a h fun r=>K r h else False
   | some .string,some (.slice e)=>if tY P e=true then m3 a h K else False
   | _,_=>False
 | .binOp op t x y _=>match P.underlying t with
   | some (.struct fs)=>d5 (opv env x) (opv env y) fun a b=>(match sq P fs.toList 0 with
     | some ds=>if (!P.stoodInHeld t&&!P.eqGuardType P.depth t)=true then R8 op ds a b fun r=>K r h else False
     | none=>False)
   | _=>bO (opv env x) fun a=>um P op t a y fun r=>K r h
 | .call c=>match c.callee with
   | .builtin .delete=>dH (i3 env c.args.toList) fun vs=>(match vs,c.argTypes.toList with
     | [m,k],t::_=>wF P t fun d=>v8 d m k h fun h'=>K (.tup []) h'
     | _,_=>False)
   | _=>False
 | _=>False
def tn (P:Program) (env:Env) (h:ab) (o:Oper) (K:QT):Prop:=if y1 P o.op=true then rT P env h o K else tH P env h o K
theorem zY {t:TypeId}{K:TypeDesc→Value→Prop}(k:xG P t K):∃ kt et d i z,P.underlying t=some (.map kt et)∧P.underlying kt=some d∧P.info? et=some i∧i.zero=some z∧okV z=true∧K d z:=by
 unfold xG at k
 split at k
 ·split at k
  ·split at k
   ·split at k
    ·exact⟨_,_,_,_,_,‹_›,‹_›,‹_›,‹_›,‹_›,k⟩
    ·exact k.elim
   ·exact k.elim
  ·exact k.elim
 ·exact k.elim
theorem wd {t:TypeId}{K:TypeDesc→Prop}(k:wF P t K):∃ kt et d,P.underlying t=some (.map kt et)∧P.underlying kt=some d∧K d:=by
 unfold wF at k
 split at k
 ·split at k
  ·exact⟨_,_,_,‹_›,‹_›,k⟩
  ·exact k.elim
 ·exact k.elim
theorem Bh {e:TypeId}(h:tY P e=true):P.underlying e=some (.int .u8):=by
 unfold tY at h
 split at h
 ·assumption
 ·cases h
theorem OQ {m:Sem Unit}{K:ab→Prop}(k:∃ h' G' w',m.run P w=.ok () w'∧K h'∧Sim G' h' w'∧Evo G h w G' h' w'):UpV P (N0 G h w fun v h'=>v=.tup []∧K h') ((do m;pure .skip:Sem Next).run P w):=by
 obtain⟨h',G',w',q1,q2,q3,q4⟩:=k
 simp only[Sem.run_bind,q1,Result.andThen_ok,Sem.run_pure]
 exact⟨.tup [],h',G',by simp[Rep,RepL,undef],⟨rfl,q2⟩,q3,q4⟩
theorem P1 {N N':Value→World→Prop}(hk:∀ v w,N v w→N' v w) {r:Result Next}(k:UpV P N r):UpV P N' r:=by
 unfold UpV at *
 split at k
 ·exact hk _ _ k
 ·exact hk _ _ k
 ·exact Calls.mono k fun e w'' ⟨v,he,hv⟩=>⟨v,he,hk _ _ hv⟩
 ·exact k.elim
theorem BQ {m:Sem Unit}{K:QT}(k:∃ h' G' w',m.run P w=.ok () w'∧K (.tup []) h'∧Sim G' h' w'∧Evo G h w G' h' w'):UpV P (N0 G h w K) ((do m;pure .skip:Sem Next).run P w):=
 P1 (fun v w' ⟨r,h',G',q1,⟨q2,q3⟩,q4,q5⟩=>⟨r,h',G',q1,by subst q2;exact q3,q4,q5⟩) (OQ (K:=K (.tup [])) k)
theorem Si (s:Sim G h w) {env:Env}{a:Act}(r:EnvRep G env a.tmps) {o:Oper}{K:QT}(k:rT P env h o K):UpV P (N0 G h w K) ((execOp a.eval o).run P w):=by
 obtain⟨dst,op,ty,pos,after,guard⟩:=o
 cases op<;>simp only[rT]at k<;>try exact k.elim
 case makeMap t re=>
  cases re with
  | none=>exact fE (HN s k.out)
  | some x=>exact k.elim
 case lookup t x i ok=>
  obtain⟨v,h1,k⟩:=ar k
  obtain⟨u,h2,k⟩:=ar k
  obtain⟨kt,et,d,inf,z,q1,q2,q3,q4,q5,k⟩:=zY k
  exact bc s (JR s q1 q2 q3 q4 q5 (aL r h1) (aL r h2) k.out)
 case mapUpdate t m i x=>
  obtain⟨v,h1,k⟩:=ar k
  obtain⟨u,h2,k⟩:=ar k
  obtain⟨y,h3,k⟩:=ar k
  obtain⟨kt,et,d,q1,q2,k⟩:=wd k
  exact BQ (u9 s q1 q2 (aL r h1) (aL r h2) (aL r h3) k.out)
 case insert t m i x=>
  obtain⟨v,h1,k⟩:=ar k
  obtain⟨u,h2,k⟩:=ar k
  obtain⟨y,h3,k⟩:=ar k
  obtain⟨kt,et,d,q1,q2,k⟩:=wd k
  exact BQ (u9 s q1 q2 (aL r h1) (aL r h2) (aL r h3) k.out)
 case mapEntry t m i=>
  obtain⟨v,h1,k⟩:=ar k
  obtain⟨u,h2,k⟩:=ar k
  obtain⟨kt,et,d,inf,z,q1,q2,q3,q4,q5,k⟩:=zY k
  exact fE (F0 s q1 q2 q3 q4 q5 (aL r h1) (aL r h2) k.out)
 case entryStore t m i x=>
  obtain⟨v,h1,k⟩:=ar k
  obtain⟨u,h2,k⟩:=ar k
  obtain⟨y,h3,k⟩:=ar k
  exact BQ (BD s (aL r h1) (aL r h2) (aL r h3) k.out)
 case range t x=>
  obtain⟨v,h1,k⟩:=ar k
  split at k
  ·exact fE (Km s ‹_› (aL r h1) k.out)
  ·exact fE (Ld s ‹_› (aL r h1) k.out)
  ·exact k.elim
 case next x b=>
  obtain⟨v,h1,k⟩:=ar k
  cases b
  ·exact fE (NZ s (aL r h1) k.out)
  ·exact fE (MQ s (aL r h1) k.out)
 case entry x=>
  obtain⟨v,h1,k⟩:=ar k
  exact bc s (Oy s (aL r h1) k.out)
 case makeSlice t l c=>
  obtain⟨v,h1,k⟩:=ar k
  obtain⟨u,h2,k⟩:=ar k
  split at k
  ·split at k
   ·split at k
    ·split at k
     ·rename_i hc
      simp only[Bool.and_eq_true,beq_iff_eq]at hc
      exact fE (Cy s ‹_› ‹_› ‹_› hc.1 hc.2 (aL r h1) (aL r h2) k.out)
     ·exact k.elim
    ·exact k.elim
   ·exact k.elim
  ·exact k.elim
 case convert sr d x=>
  obtain⟨v,h1,k⟩:=ar k
  split at k
  ·split at k
   ·exact bc s (F8 s ‹_› (Bh ‹_›) ‹_› (aL r h1) k.out)
   ·exact k.elim
  ·split at k
   ·exact fE (Gf s ‹_› ‹_› (Bh ‹_›) (aL r h1) k.out)
   ·exact k.elim
  ·exact k.elim
 case binOp op t x y yt=>
  split at k
  ·rename_i fs ht
   obtain⟨v,h1,k⟩:=ar k
   obtain⟨u,h2,k⟩:=ar k
   split at k
   ·split at k
    ·rename_i hc
     simp only[Bool.and_eq_true,Bool.not_eq_true']at hc
     exact bc s (Su ht ‹_› hc.1 hc.2 (aL r h1) (aL r h2) k.out)
    ·exact k.elim
   ·exact k.elim
  ·obtain⟨v,h1,k⟩:=ar k
   unfold um at k
   split at k
   ·exact bc s (Kw ‹_› (aL r h1) k.out)
   ·exact bc s (JF ‹_› (aL r h1) k.out)
   ·exact bc s (Jw ‹_› (aL r h1) k.out)
   ·exact bc s (Lb ‹_› (aL r h1) k.out)
   ·exact k.elim
 case call c=>
  obtain⟨callee,args,argTypes⟩:=c
  simp only at k
  split at k
  ·obtain⟨vs,h1,k⟩:=de k
   have hr:=hB r h1
   split at k
   ·rename_i m ke t ts hT
    obtain⟨kt,et,d,q1,q2,k⟩:=wd k
    obtain⟨x,y,hx,hx2,hx3⟩:=hr.two
    have hargs:args.map a.eval=#[x,y]:=by apply Array.toList_inj.1;simpa using hx
    have hts:argTypes[0]?=some t:=by have:=congrArg (·[0]?) hT;simpa using this
    obtain⟨r',v',h',G',w',p1,p2,⟨p3,p4⟩,p5,p6⟩:=Kg (ty:=ty) s q1 q2 hx2 hx3 hts k.out
    subst p3
    simp only[execOp,resolve,Sem.run_bind,Sem.run_pure,Result.andThen_ok,invoke,builtin,hargs,p1]
    exact⟨_,h',G',p2,p4,p5,p6⟩
   ·exact k.elim
  ·exact k.elim
theorem S6 (s:Sim G h w) {env:Env}{a:Act}(r:EnvRep G env a.tmps) {o:Oper}{K:QT}(k:tn P env h o K):UpV P (N0 G h w K) ((execOp a.eval o).run P w):=by
 unfold tn at k
 split at k
 ·exact Si s r k
 ·exact SO s r k
theorem Ds {t:TypeId}{K K':TypeDesc→Value→Prop}(hk:∀ d z,K d z→K' d z) (k:xG P t K):xG P t K':=by
 unfold xG at *
 (repeat' split at k)<;>first|exact k.elim|(simp only[*,if_true];exact hk _ _ k)|(rw[if_pos ‹_›];exact hk _ _ k)
theorem xI {t:TypeId}{K K':TypeDesc→Prop}(hk:∀ d,K d→K' d) (k:wF P t K):wF P t K':=by
 unfold wF at *
 (repeat' split at k)<;>first|exact k.elim|exact hk _ k
theorem OP {env:Env}{h:ab}{o:Oper}{K K':QT}(hk:∀ v h,K v h→K' v h) (k:rT P env h o K):rT P env h o K':=by
 obtain⟨dst,op,ty,pos,after,guard⟩:=o
 have hk':∀ v,K v h→K' v h:=fun v=>hk v h
 have hk2:∀ h',K (.tup []) h'→K' (.tup []) h':=fun h'=>hk _ h'
 cases op<;>simp only[rT]at k ⊢<;>try exact k.elim
 case makeMap t re=>
  cases re with
  | none=>exact CE hk _ k
  | some x=>exact k.elim
 case lookup=>exact dl (fun _ _ k=>Ds (fun _ _ k=>qj hk' _ _ _ _ _ _ k) k) _ _ k
 case mapUpdate=>exact dl (fun _ _ k=>bj (fun _ k=>xI (fun _ k=>rv hk2 _ _ _ _ _ k) k) _ k) _ _ k
 case insert=>exact dl (fun _ _ k=>bj (fun _ k=>xI (fun _ k=>rv hk2 _ _ _ _ _ k) k) _ k) _ _ k
 case mapEntry=>exact dl (fun _ _ k=>Ds (fun _ _ k=>Ck hk _ _ _ _ _ k) k) _ _ k
 case entryStore=>exact dl (fun _ _ k=>bj (fun _ k=>xz hk2 _ _ _ _ k) _ k) _ _ k
 case range=>
  refine bj (fun _ k=>?_) _ k
  split at k
  ·exact Gj hk _ _ k
  ·exact Fo hk _ _ k
  ·exact k.elim
 case next x b=>
  refine bj (fun _ k=>?_) _ k
  cases b
  ·exact Hs hk _ _ k
  ·exact Jj hk _ _ k
 case entry=>exact bj (fun _ k=>rR hk' _ _ k) _ k
 case makeSlice=>
  refine dl (fun _ _ k=>?_) _ _ k
  (repeat' split at k)<;>first|exact k.elim|(rw[if_pos ‹_›];exact zn hk _ _ _ _ _ k)
 case convert=>
  refine bj (fun _ k=>?_) _ k
  (repeat' split at k)<;>first|exact k.elim|(rw[if_pos ‹_›];exact nn hk' _ _ k)|(rw[if_pos ‹_›];exact AJ hk _ _ k)
 case binOp=>
  split at k
  ·refine dl (fun _ _ k=>?_) _ _ k
   (repeat' split at k)<;>first|exact k.elim|(rw[if_pos ‹_›];exact xP hk' _ _ _ _ k)
  ·refine bj (fun _ k=>?_) _ k
   unfold um at *
   split at k
   ·exact w9 hk' _ _ k
   ·exact qm hk' _ _ k
   ·exact qQ hk' _ _ k
   ·exact qq hk' _ _ k
   ·exact k.elim
 case call c=>
  split at k
  ·refine eC (fun _ k=>?_) _ k
   split at k
   ·exact xI (fun _ k=>Gb hk2 _ _ _ _ k) k
   ·exact k.elim
  ·exact k.elim
theorem Ny {env:Env}{h:ab}{o:Oper}{K K':QT}(hk:∀ v h,K v h→K' v h) (k:tn P env h o K):tn P env h o K':=by
 unfold tn at *
 split at k
 ·rename_i hn;rw[if_pos hn];exact OP hk k
 ·rename_i hn;rw[if_neg hn];exact Nq hk k
end
end
section
variable [Tabs]
section
variable {P:Program}{G:Gh}{h:ab}{w:World}
omit [Tabs] in
theorem Ce {α:Type}(l:List α) (off:Nat):splice l off []=l:=by simp[splice]
omit [Tabs] in
theorem Hj {i:Nat}{o:AObj}(hi:h[i]?=some o):h.set i o=h:=by
 apply List.ext_getElem?
 intro j
 rw[List.getElem?_set]
 split
 ·rename_i e;subst e
  split
  ·exact hi.symm
  ·rename_i hn;rw[List.getElem?_eq_none (by omega)]at hi;cases hi
 ·rfl
theorem Dv (s:Sim G h w) {i off len sz:Nat}{cs xs:List AV}{x:Value}(hcs:h[i]?=some (.cells cs)) (hx:Rep G (.sl i off len sz) x) {vs:List Value}(hv:RepL G xs vs) (hone:xs.all AV.one=true) (hl:xs.length≤len*sz) (hle:off+len*sz≤cs.length):
  ∃ b c,x=.slice (some b) len c∧∃ G' w',(storeCells b vs).run P w=.ok () w'∧Sim G' (h.set i (.cells (splice cs off xs))) w'∧Evo G h w G' (h.set i (.cells (splice cs off xs))) w':=by
 simp only[Rep]at hx
 obtain⟨b,o,c,ad,h1,h2,h3,h4,rfl⟩:=hx
 refine⟨_,_,rfl,?_⟩
 have hlv:=hv.length
 rcases Nat.eq_zero_or_pos c with hc0|hc0
 ·have:xs=[]:=by
   have:len=0:=by omega
   subst this
   exact List.length_eq_zero_iff.1 (by omega)
  subst this
  simp only[RepL]at hv
  subst hv
  refine⟨G,w,by simp[storeCells],?_,?_⟩
  ·rw[Ce,Hj hcs];exact s
  ·rw[Ce,Hj hcs];exact Evo.refl _ _ _
 ·obtain rfl:=h4 hc0
  obtain⟨b',o',arr,el,lo,hi',e1,e2,e3,e4,e5,e6⟩:=oh s hcs
  rw[h1]at e1
  cases e1
  obtain⟨arr',q2,q3⟩:=qu (P:=P) b (o+off) el lo hi' vs 0 arr w e2 e3 (by omega) (zL hv hone)
  have hsz:arr'.size=arr.size:=by
   have:=congrArg List.length q3
   rw[fe (by simp;omega)]at this
   simpa using this
  have x:ObjAt G (dg w b (.cells arr' el (lo,hi'))) i (.cells (splice cs off xs)):=by
   refine⟨b,o,arr',el,lo,hi',h1,kR w b _ (Array.getElem?_eq_some_iff.1 e2).1,by rw[hsz];exact e3,by rw[fe (by omega)];exact e4,by rw[hsz];exact e5,?_⟩
   intro q a ha
   rw[c5 (by omega)]at ha
   have hget:arr'[o+q]?=arr'.toList[o+q]?:=by simp
   rw[hget,q3,c5 (by simp;omega)]
   by_cases c1:q<off
   ·rw[if_pos c1]at ha
    rw[if_pos (by omega)]
    simpa using e6 q a ha
   ·rw[if_neg c1]at ha
    rw[if_neg (by omega)]
    by_cases c2:q<off+xs.length
    ·rw[if_pos c2]at ha
     rw[if_pos (by omega)]
     obtain⟨v,h4,h5⟩:=hv.at _ a ha
     exact⟨v,by rw[← h4];congr 1;omega,h5⟩
    ·rw[if_neg c2]at ha
     rw[if_neg (by omega)]
     simpa using e6 q a ha
  obtain⟨s',ev⟩:=tK s hcs rfl h1 rfl x
  exact⟨_,_,q2,s',ev⟩
theorem yT (s:Sim G h w) {size:Nat}{v:AV}{x:Value}(hx:Rep G v x) {m:Nat}{xs:List AV}(e:da h size v=some (m,xs)) {k:Nat}(hk:k≤m):
  ∃ vs:List Value,RepL G (xs.take (k*size)) vs∧(Builtin.firstCells size k x).run P w=.ok vs.toArray w:=by
 have hmul:k*size≤m*size:=Nat.mul_le_mul_right _ hk
 have snap:∀ (n c:Nat) (cs:List AV) (base:Option Addr),da h size (.snap n cs)=some (m,xs)→k≤n→(cs=[]∧n=0∨∃ b o,base=some ⟨b,o,none⟩∧RepAt G cs b o)→
   ∃ vs:List Value,RepL G (xs.take (k*size)) vs∧(Builtin.firstCells size k (.slice base n c)).run P w=.ok vs.toArray w:=by
  intro n c cs base e hkn hb
  simp only[da]at e
  split at e
  ·rename_i hl
   cases e
   rcases hb with ⟨rfl,rfl⟩|⟨b,o,rfl,h2⟩
   ·exact⟨[],by simp[RepL],by rw[show k=0 by omega];cases base<;>simp[Builtin.firstCells,loadCells,loadCellsFrom]⟩
   ·obtain⟨vs,h3,h4,h5⟩:=qW s h2 hl
    refine⟨vs.take (k*size),?_,?_⟩
    ·refine g6 (by simp;omega) fun j a ha=>?_
     rw[List.getElem?_take]at ha ⊢
     split at ha
     ·rename_i hj;rw[if_pos hj];exact h4.at j a ha
     ·cases ha
    ·have:=run_loadCells_list (P:=P) w ⟨b,o,none⟩ (vs.take (k*size)) (fun j v hj=>by
      rw[dW]
      rw[List.getElem?_take]at hj
      split at hj
      ·exact h5 j v hj
      ·cases hj)
     have hlen:(vs.take (k*size)).length=k*size:=by simp;omega
     rw[hlen]at this
     simpa [Builtin.firstCells] using this
  ·cases e
 unfold da at e
 split at e
 ·rename_i n cs
  have hn:n=m:=by split at e<;>cases e;rfl
  simp only[Rep]at hx
  rcases hx with ⟨rfl,rfl,za,rfl⟩|⟨b,o,c,h1,rfl,h2⟩
  ·exact snap 0 0 [] za (by simpa [da] using e) (by omega) (.inl ⟨rfl,rfl⟩)
  ·exact snap n c cs _ (by simpa [da] using e) (by omega) (.inr ⟨b,o,rfl,h2⟩)
 ·rename_i n cs
  have hn:n=m:=by split at e<;>cases e;rfl
  simp only[Rep]at hx
  rcases hx with ⟨rfl,rfl,za,rfl⟩|⟨b,o,rfl,h2⟩
  ·exact snap 0 0 [] za (by simpa [da] using e) (by omega) (.inl ⟨rfl,rfl⟩)
  ·exact snap n n cs _ (by simpa [da] using e) (by omega) (.inr ⟨b,o,rfl,h2⟩)
 ·rename_i i off len sz
  split at e
  ·rename_i cs hcs
   split at e
   ·rename_i hc
    obtain⟨rfl,hle⟩:=hc
    cases e
    simp only[Rep]at hx
    obtain⟨b,o,c,ad,h1,h2,h3,h4,rfl⟩:=hx
    obtain⟨vs,q1,q2,_,q4⟩:=lg (P:=P) (size:=sz) s (v:=.sl i off k sz) (x:=.slice (some ⟨b,ad,none⟩) k c) (by
     simp only[Rep];exact⟨b,o,c,ad,h1,h2,by omega,h4,rfl⟩) (m:=k) (xs:=(cs.drop off).take (k*sz)) (by simp[da,hcs];omega)
    refine⟨vs,?_,?_⟩
    ·rw[List.take_take,Nat.min_eq_left hmul];exact q2
    ·simpa [Builtin.firstCells] using q4
   ·cases e
  ·cases e
 ·rename_i s'
  split at e
  ·rename_i h1
   subst h1
   cases e
   simp only[Rep]at hx
   obtain⟨rfl,_⟩:=hx
   refine⟨(s'.data.toList.take k).map fun b=>Value.int .u8 b.toNat,by rw[Nat.mul_one,← List.map_take];exact vw G _,?_⟩
   simp only[Builtin.firstCells,Sem.run_pure]
   congr 1
   apply Array.toList_inj.1
   simp[ByteArray.extract,ByteArray.copySlice]
  ·cases e
 ·cases e
def yZ (size:Nat) (v x:AV) (h:ab) (K:QT):Prop:=
 match da h size x with
 | none=>False
 | some (m,xs)=>match v with
   | .sl i off len sz=>(match h[i]? with
     | some (.cells cs)=>(sz=size∧off+len*size≤cs.length∧xs.all AV.one=true)∧K (I (Nat.min m len)) (h.set i (.cells (splice cs off (xs.take (Nat.min m len*size)))))
     | _=>False)
   | .full n _=>Nat.min m n=0∧K (I 0) h
   | .snap n _=>Nat.min m n=0∧K (I 0) h
   | _=>False
structure UP (size:Nat) (v x:AV) (h:ab) (K:QT):Prop where
 mk::(out:yZ size v x h K)
theorem PU (s:Sim G h w) {t e ty:TypeId}{ts:Array TypeId}{i:TypeInfo}(ht0:ts[0]?=some t) (ht:P.underlying t=some (.slice e)) (hi:P.info? e=some i) {v x:AV}{a b:Value}(hx:Rep G v a) (hy:Rep G x b) {K:QT}(k:yZ i.size v x h K):
  Ye P G h w (Builtin.copy_ ts ty #[a,b]) K:=by
 unfold yZ at k
 split at k
 ·exact k.elim
 ·rename_i m xs hxs
  obtain⟨_,_,_,hm,_⟩:=lg (P:=P) s hy hxs
  have none_:∀ (base:Option Addr) (n c:Nat),a=.slice base n c→Nat.min m n=0→K (I 0) h→Ye P G h w (Builtin.copy_ ts ty #[a,b]) K:=by
   rintro base n c rfl hmn k
   obtain⟨vs,hv1,hv2⟩:=yT (P:=P) s hy hxs (k:=0) (Nat.zero_le _)
   simp only[Nat.zero_mul,List.take_zero,RepL]at hv1
   subst hv1
   refine⟨I 0,.int .i64 0,h,G,w,?_,by simp[Rep,Value.oneCell'],k,s,Evo.refl _ _ _⟩
   have hmn':min m n=0:=hmn
   cases base<;>simp[Builtin.copy_,ht0,run_underlying ht,hm,sizeOf,typeInfo,hi,hmn',hv2,storeCells,goInt]
  split at k
  ·rename_i j off len sz
   split at k
   ·rename_i cs hcs
    obtain⟨⟨rfl,hle,hone⟩,k⟩:=k
    have hkm:Nat.min m len≤m:=Nat.min_le_left _ _
    have hkl:Nat.min m len≤len:=Nat.min_le_right _ _
    obtain⟨vs,hv1,hv2⟩:=yT (P:=P) s hy hxs hkm
    obtain⟨ba,c,rfl,G',w',q1,q2,q3⟩:=Dv (P:=P) s hcs hx hv1 (by
     rw[List.all_eq_true]at hone ⊢;exact fun y hy=>hone y (List.mem_of_mem_take hy)) (by simp only[List.length_take];exact Nat.le_trans (Nat.min_le_left _ _) (Nat.mul_le_mul_right _ hkl)) hle
    refine⟨_,.int .i64 (Nat.min m len),_,G',w',?_,by simp[Rep,Value.oneCell'],k,q2,q3⟩
    have hv2':(Builtin.firstCells i.size (min m len) b).run P w=.ok vs.toArray w:=hv2
    simp[Builtin.copy_,ht0,run_underlying ht,hm,sizeOf,typeInfo,hi,hv2',q1,goInt]
   ·exact k.elim
  ·rename_i n cs
   simp only[Rep]at hx
   rcases hx with ⟨rfl,rfl,za,rfl⟩|⟨bb,o,rfl,h2⟩
   ·exact none_ _ _ _ rfl k.1 k.2
   ·exact none_ _ _ _ rfl k.1 k.2
  ·rename_i n cs
   simp only[Rep]at hx
   rcases hx with ⟨rfl,rfl,za,rfl⟩|⟨bb,o,c,_,rfl,h2⟩
   ·exact none_ _ _ _ rfl k.1 k.2
   ·exact none_ _ _ _ rfl k.1 k.2
  ·exact k.elim
theorem Kj {size:Nat}{v x:AV}{h:ab}{K K':QT}(hk:∀ v h,K v h→K' v h) (k:yZ size v x h K):yZ size v x h K':=by
 unfold yZ at *
 split at k
 ·exact k.elim
 ·split at k
  ·split at k
   ·exact⟨k.1,hk _ _ k.2⟩
   ·exact k.elim
  ·exact⟨k.1,hk _ _ k.2⟩
  ·exact⟨k.1,hk _ _ k.2⟩
  ·exact k.elim
def sH (size:Nat) (u v:AV) (h:ab) (K:ab→Prop):Prop:=
 match v with
 | .sl i off len sz=>(match h[i]? with
   | some (.cells cs)=>(u.isTup=false∧u.cells.length=size∧sz=size∧off+len*size≤cs.length∧u.cells.all AV.one=true)∧K (h.set i (.cells (splice cs off (List.replicate len u.cells).flatten)))
   | _=>False)
 | .full 0 _=>K h
 | .snap 0 _=>K h
 | _=>False
structure TL (size:Nat) (u v:AV) (h:ab) (K:ab→Prop):Prop where
 mk::(out:sH size u v h K)
omit [Tabs] in
theorem tf (zs:Array Value):∀ n,(Builtin.zeroCells zs n).toList=(List.replicate n zs.toList).flatten
 | 0=>by simp[Builtin.zeroCells]
 | n+1=>by
   have ih:=tf zs n
   rw[List.replicate_succ',List.flatten_append,← ih]
   simp only[Builtin.zeroCells,Array.toList_map,Array.toList_range,List.flatten_cons,List.flatten_nil,List.append_nil]
   rw[Nat.succ_mul,List.range_add,List.map_append]
   congr 1
   rw[List.map_map]
   apply List.ext_getElem?
   intro j
   simp only[List.getElem?_map,Function.comp_apply]
   by_cases hj:j<zs.size
   ·simp[hj,Nat.mod_eq_of_lt hj]
   ·simp[hj]
theorem HH {G:Gh}{cs:List AV}{vs:List Value}(r:RepL G cs vs):∀ n,RepL G (List.replicate n cs).flatten (List.replicate n vs).flatten
 | 0=>by simp[RepL]
 | n+1=>by rw[List.replicate_succ,List.replicate_succ,List.flatten_cons,List.flatten_cons];exact r.append (HH r n)
theorem Og (s:Sim G h w) {t e ty:TypeId}{ts:Array TypeId}{i:TypeInfo}{z:Value}(ht0:ts[0]?=some t) (ht:P.underlying t=some (.slice e)) (hi:P.info? e=some i) (hz:i.zero=some z) {u v:AV}{a:Value}(hx:Rep G v a) (hu:Rep G u z) {K:ab→Prop}(k:sH i.size u v h K):
  Ye P G h w (Builtin.clear_ ts ty #[a]) (fun r h'=>r=.tup []∧K h'):=by
 unfold sH at k
 split at k
 ·rename_i j off len sz
  split at k
  ·rename_i cs hcs
   obtain⟨⟨hut,hul,rfl,hle,hone⟩,k⟩:=k
   have hc:=hu.cells hut
   have hrr:=HH hc len
   have hlen:(List.replicate len u.cells).flatten.length=len*i.size:=by simp[List.length_flatten,hul]
   have hone':(List.replicate len u.cells).flatten.all AV.one=true:=by
    rw[List.all_eq_true]at hone ⊢
    intro y hy
    obtain⟨l,h1,h2⟩:=List.mem_flatten.1 hy
    rw[(List.mem_replicate.1 h1).2]at h2
    exact hone y h2
   obtain⟨ba,c,rfl,G',w',q1,q2,q3⟩:=Dv (P:=P) s hcs hx hrr hone' (by omega) hle
   refine⟨.tup [],.tuple #[],_,G',w',?_,by simp[Rep,RepL],⟨rfl,k⟩,q2,q3⟩
   rw[← tf]at q1
   cases len with
   | zero=>
     have:w'=w:=by
      simp[Builtin.zeroCells,storeCells]at q1
      exact q1.symm
     subst this
     simp[Builtin.clear_,ht0,run_underlying ht]
   | succ len=>simp[Builtin.clear_,ht0,run_underlying ht,zeroValue,typeInfo,hi,hz,q1]
  ·exact k.elim
 ·simp only[Rep]at hx
  refine⟨.tup [],.tuple #[],h,G,w,?_,by simp[Rep,RepL],⟨rfl,k⟩,s,Evo.refl _ _ _⟩
  rcases hx with ⟨_,rfl,za,rfl⟩|⟨bb,o,rfl,h2⟩<;>(try cases za)<;>simp[Builtin.clear_,ht0,run_underlying ht]
 ·simp only[Rep]at hx
  refine⟨.tup [],.tuple #[],h,G,w,?_,by simp[Rep,RepL],⟨rfl,k⟩,s,Evo.refl _ _ _⟩
  rcases hx with ⟨_,rfl,za,rfl⟩|⟨bb,o,c,_,rfl,h2⟩<;>(try cases za)<;>simp[Builtin.clear_,ht0,run_underlying ht]
 ·exact k.elim
theorem H8 {size:Nat}{u v:AV}{h:ab}{K K':ab→Prop}(hk:∀ h,K h→K' h) (k:sH size u v h K):sH size u v h K':=by
 unfold sH at *
 split at k
 ·split at k
  ·exact⟨k.1,hk _ k.2⟩
  ·exact k.elim
 ·exact hk _ k
 ·exact hk _ k
 ·exact k.elim
end
end
section
variable [Tabs]
section
variable {P:Program}{G:Gh}{h:ab}{w:World}
inductive Ext where
 | index
 | count
 | bits
 | frombits
def Il (P:Program) (f:FuncId):Option Ext:=match P.funcs[f]? with
 | some fn => if fn.body.isNone = true then (if (fn.name == "internal/bytealg.IndexByteString" && fn.origin == "") = true then some .index
   else if (fn.name == "internal/bytealg.CountString" && fn.origin == "") = true then some .count else if (fn.name == "math.Float64bits" && fn.origin == "") = true then some .bits else if (fn.name == "math.Float64frombits" && fn.origin == "") = true then some .frombits else none) else none
 | none=>none
def vS (e:Ext) (vs:List AV) (K:AV→Prop):Prop:=
 match e,vs with
 | .index,[.lit (.string s),.lit (.int .u8 c)]=>K (I (Lib.indexByte s.data.toList c.toNat.toUInt8))
 | .count,[.lit (.string s),.lit (.int .u8 c)]=>K (I (Lib.countByte s.data.toList c.toNat.toUInt8))
 | .bits,[.lit (.float .f64 b)]=>K (.lit (.int .u64 b))
 | .frombits,[.lit (.int .u64 n)]=>K (.lit (.float .f64 n.toNat))
 | _,_=>False
structure OY (e:Ext) (vs:List AV) (K:AV→Prop):Prop where
 mk::(out:vS e vs K)
theorem xp {e:Ext}{vs:List AV}{K K':AV→Prop}(hk:∀ r,K r→K' r) (k:vS e vs K):vS e vs K':=by
 unfold vS at *
 split at k<;>first|exact hk _ k|exact k.elim
theorem RF {e:Ext}{vs:List AV}{K:AV→Prop}(k:vS e vs K):∃ v,K v∧vS e vs fun r=>r=v:=by
 unfold vS at *
 split at k<;>first|exact⟨_,k,rfl⟩|exact k.elim
theorem look_index : Extern.allGenericRows.lookup "internal/bytealg.IndexByteString" = none ∧ Extern.allTypedRows.lookup "internal/bytealg.IndexByteString" = none ∧ Extern.allRows.lookup "internal/bytealg.IndexByteString" = some Extern.BytealgIndexByte.indexByte := ⟨by kernel_rfl, by kernel_rfl, by kernel_rfl⟩
theorem look_count : Extern.allGenericRows.lookup "internal/bytealg.CountString" = none ∧ Extern.allTypedRows.lookup "internal/bytealg.CountString" = none ∧ Extern.allRows.lookup "internal/bytealg.CountString" = some Extern.BytealgCount.count := ⟨by kernel_rfl, by kernel_rfl, by kernel_rfl⟩
theorem look_bits : Extern.allGenericRows.lookup "math.Float64bits" = none ∧ Extern.allTypedRows.lookup "math.Float64bits" = none ∧ Extern.allRows.lookup "math.Float64bits" = some Extern.MathFloatBits.float64bits := ⟨by kernel_rfl, by kernel_rfl, by kernel_rfl⟩
theorem look_frombits : Extern.allGenericRows.lookup "math.Float64frombits" = none ∧ Extern.allTypedRows.lookup "math.Float64frombits" = none ∧ Extern.allRows.lookup "math.Float64frombits" = some Extern.MathFloatBits.float64frombits := ⟨by kernel_rfl, by kernel_rfl, by kernel_rfl⟩
theorem look_next2 : Extern.allNextRows.lookup "math.Float64bits" = none ∧ Extern.allNextRows.lookup "math.Float64frombits" = none := ⟨by kernel_rfl, by kernel_rfl⟩
theorem look_next : Extern.allNextRows.lookup "internal/bytealg.IndexByteString" = none ∧ Extern.allNextRows.lookup "internal/bytealg.CountString" = none ∧ Extern.allNextRows.lookup "" = none := ⟨by kernel_rfl, by kernel_rfl, by kernel_rfl⟩
theorem R9 {f:FuncId}{e:Ext}(he:Il P f=some e) {vs:List AV}{xs:Array Value}(hr:RepL G vs xs.toList) {K:AV→Prop}(k:vS e vs K):
  ∃ r v,(callFunc f xs).run P w=.ok (.value v) w∧Rep G r v∧K r:=by
 unfold Il at he
 split at he
 ·rename_i fn hf
  split at he
  ·rename_i hb
   split at he
   ·rename_i hn
    cases he
    simp only[Bool.and_eq_true,beq_iff_eq]at hn
    have h1:Extern.findNext fn=none:=by unfold Extern.findNext;simp only[hn.1,hn.2,look_next.1,look_next.2.2];rfl
    have h2:Extern.find fn=some Extern.BytealgIndexByte.indexByte:=by unfold Extern.find;simp only[hn.1,look_index.1,look_index.2.1,look_index.2.2];rfl
    rw[run_callFunc_extern hf (by rw[hn.1];decide) hb h1 h2]
    have k:∃ s c,vs=[.lit (.string s),.lit (.int .u8 c)]∧K (I (Lib.indexByte s.data.toList c.toNat.toUInt8)):=by
     unfold vS at k;split at k<;>first|contradiction|exact⟨_,_,rfl,k⟩|exact k.elim
    obtain⟨s,c,rfl,k⟩:=k
    ·obtain⟨a,b,hx,ha,hb⟩:=hr.two
     simp only[Rep]at ha hb
     have:xs=#[a,b]:=by apply Array.toList_inj.1;simpa using hx
     rw[this,ha.1,hb.1,run_indexByte_string,Lib.firstIdx_eq]
     exact⟨_,_,rfl,by simp[Rep,Value.oneCell'],k⟩
   ·split at he
    ·rename_i hn
     cases he
     simp only[Bool.and_eq_true,beq_iff_eq]at hn
     have h1:Extern.findNext fn=none:=by unfold Extern.findNext;simp only[hn.1,hn.2,look_next.2.1,look_next.2.2];rfl
     have h2:Extern.find fn=some Extern.BytealgCount.count:=by unfold Extern.find;simp only[hn.1,look_count.1,look_count.2.1,look_count.2.2];rfl
     rw[run_callFunc_extern hf (by rw[hn.1];decide) hb h1 h2]
     have k:∃ s c,vs=[.lit (.string s),.lit (.int .u8 c)]∧K (I (Lib.countByte s.data.toList c.toNat.toUInt8)):=by
      unfold vS at k;split at k<;>first|contradiction|exact⟨_,_,rfl,k⟩|exact k.elim
     obtain⟨s,c,rfl,k⟩:=k
     ·obtain⟨a,b,hx,ha,hb⟩:=hr.two
      simp only[Rep]at ha hb
      have:xs=#[a,b]:=by apply Array.toList_inj.1;simpa using hx
      rw[this,ha.1,hb.1,Lib.run_countString]
      exact⟨_,_,rfl,by simp[Rep,Value.oneCell'],k⟩
    ·split at he
     ·rename_i hn
      cases he
      simp only[Bool.and_eq_true,beq_iff_eq]at hn
      have h1:Extern.findNext fn=none:=by unfold Extern.findNext;simp only[hn.1,hn.2,look_next2.1,look_next.2.2];rfl
      have h2:Extern.find fn=some Extern.MathFloatBits.float64bits:=by unfold Extern.find;simp only[hn.1,look_bits.1,look_bits.2.1,look_bits.2.2];rfl
      rw[run_callFunc_extern hf (by rw[hn.1];decide) hb h1 h2]
      have k:∃ b,vs=[.lit (.float .f64 b)]∧K (.lit (.int .u64 b)):=by
       unfold vS at k;split at k<;>first|contradiction|exact⟨_,rfl,k⟩|exact k.elim
      obtain⟨b,rfl,k⟩:=k
      obtain⟨a,hx,ha⟩:=hr.single
      simp only[Rep]at ha
      have:xs=#[a]:=by apply Array.toList_inj.1;simpa using hx
      rw[this,ha.1]
      exact⟨_,_,rfl,by simp[Rep,Value.oneCell'],k⟩
     ·split at he
      ·rename_i hn
       cases he
       simp only[Bool.and_eq_true,beq_iff_eq]at hn
       have h1:Extern.findNext fn=none:=by unfold Extern.findNext;simp only[hn.1,hn.2,look_next2.2,look_next.2.2];rfl
       have h2:Extern.find fn=some Extern.MathFloatBits.float64frombits:=by unfold Extern.find;simp only[hn.1,look_frombits.1,look_frombits.2.1,look_frombits.2.2];rfl
       rw[run_callFunc_extern hf (by rw[hn.1];decide) hb h1 h2]
       have k:∃ n,vs=[.lit (.int .u64 n)]∧K (.lit (.float .f64 n.toNat)):=by
        unfold vS at k;split at k<;>first|contradiction|exact⟨_,rfl,k⟩|exact k.elim
       obtain⟨n,rfl,k⟩:=k
       obtain⟨a,hx,ha⟩:=hr.single
       simp only[Rep]at ha
       have:xs=#[a]:=by apply Array.toList_inj.1;simpa using hx
       rw[this,ha.1]
       exact⟨_,_,rfl,by simp[Rep,Value.oneCell'],k⟩
      ·cases he
  ·cases he
 ·cases he
def isX (P:Program):Op→Bool
 | .call c=>match c.callee with
   | .value (.func f)=>(Il P f).isSome
   | .builtin .copy=>true
   | .builtin .clear=>true
   | _=>false
 | .indexAddr _ (.global _) _=>true
 | .load _ (.global _)=>true
 | _=>false
def Pb:Op→Bool
 | .call c=>match c.callee with
   | .value (.func _)=>true
   | _=>false
 | .indexAddr _ (.global _) _=>true
 | .load _ (.global _)=>true
 | _=>false
def Bw (P:Program) (ts:Array TypeId) (K:Value→TypeInfo→Prop):Prop:=
 match ts.toList with
 | t::_=>(match P.underlying t with
   | some (.slice e)=>(match P.info? e with
     | some i=>(match i.zero with|some z=>if okV z=true then K z i else False|none=>False)
     | none=>False)
   | _=>False)
 | _=>False
theorem zN {ts:Array TypeId}{K:Value→TypeInfo→Prop}(k:Bw P ts K):∃ t e i z,ts[0]?=some t∧P.underlying t=some (.slice e)∧P.info? e=some i∧i.zero=some z∧okV z=true∧K z i:=by
 unfold Bw at k
 split at k
 ·rename_i t rest ht
  split at k
  ·split at k
   ·split at k
    ·split at k
     ·refine⟨t,_,_,_,?_,by assumption,by assumption,by assumption,by assumption,k⟩
      rw[← Array.getElem?_toList,ht];rfl
     ·exact k.elim
    ·exact k.elim
   ·exact k.elim
  ·exact k.elim
 ·exact k.elim
theorem DE {ts:Array TypeId}{K K':Value→TypeInfo→Prop}(hk:∀ z i,K z i→K' z i) (k:Bw P ts K):Bw P ts K':=by
 unfold Bw at *
 split at k
 ·split at k
  ·split at k
   ·split at k
    ·split at k
     ·rename_i h;rw[if_pos h];exact hk _ _ k
     ·exact k.elim
    ·exact k.elim
   ·exact k.elim
  ·exact k.elim
 ·exact k.elim
def tS (P:Program) (env:Env) (h:ab) (o:Oper) (K:QT):Prop:=
 match o.op with
 | .call c=>match c.callee with
   | .value (.func f)=>dH (i3 env c.args.toList) fun vs=>(match Il P f with|some e=>OY e vs fun r=>K r h|none=>False)
   | .builtin .copy=>dH (i3 env c.args.toList) fun vs=>Bw P c.argTypes fun _ i=>(match vs with|[v,x]=>UP i.size v x h K|_=>False)
   | .builtin .clear=>dH (i3 env c.args.toList) fun vs=>Bw P c.argTypes fun z i=>(match vs with|[v]=>TL i.size (ofV z) v h fun h'=>K (.tup []) h'|_=>False)
   | _=>False
 | .indexAddr t (.global g) i=>(match Tabs.tab g with
   | some cs=>bO (opv env i) fun iv=>d6 P t (.cptr cs) iv fun r=>K r h
   | none=>False)
 | .load t (.global g)=>(match Tabs.tab g with
   | some cs=>iZ P t (.cptr cs) h fun r=>K r h
   | none=>False)
 | _=>False
def aop (P:Program) (env:Env) (h:ab) (o:Oper) (K:QT):Prop:=if isX P o.op=true then tS P env h o K else tn P env h o K
theorem Lz (s:Sim G h w) {g:Nat}{cs:List AV}(hg:Tabs.tab g=some cs) (a:Act):Rep G (.cptr cs) (a.eval (.global g)):=by
 simp only[Act.eval,Rep]
 exact⟨g,0,rfl,Tabs.tab_ok G g cs s.tab hg⟩
theorem ST (s:Sim G h w) {env:Env}{a:Act}(r:EnvRep G env a.tmps) {o:Oper}{K:QT}(k:tS P env h o K):UpV P (N0 G h w K) ((execOp a.eval o).run P w):=by
 obtain⟨dst,op,ty,pos,after,guard⟩:=o
 cases op<;>simp only[tS]at k<;>try exact k.elim
 case call c=>
  obtain⟨callee,args,argTypes⟩:=c
  simp only at k
  split at k
  ·rename_i f
   obtain⟨vs,h1,k⟩:=de k
   split at k
   ·rename_i e he
    have hr:=hB r h1
    obtain⟨rr,v,q1,q2,q3⟩:=R9 (w:=w) (xs:=args.map a.eval) he (by simpa using hr) k.out
    simp only[execOp,resolve,Deferred.ofValue,Act.eval,Sem.run_bind,Sem.run_pure,Result.andThen_ok,invoke,Array.append_empty,Array.empty_append]
    rw[q1]
    exact⟨rr,h,G,q2,q3,s,Evo.refl _ _ _⟩
   ·exact k.elim
  ·obtain⟨vs,h1,k⟩:=de k
   obtain⟨t,e,i,z,ht0,ht,hi,hz,hzo,k2⟩:=zN k
   have hr:=hB r h1
   clear k
   split at k2
   ·rename_i v u
    obtain⟨x,y,hx,hx2,hx3⟩:=(show RepL G [v,u] (args.map a.eval).toList by simpa using hr).two
    have hargs:args.map a.eval=#[x,y]:=by apply Array.toList_inj.1;simpa using hx
    obtain⟨r',v',h',G',w',q1,q2,q3,q4,q5⟩:=PU (ty:=ty) s ht0 ht hi hx2 hx3 k2.out
    simp only[execOp,resolve,Sem.run_bind,Sem.run_pure,Result.andThen_ok,invoke,builtin,hargs,q1]
    exact⟨r',h',G',q2,q3,q4,q5⟩
   ·exact k2.elim
  ·obtain⟨vs,h1,k⟩:=de k
   obtain⟨t,e,i,z,ht0,ht,hi,hz,hzo,k2⟩:=zN k
   have hr:=hB r h1
   clear k
   split at k2
   ·rename_i v
    obtain⟨x,hx,hx2⟩:=(show RepL G [v] (args.map a.eval).toList by simpa using hr).single
    have hargs:args.map a.eval=#[x]:=by apply Array.toList_inj.1;simpa using hx
    obtain⟨r',v',h',G',w',q1,q2,⟨rfl,q3⟩,q4,q5⟩:=Og (ty:=ty) s ht0 ht hi hz hx2 (oB G z hzo) k2.out
    simp only[execOp,resolve,Sem.run_bind,Sem.run_pure,Result.andThen_ok,invoke,builtin,hargs,q1]
    exact⟨_,h',G',q2,q3,q4,q5⟩
   ·exact k2.elim
  ·exact k.elim
 case indexAddr t x i=>
  cases x<;>simp only at k<;>try exact k.elim
  split at k
  ·rename_i cs hg
   obtain⟨iv,h1,k⟩:=ar k
   have hx:=Lz s hg a
   unfold d6 at k
   split at k
   ·split at k
    ·exact bc s (uS ‹_› ‹_› hx (aL r h1) k.out)
    ·exact k.elim
   ·split at k
    ·exact bc s (tD ‹_› ‹_› hx (aL r h1) k.out)
    ·exact k.elim
   ·exact k.elim
  ·exact k.elim
 case load t x=>
  cases x<;>simp only at k<;>try exact k.elim
  split at k
  ·rename_i cs hg
   have hx:=Lz s hg a
   unfold iZ at k
   split at k
   ·split at k
    ·exact bc s (xW s ‹_› ‹_› ‹_› hx k.out)
    ·rename_i hd;exact bc s (xS s ‹_› (by simpa using hd) hx k.out)
   ·exact k.elim
  ·exact k.elim
theorem Oo {env:Env}{h:ab}{o:Oper}{K K':QT}(hk:∀ v h,K v h→K' v h) (k:tS P env h o K):tS P env h o K':=by
 obtain⟨dst,op,ty,pos,after,guard⟩:=o
 cases op<;>simp only[tS]at k ⊢<;>try exact k.elim
 case call c=>
  split at k
  ·refine eC (fun _ k=>?_) _ k
   split at k
   ·exact⟨xp (fun r k=>hk r h k) k.out⟩
   ·exact k.elim
  ·refine eC (fun _ k=>DE (fun z i k=>?_) k) _ k
   split at k
   ·exact⟨Kj hk k.out⟩
   ·exact k.elim
  ·refine eC (fun _ k=>DE (fun z i k=>?_) k) _ k
   split at k
   ·exact⟨H8 (fun h k=>hk _ h k) k.out⟩
   ·exact k.elim
  ·exact k.elim
 case indexAddr t x i=>
  cases x<;>simp only at k ⊢<;>try exact k.elim
  split at k
  ·refine bj (fun _ k=>?_) _ k
   unfold d6 at *
   (repeat' split at k)<;>first
    | exact k.elim
    | exact gq (fun r k=>hk r h k) _ _ _ k
    | exact en (fun r k=>hk r h k) _ _ _ _ k
  ·exact k.elim
 case load t x=>
  cases x<;>simp only at k ⊢<;>try exact k.elim
  split at k
  ·unfold iZ at *
   split at k
   ·split at k
    ·rename_i hd;rw[if_pos hd];exact fU (fun r k=>hk r h k) _ _ _ k
    ·rename_i hd;rw[if_neg hd];exact fR (fun r k=>hk r h k) _ _ k
   ·exact k.elim
  ·exact k.elim
theorem Rl (s:Sim G h w) {env:Env}{a:Act}(r:EnvRep G env a.tmps) {o:Oper}{K:QT}(k:aop P env h o K):UpV P (N0 G h w K) ((execOp a.eval o).run P w):=by
 unfold aop at k
 split at k
 ·exact ST s r k
 ·exact S6 s r k
theorem iX {env:Env}{h:ab}{o:Oper}{K K':QT}(hk:∀ v h,K v h→K' v h) (k:aop P env h o K):aop P env h o K':=by
 unfold aop at *
 split at k
 ·rename_i hn;rw[if_pos hn];exact Oo hk k
 ·rename_i hn;rw[if_neg hn];exact Ny hk k
end
end
section
variable [Tabs]
section
variable {P:Program}{G:Gh}{h:ab}{w:World}{n:Nat}
def putD (env:Env) (d:Option Tmp) (v:AV):Env:=match d with|some d=>(d,v)::env|none=>env
def eL (n:Nat) (d:Option Tmp):Bool:=match d with|some d=>decide (d<n)|none=>true
theorem EnvRep.putD {env:Env}{a:Act}(r:EnvRep G env a.tmps) {d:Option Tmp}(hd:eL a.tmps.size d=true) {v:AV}{x:Value}(hx:Rep G v x):EnvRep G (putD env d v) (a.put d x).tmps:=by
 cases d with
 | none=>exact r
 | some d=>exact r.put (by simpa [eL] using hd) hx
theorem put_size (a:Act) (d:Option Tmp) (x:Value):(a.put d x).tmps.size=a.tmps.size:=by cases d<;>simp[Act.put]
theorem put_defers (a:Act) (d:Option Tmp) (x:Value):(a.put d x).defers=a.defers:=by cases d<;>simp[Act.put]
def ni (P:Program) (n:Nat) (env:Env) (h:ab) (o:Oper) (K:Env→ab→Prop):Prop:=
 if eL n o.dst=true then aop P env h o fun v h'=>K (putD env o.dst v) h' else False
def ifT (v:AV) (X Y Z:Prop):Prop:=match v with|.tup []=>Z|_=>ifB v X Y
def ifG (g:Bool) (v:AV) (X Y Z:Prop):Prop:=match g with|true=>ifT v X Y Z|false=>ifB v X Y
def M7 (ops:Array Oper) (j:Nat):Bool:=match ops[j]? with|some o=>o.guard.isSome|none=>false
omit [Tabs] in
theorem DN {v:AV}{X Y:Prop}(k:ifB v X Y):(v=B true∧X)∨(v=B false∧Y):=by
 unfold ifB at k;split at k
 ·exact .inl ⟨rfl,k⟩
 ·exact .inr ⟨rfl,k⟩
 ·exact k.elim
omit [Tabs] in
theorem Ez {g:Bool}{v:AV}{X Y Z:Prop}(k:ifG g v X Y Z):(v=B true∧X)∨(v=B false∧Y)∨(v=.tup []∧Z):=by
 unfold ifG at k;split at k
 ·unfold ifT at k;split at k
  ·exact .inr (.inr ⟨rfl,k⟩)
  ·exact (DN k).elim .inl fun h=>.inr (.inl h)
 ·exact (DN k).elim .inl fun h=>.inr (.inl h)
theorem IU {g:Bool}{v:AV}{X Y Z X' Y' Z':Prop}(hx:X→X') (hy:Y→Y') (hz:Z→Z') (k:ifG g v X Y Z):ifG g v X' Y' Z':=by
 unfold ifG at *
 split at k
 ·unfold ifT at *;split at k
  ·exact hz k
  ·exact wj hx hy k
 ·exact wj hx hy k
omit [Tabs] in
theorem Mm {g:Bool}{X Y Z:Prop}(k:X):ifG g (B true) X Y Z:=by cases g<;>exact k
omit [Tabs] in
theorem Md {g:Bool}{X Y Z:Prop}(k:Y):ifG g (B false) X Y Z:=by cases g<;>exact k
def hH (P:Program) (n:Nat) (ops:Array Oper):List Nat→Env→ab→(Env→ab→Prop)→Prop
 | [],env,h,K=>K env h
 | i::rest,env,h,K=>match ops[i]? with
   | none=>False
   | some o=>match o.guard with
     | none=>ni P n env h o fun env' h'=>hH P n ops rest env' h' K
     | some (j,want)=>match (ops[j]?).bind (·.dst) with
       | none=>False
       | some s=>bO (get env s) fun v=>
         ifG (M7 ops j) v
          (if want=true then ni P n ((s,B true)::env) h o fun env' h'=>hH P n ops rest env' h' K
           else if eL n o.dst=true then hH P n ops rest (putD ((s,B true)::env) o.dst (.tup [])) h K else False)
          (if want=true then (if eL n o.dst=true then hH P n ops rest (putD ((s,B false)::env) o.dst (.tup [])) h K else False)
           else ni P n ((s,B false)::env) h o fun env' h'=>hH P n ops rest env' h' K)
          (if eL n o.dst=true then hH P n ops rest (putD ((s,.tup [])::env) o.dst (.tup [])) h K else False)
def z6 (G:Gh) (h:ab) (w:World) (n:Nat) (D:List Deferred) (K:Env→ab→Prop) (a:Act) (w':World):Prop:=
 ∃ env' h' G',K env' h'∧Sim G' h' w'∧Evo G h w G' h' w'∧EnvRep G' env' a.tmps∧a.tmps.size=n∧a.defers=D
theorem It {o:Oper}{env:Env}{K:Env→ab→Prop}{a:Act}{Q:Exit→Act→World→Prop}{next:Act→World→Prop}(s:Sim G h w) (hn:a.tmps.size=n) (r:EnvRep G env a.tmps) (k:ni P n env h o K)
  (hnext:∀ a' w',z6 G h w n a.defers K a' w'→next a' w'):o.wp P a w next Q:=by
 unfold ni at k
 split at k
 ·rename_i hd
  unfold Oper.wp
  refine yN ?_
  have:=Rl s r k
  unfold UpV at this ⊢
  have conv:∀ v w',N0 G h w (fun v h'=>K (putD env o.dst v) h') v w'→next (a.put o.dst v) w':=fun v w' ⟨rr,h',G',q1,q2,q3,q4⟩=>by
   refine hnext _ _ ⟨_,h',G',q2,q3,q4,(r.mono q4.le).putD (by rw[hn];exact hd) q1,by rw[put_size,hn],put_defers _ _ _⟩
  split at this
  ·exact conv _ _ this
  ·exact conv _ _ this
  ·exact Calls.mono this fun e w'' ⟨v,he,hv⟩=>⟨v,he,conv _ _ hv⟩
  ·exact this.elim
 ·exact k.elim
theorem sW {env:Env}{tmps:Array Value}(r:EnvRep G env tmps) {s:Nat}{v:AV}(h:get env s=some v):EnvRep G ((s,v)::env) tmps:=fun k a e=>by
 simp only[get]at e
 split at e
 ·rename_i hk;subst hk;cases e;exact r _ _ h
 ·exact r k a e
theorem rm {ops:Array Oper}{o:Oper}{j:Nat}{want b:Bool}{s:Nat}{env:Env}{a:Act}(hg:o.guard=some (j,want)) (hs:(ops[j]?).bind (·.dst)=some s) (r:EnvRep G env a.tmps) (hv:get env s=some (B b)):
  Region.wanted o (yielded ops a.tmps)=(b==want):=by
 obtain⟨x,h1,h2⟩:=r s _ hv
 simp only[Rep]at h2
 obtain⟨rfl,_⟩:=h2
 have hy:yielded ops a.tmps j=some b:=by
  unfold yielded
  simp only[hs]
  simp[Array.getD_eq_getD_getElem?,h1]
 simp only[Region.wanted,hg,hy]
 cases b<;>cases want<;>rfl
theorem wa {ops:Array Oper}{o:Oper}{j:Nat}{want:Bool}{s:Nat}{env:Env}{a:Act}(hg:o.guard=some (j,want)) (hs:(ops[j]?).bind (·.dst)=some s) (r:EnvRep G env a.tmps) (hv:get env s=some (.tup [])):
  Region.wanted o (yielded ops a.tmps)=false:=by
 obtain⟨x,h1,h2⟩:=r s _ hv
 simp only[Rep]at h2
 obtain⟨vs,rfl,h3⟩:=h2
 have hy:yielded ops a.tmps j=none:=by
  unfold yielded
  simp only[hs]
  simp[Array.getD_eq_getD_getElem?,h1]
 simp only[Region.wanted,hg,hy]
 rfl
theorem BB (ops:Array Oper) (Q:Exit→Act→World→Prop):∀ (l:List Nat) (env:Env) (h:ab) (G:Gh) (w:World) (a:Act) (K:Env→ab→Prop),Sim G h w→a.tmps.size=n→EnvRep G env a.tmps→hH P n ops l env h K→
  (∀ a' w',z6 G h w n a.defers K a' w'→Q .normal a' w')→wpOps P ops Q l a w
 | [],env,h,G,w,a,K,s,hn,r,k,hq=>hq a w ⟨env,h,G,k,s,Evo.refl _ _ _,r,hn,rfl⟩
 | i::rest,env,h,G,w,a,K,s,hn,r,k,hq=>by
   unfold hH at k
   unfold wpOps
   split at k
   ·exact k.elim
   ·rename_i o ho
    simp only[ho]
    have go:∀ {env:Env},EnvRep G env a.tmps→ni P n env h o (fun env' h'=>hH P n ops rest env' h' K)→o.wp P a w (wpOps P ops Q rest) Q:=fun r k=>
     It s hn r k fun a' w' ⟨env',h',G',q1,q2,q3,q4,q5,q6⟩=>
      BB ops Q rest env' h' G' w' a' K q2 q5 q4 q1 fun a2 w2 ⟨env2,h2,G2,p1,p2,p3,p4,p5,p6⟩=>hq a2 w2 ⟨env2,h2,G2,p1,p2,q3.trans p3,p4,p5,p6.trans q6⟩
    have skip:∀ {env:Env},EnvRep G env a.tmps→eL n o.dst=true→hH P n ops rest (putD env o.dst (.tup [])) h K→wpOps P ops Q rest (a.put o.dst undef) w:=fun r hd k=>
     BB ops Q rest _ h G w _ K s (by rw[put_size,hn]) (r.putD (by rw[hn];exact hd) (by simp[Rep,RepL,undef])) k fun a2 w2 p=>hq a2 w2 (by rwa [put_defers]at p)
    split at k
    ·rename_i hg
     have:Region.wanted o (yielded ops a.tmps)=true:=by simp[Region.wanted,hg]
     rw[if_pos this]
     exact .inl (go r k)
    ·rename_i j want hg
     split at k
     ·exact k.elim
     ·rename_i sl hsl
      obtain⟨v,hv,k⟩:=ar k
      replace k:=Ez k
      rcases k with ⟨rfl,k⟩|⟨rfl,k⟩|⟨rfl,k⟩
      ·have r':=sW r hv
       have hw:=rm hg hsl r hv
       rw[hw]
       cases want
       ·simp only[Bool.false_eq_true,if_false]at k
        rw[if_neg (by simp)]
        split at k
        ·exact skip r' ‹_› k
        ·exact k.elim
       ·simp only[if_true]at k
        rw[if_pos (by simp)]
        exact .inl (go r' k)
      ·have r':=sW r hv
       have hw:=rm hg hsl r hv
       rw[hw]
       cases want
       ·simp only[Bool.false_eq_true,if_false]at k
        rw[if_pos (by simp)]
        exact .inl (go r' k)
       ·simp only[if_true]at k
        rw[if_neg (by simp)]
        split at k
        ·exact skip r' ‹_› k
        ·exact k.elim
      ·have r':=sW r hv
       rw[wa hg hsl r hv]
       rw[if_neg (by simp)]
       split at k
       ·exact skip r' ‹_› k
       ·exact k.elim
theorem BG {id:Nat}{ops:Array Oper}{env:Env}{K:Exit→Env→ab→Prop}(k:hH P n ops (List.range ops.size) env h fun env' h'=>K .normal env' h'):AWp P n (.region id ops false) env h K:=
 fun G w a s hn r=>wp_region (BB ops _ _ env h G w a _ s hn r k fun a' w' p=>p)
theorem Iq {c:Operand}{x y:Code}{env:Env}{K:Exit→Env→ab→Prop}(k:bO (opv env c) fun v=>ifB v (AWp P n x env h K) (AWp P n y env h K)):AWp P n (.cond c x y) env h K:=by
 intro G w a s hn r
 obtain⟨v,hv,k⟩:=ar k
 have hr:=aL r hv
 unfold ifB at k
 split at k
 ·simp only[Rep]at hr
  exact wp_cond_true hr.1 (k G w a s hn r)
 ·simp only[Rep]at hr
  exact wp_cond_false hr.1 (k G w a s hn r)
 ·exact k.elim
def c7:Code→List Nat
 | .region _ ops _=>ops.toList.filterMap (·.dst)
 | .seq a b=>c7 a++c7 b
 | .cond _ a b=>c7 a++c7 b
 | .block _ b=>c7 b
 | .loop b=>c7 b
 | .scope b=>c7 b
 | .rangeFunc _ _ a b=>c7 a++c7 b
 | _=>[]
def wX (o:Oper):List Nat:=o.op.operands.toList.filterMap fun|.tmp t=>some t|_=>none
def Tt:List Nat→List Nat
 | []=>[]
 | x::xs=>if xs.contains x then Tt xs else x::Tt xs
def zH (env:Env):List Nat→Option (List AV)
 | []=>some []
 | s::l=>match get env s,zH env l with
   | some v,some vs=>some (v::vs)
   | _,_=>none
def gJ (ws:List Nat) (env:Env):Env:=env.filter fun p=>!ws.contains p.1
theorem vg {ws:List Nat}:∀ {env:Env}{s:Nat}{a:AV},get (gJ ws env) s=some a→get env s=some a
 | [],s,a,e=>by simp[gJ,get]at e
 | (k,v)::env,s,a,e=>by
   simp only[gJ,List.filter_cons]at e
   split at e
   ·simp only[get]at e ⊢
    split
    ·rename_i hk;rw[if_pos hk]at e;exact e
    ·rename_i hk;rw[if_neg hk]at e;exact vg e
   ·rename_i hc
    have ih:=vg (ws:=ws) (env:=env) (s:=s) (a:=a) e
    simp only[get]
    split
    ·rename_i hk
     subst hk
     exfalso
     have:∀ env:Env,get (gJ ws env) k=none:=fun env=>by
      induction env with
      | nil=>simp[gJ,get]
      | cons p env ih=>
        simp only[gJ,List.filter_cons]
        split
        ·rename_i hp
         simp only[get]
         rw[if_neg (fun e=>by subst e;exact hc hp)]
         exact ih
        ·exact ih
     rw[show env.filter _=gJ ws env from rfl,this]at e
     cases e
    ·exact ih
def af (vs:List AV) (i:Nat):AV:=(vs[i]?).getD default
def kD (vs:List AV):Nat→List Nat→Env
 | _,[]=>[]
 | i,k::ks=>(k,af vs i)::kD vs (i+1) ks
structure bG (vs:List AV) (h:ab) (B:List AV→ab→(NT)→Prop):Prop where
 mk::(out:∃ J:Nat→NT,(∃ k,J k vs h)∧∀ k vs h,J k vs h→B vs h fun vs' h'=>∃ m,m<k∧J m vs' h')
def UL (ws ks:List Nat) (body:Env→ab→(Exit→Env→ab→Prop)→Prop) (env:Env) (h:ab) (K:Exit→Env→ab→Prop):Prop:=
 dH (zH env ks) fun vs0=>bG vs0 h fun vs h next=>body (kD vs 0 ks++gJ ws env) h fun e env' h'=>match e with
  | .normal=>dH (zH env' ks) fun vs'=>next vs' h'
  | e=>K e env' h'
abbrev E9:=List (Nat×List Nat×List Nat)
def n8:Code→Nat
 | .region id _ _=>id+1
 | .seq a b=>match n8 a with|0=>n8 b|k=>k
 | .cond _ a b=>match n8 a with|0=>n8 b|k=>k
 | .block _ b=>n8 b
 | .loop b=>n8 b
 | .scope b=>n8 b
 | _=>0
def Kz:E9→Nat→Option (List Nat×List Nat)
 | [],_=>none
 | (k,p)::r,i=>if k=i then some p else Kz r i
def JY (c:Code) (ws ks:List Nat):Bool:=((c7 c).all ws.contains&&ws.all (c7 c).contains)&&ks.all ws.contains
theorem yq {c:Code}{ws ks:List Nat}(h:JY c ws ks=true):(∀ s,s∈c7 c→s∈ws)∧(∀ s,s∈ws→s∈c7 c)∧∀ s,s∈ks→s∈ws:=by
 simp only[JY,Bool.and_eq_true,List.all_eq_true]at h
 exact⟨fun s hs=>by simpa using h.1.1 s hs,fun s hs=>by simpa using h.1.2 s hs,fun s hs=>by simpa using h.2 s hs⟩
end
end
section
variable [Tabs]
section
variable {P:Program}
theorem PJ {K:AV→Prop}(op:BinOp) (x y:AV) (k:y8 op x y K):∃ v,K v∧y8 op x y fun r=>r=v:=by
 unfold y8 at *
 (repeat' split at k)<;>first|exact k.elim|exact⟨_,k,rfl⟩|exact⟨_,k.2,k.1,rfl⟩|exact⟨_,k.2.2,k.1,k.2.1,rfl⟩|(refine⟨_,k,?_⟩;simp_all;done)|(refine⟨_,k.2,?_⟩;simp_all;done)|(refine⟨_,k.2.2,?_⟩;simp_all;done)
theorem NR {K:AV→Prop}(op:BinOp) (x y:AV) (k:tc op x y K):∃ v,K v∧tc op x y fun r=>r=v:=by
 unfold tc at *
 (repeat' split at k)<;>first|exact k.elim|exact⟨_,k,rfl⟩|exact⟨_,k.2,k.1,rfl⟩|exact⟨_,k.2.2,k.1,k.2.1,rfl⟩|(refine⟨_,k,?_⟩;simp_all;done)|(refine⟨_,k.2,?_⟩;simp_all;done)|(refine⟨_,k.2.2,?_⟩;simp_all;done)
theorem OF {K:AV→Prop}(op:BinOp) (x y:AV) (k:sN op x y K):∃ v,K v∧sN op x y fun r=>r=v:=by
 unfold sN at *
 (repeat' split at k)<;>first|exact k.elim|exact⟨_,k,rfl⟩|exact⟨_,k.2,k.1,rfl⟩|exact⟨_,k.2.2,k.1,k.2.1,rfl⟩|(refine⟨_,k,?_⟩;simp_all;done)|(refine⟨_,k.2,?_⟩;simp_all;done)|(refine⟨_,k.2.2,?_⟩;simp_all;done)
theorem SH {K:AV→Prop}(op:UnOp) (x:AV) (k:pUn op x K):∃ v,K v∧pUn op x fun r=>r=v:=by
 unfold pUn at *
 (repeat' split at k)<;>first|exact k.elim|exact⟨_,k,rfl⟩|exact⟨_,k.2,k.1,rfl⟩|exact⟨_,k.2.2,k.1,k.2.1,rfl⟩|(refine⟨_,k,?_⟩;simp_all;done)|(refine⟨_,k.2,?_⟩;simp_all;done)|(refine⟨_,k.2.2,?_⟩;simp_all;done)
theorem Jf {K:AV→Prop}(d:IntKind) (x:AV) (k:jU d x K):∃ v,K v∧jU d x fun r=>r=v:=by
 unfold jU at *
 (repeat' split at k)<;>first|exact k.elim|exact⟨_,k,rfl⟩|exact⟨_,k.2,k.1,rfl⟩|exact⟨_,k.2.2,k.1,k.2.1,rfl⟩|(refine⟨_,k,?_⟩;simp_all;done)|(refine⟨_,k.2,?_⟩;simp_all;done)|(refine⟨_,k.2.2,?_⟩;simp_all;done)
theorem Hb {K:AV→Prop}(d:FloatKind) (x:AV) (k:j2 d x K):∃ v,K v∧j2 d x fun r=>r=v:=by
 unfold j2 at *
 (repeat' split at k)<;>first|exact k.elim|exact⟨_,k,rfl⟩|exact⟨_,k.2,k.1,rfl⟩|exact⟨_,k.2.2,k.1,k.2.1,rfl⟩|(refine⟨_,k,?_⟩;simp_all;done)|(refine⟨_,k.2,?_⟩;simp_all;done)|(refine⟨_,k.2.2,?_⟩;simp_all;done)
theorem Ij {K:AV→Prop}(x:AV) (k:kA x K):∃ v,K v∧kA x fun r=>r=v:=by
 unfold kA at *
 (repeat' split at k)<;>first|exact k.elim|exact⟨_,k,rfl⟩|exact⟨_,k.2,k.1,rfl⟩|exact⟨_,k.2.2,k.1,k.2.1,rfl⟩|(refine⟨_,k,?_⟩;simp_all;done)|(refine⟨_,k.2,?_⟩;simp_all;done)|(refine⟨_,k.2.2,?_⟩;simp_all;done)
theorem Po {K:AV→Prop}(x:AV) (k:C7 x K):∃ v,K v∧C7 x fun r=>r=v:=by
 unfold C7 at *
 (repeat' split at k)<;>first|exact k.elim|exact⟨_,k,rfl⟩|exact⟨_,k.2,k.1,rfl⟩|exact⟨_,k.2.2,k.1,k.2.1,rfl⟩|(refine⟨_,k,?_⟩;simp_all;done)|(refine⟨_,k.2,?_⟩;simp_all;done)|(refine⟨_,k.2.2,?_⟩;simp_all;done)
theorem Cj {K:AV→Prop}(n:Nat) (x:AV) (k:eu n x K):∃ v,K v∧eu n x fun r=>r=v:=by
 unfold eu at *
 (repeat' split at k)<;>first|exact k.elim|exact⟨_,k,rfl⟩|exact⟨_,k.2,k.1,rfl⟩|exact⟨_,k.2.2,k.1,k.2.1,rfl⟩|(refine⟨_,k,?_⟩;simp_all;done)|(refine⟨_,k.2,?_⟩;simp_all;done)|(refine⟨_,k.2.2,?_⟩;simp_all;done)
theorem KF {K:AV→Prop}(n:Nat) (x:AV) (h:ab) (k:kS n x h K):∃ v,K v∧kS n x h fun r=>r=v:=by
 unfold kS at *
 (repeat' split at k)<;>first|exact k.elim|exact⟨_,k,rfl⟩|exact⟨_,k.2,k.1,rfl⟩|exact⟨_,k.2.2,k.1,k.2.1,rfl⟩|(refine⟨_,k,?_⟩;simp_all;done)|(refine⟨_,k.2,?_⟩;simp_all;done)|(refine⟨_,k.2.2,?_⟩;simp_all;done)
theorem Kd {K:AV→Prop}(x:AV) (h:ab) (k:kP x h K):∃ v,K v∧kP x h fun r=>r=v:=by
 unfold kP at *
 (repeat' split at k)<;>first|exact k.elim|exact⟨_,k,rfl⟩|exact⟨_,k.2,k.1,rfl⟩|exact⟨_,k.2.2,k.1,k.2.1,rfl⟩|(refine⟨_,k,?_⟩;simp_all;done)|(refine⟨_,k.2,?_⟩;simp_all;done)|(refine⟨_,k.2.2,?_⟩;simp_all;done)
theorem KT {K:AV→Prop}(o n:Nat) (x:AV) (k:nq o n x K):∃ v,K v∧nq o n x fun r=>r=v:=by
 unfold nq at *
 (repeat' split at k)<;>first|exact k.elim|exact⟨_,k,rfl⟩|exact⟨_,k.2,k.1,rfl⟩|exact⟨_,k.2.2,k.1,k.2.1,rfl⟩|(refine⟨_,k,?_⟩;simp_all;done)|(refine⟨_,k.2,?_⟩;simp_all;done)|(refine⟨_,k.2.2,?_⟩;simp_all;done)
theorem JW {K:AV→Prop}(o:Nat) (x:AV) (k:m9 o x K):∃ v,K v∧m9 o x fun r=>r=v:=by
 unfold m9 at *
 (repeat' split at k)<;>first|exact k.elim|exact⟨_,k,rfl⟩|exact⟨_,k.2,k.1,rfl⟩|exact⟨_,k.2.2,k.1,k.2.1,rfl⟩|(refine⟨_,k,?_⟩;simp_all;done)|(refine⟨_,k.2,?_⟩;simp_all;done)|(refine⟨_,k.2.2,?_⟩;simp_all;done)
theorem Je {K:AV→Prop}(x i:AV) (k:jg x i K):∃ v,K v∧jg x i fun r=>r=v:=by
 unfold jg at *
 (repeat' split at k)<;>first|exact k.elim|exact⟨_,k,rfl⟩|exact⟨_,k.2,k.1,rfl⟩|exact⟨_,k.2.2,k.1,k.2.1,rfl⟩|(refine⟨_,k,?_⟩;simp_all;done)|(refine⟨_,k.2,?_⟩;simp_all;done)|(refine⟨_,k.2.2,?_⟩;simp_all;done)
theorem AD {K:AV→Prop}(n:Nat) (x i:AV) (k:dB n x i K):∃ v,K v∧dB n x i fun r=>r=v:=by
 unfold dB at *
 (repeat' split at k)<;>first|exact k.elim|exact⟨_,k,rfl⟩|exact⟨_,k.2,k.1,rfl⟩|exact⟨_,k.2.2,k.1,k.2.1,rfl⟩|(refine⟨_,k,?_⟩;simp_all;done)|(refine⟨_,k.2,?_⟩;simp_all;done)|(refine⟨_,k.2.2,?_⟩;simp_all;done)
theorem zq {K:AV→Prop}(m n:Nat) (x i:AV) (k:cT m n x i K):∃ v,K v∧cT m n x i fun r=>r=v:=by
 unfold cT at *
 (repeat' split at k)<;>first|exact k.elim|exact⟨_,k,rfl⟩|exact⟨_,k.2,k.1,rfl⟩|exact⟨_,k.2.2,k.1,k.2.1,rfl⟩|(refine⟨_,k,?_⟩;simp_all;done)|(refine⟨_,k.2,?_⟩;simp_all;done)|(refine⟨_,k.2.2,?_⟩;simp_all;done)
theorem GB {K:AV→Prop}(x:AV) (a b:Option AV) (k:gN x a b K):∃ v,K v∧gN x a b fun r=>r=v:=by
 unfold gN at *
 (repeat' split at k)<;>first|exact k.elim|exact⟨_,k,rfl⟩|exact⟨_,k.2,k.1,rfl⟩|exact⟨_,k.2.2,k.1,k.2.1,rfl⟩|(refine⟨_,k,?_⟩;simp_all;done)|(refine⟨_,k.2,?_⟩;simp_all;done)|(refine⟨_,k.2.2,?_⟩;simp_all;done)
theorem GQ {K:AV→Prop}(n:Nat) (x:AV) (a b:Option AV) (k:gK n x a b K):∃ v,K v∧gK n x a b fun r=>r=v:=by
 unfold gK at *
 (repeat' split at k)<;>first|exact k.elim|exact⟨_,k,rfl⟩|exact⟨_,k.2,k.1,rfl⟩|exact⟨_,k.2.2,k.1,k.2.1,rfl⟩|(refine⟨_,k,?_⟩;simp_all;done)|(refine⟨_,k.2,?_⟩;simp_all;done)|(refine⟨_,k.2.2,?_⟩;simp_all;done)
theorem Hx {K:AV→Prop}(x:AV) (k:jW x K):∃ v,K v∧jW x fun r=>r=v:=by
 unfold jW at *
 (repeat' split at k)<;>first|exact k.elim|exact⟨_,k,rfl⟩|exact⟨_,k.2,k.1,rfl⟩|exact⟨_,k.2.2,k.1,k.2.1,rfl⟩|(refine⟨_,k,?_⟩;simp_all;done)|(refine⟨_,k.2,?_⟩;simp_all;done)|(refine⟨_,k.2.2,?_⟩;simp_all;done)
theorem Oa {K:AV→Prop}(x:AV) (k:vb x K):∃ v,K v∧vb x fun r=>r=v:=by
 unfold vb at *
 (repeat' split at k)<;>first|exact k.elim|exact⟨_,k,rfl⟩|exact⟨_,k.2,k.1,rfl⟩|exact⟨_,k.2.2,k.1,k.2.1,rfl⟩|(refine⟨_,k,?_⟩;simp_all;done)|(refine⟨_,k.2,?_⟩;simp_all;done)|(refine⟨_,k.2.2,?_⟩;simp_all;done)
theorem Nx {K:AV→Prop}(x:AV) (k:uJ x K):∃ v,K v∧uJ x fun r=>r=v:=by
 unfold uJ at *
 (repeat' split at k)<;>first|exact k.elim|exact⟨_,k,rfl⟩|exact⟨_,k.2,k.1,rfl⟩|exact⟨_,k.2.2,k.1,k.2.1,rfl⟩|(refine⟨_,k,?_⟩;simp_all;done)|(refine⟨_,k.2,?_⟩;simp_all;done)|(refine⟨_,k.2.2,?_⟩;simp_all;done)
theorem MM {K:AV→Prop}(x:AV) (h:ab) (k:uH x h K):∃ v,K v∧uH x h fun r=>r=v:=by
 unfold uH at *
 (repeat' split at k)<;>first|exact k.elim|exact⟨_,k,rfl⟩|exact⟨_,k.2,k.1,rfl⟩|exact⟨_,k.2.2,k.1,k.2.1,rfl⟩|(refine⟨_,k,?_⟩;simp_all;done)|(refine⟨_,k.2,?_⟩;simp_all;done)|(refine⟨_,k.2.2,?_⟩;simp_all;done)
theorem EW {K:AV→Prop}(i:Nat) (x:AV) (k:gw i x K):∃ v,K v∧gw i x fun r=>r=v:=by
 unfold gw at *
 (repeat' split at k)<;>first|exact k.elim|exact⟨_,k,rfl⟩|exact⟨_,k.2,k.1,rfl⟩|exact⟨_,k.2.2,k.1,k.2.1,rfl⟩|(refine⟨_,k,?_⟩;simp_all;done)|(refine⟨_,k.2,?_⟩;simp_all;done)|(refine⟨_,k.2.2,?_⟩;simp_all;done)
theorem Ps {K:AV→Prop}(x y:AV) (k:y5 x y K):∃ v,K v∧y5 x y fun r=>r=v:=by
 unfold y5 at *
 split at k
 ·exact⟨_,k,rfl⟩
 ·exact k.elim
theorem Rs {K:AV→Prop}(x y:AV) (k:zu x y K):∃ v,K v∧zu x y fun r=>r=v:=by
 unfold zu at *
 split at k
 ·exact⟨_,k,rfl⟩
 ·exact k.elim
theorem J6 {K:AV→Prop}(z:List AV) (ps:List (Nat×Nat×AV)) (k:mj z ps K):∃ v,K v∧mj z ps fun r=>r=v:=by
 unfold mj at *
 (repeat' split at k)<;>first|exact k.elim|exact⟨_,k,rfl⟩|exact⟨_,k.2,k.1,rfl⟩|exact⟨_,k.2.2,k.1,k.2.1,rfl⟩|(refine⟨_,k,?_⟩;simp_all;done)|(refine⟨_,k.2,?_⟩;simp_all;done)|(refine⟨_,k.2.2,?_⟩;simp_all;done)
theorem JA {K:AV→Prop}(t:TypeId) (x:AV) (k:yc t x K):∃ v,K v∧yc t x fun r=>r=v:=⟨_,k,rfl⟩
theorem zC {K:AV→Prop}(n m:Nat) (vs:List AV) (k:fQ n m vs K):∃ v,K v∧fQ n m vs fun r=>r=v:=⟨_,k.2,k.1,rfl⟩
theorem P2 {K:AV→Prop}(op:BinOp) (x y:AV) (k:ah op x y K):∃ v,K v∧ah op x y fun r=>r=v:=let ⟨v,h1,h2⟩:=PJ op x y k.out;⟨v,h1,⟨h2⟩⟩
theorem Oj {K:AV→Prop}(op:BinOp) (x y:AV) (k:DB op x y K):∃ v,K v∧DB op x y fun r=>r=v:=let ⟨v,h1,h2⟩:=NR op x y k.out;⟨v,h1,⟨h2⟩⟩
theorem OO {K:AV→Prop}(op:BinOp) (x y:AV) (k:Eh op x y K):∃ v,K v∧Eh op x y fun r=>r=v:=let ⟨v,h1,h2⟩:=OF op x y k.out;⟨v,h1,⟨h2⟩⟩
theorem Sq {K:AV→Prop}(op:UnOp) (x:AV) (k:qUn op x K):∃ v,K v∧qUn op x fun r=>r=v:=let ⟨v,h1,h2⟩:=SH op x k.out;⟨v,h1,⟨h2⟩⟩
theorem H7 {K:AV→Prop}(d:IntKind) (x:AV) (k:cz d x K):∃ v,K v∧cz d x fun r=>r=v:=let ⟨v,h1,h2⟩:=Jf d x k.out;⟨v,h1,⟨h2⟩⟩
theorem IR {K:AV→Prop}(d:FloatKind) (x:AV) (k:oo d x K):∃ v,K v∧oo d x fun r=>r=v:=let ⟨v,h1,h2⟩:=Hb d x k.out;⟨v,h1,⟨h2⟩⟩
theorem H3 {K:AV→Prop}(x:AV) (k:t0 x K):∃ v,K v∧t0 x fun r=>r=v:=let ⟨v,h1,h2⟩:=Ij x k.out;⟨v,h1,⟨h2⟩⟩
theorem Pm {K:AV→Prop}(x:AV) (k:aJ x K):∃ v,K v∧aJ x fun r=>r=v:=let ⟨v,h1,h2⟩:=Po x k.out;⟨v,h1,⟨h2⟩⟩
theorem Bk {K:AV→Prop}(n:Nat) (x:AV) (k:ae n x K):∃ v,K v∧ae n x fun r=>r=v:=let ⟨v,h1,h2⟩:=Cj n x k.out;⟨v,h1,⟨h2⟩⟩
theorem A8 {K:AV→Prop}(n:Nat) (x:AV) (h:ab) (k:aD n x h K):∃ v,K v∧aD n x h fun r=>r=v:=let ⟨v,h1,h2⟩:=KF n x h k.out;⟨v,h1,⟨h2⟩⟩
theorem AM {K:AV→Prop}(x:AV) (h:ab) (k:ai x h K):∃ v,K v∧ai x h fun r=>r=v:=let ⟨v,h1,h2⟩:=Kd x h k.out;⟨v,h1,⟨h2⟩⟩
theorem JG {K:AV→Prop}(o n:Nat) (x:AV) (k:xB o n x K):∃ v,K v∧xB o n x fun r=>r=v:=let ⟨v,h1,h2⟩:=KT o n x k.out;⟨v,h1,⟨h2⟩⟩
theorem JE {K:AV→Prop}(o:Nat) (x:AV) (k:xZ o x K):∃ v,K v∧xZ o x fun r=>r=v:=let ⟨v,h1,h2⟩:=JW o x k.out;⟨v,h1,⟨h2⟩⟩
theorem HS {K:AV→Prop}(x i:AV) (k:aV x i K):∃ v,K v∧aV x i fun r=>r=v:=let ⟨v,h1,h2⟩:=Je x i k.out;⟨v,h1,⟨h2⟩⟩
theorem sF {K:AV→Prop}(n:Nat) (x i:AV) (k:ao n x i K):∃ v,K v∧ao n x i fun r=>r=v:=let ⟨v,h1,h2⟩:=AD n x i k.out;⟨v,h1,⟨h2⟩⟩
theorem rt {K:AV→Prop}(m n:Nat) (x i:AV) (k:dN m n x i K):∃ v,K v∧dN m n x i fun r=>r=v:=let ⟨v,h1,h2⟩:=zq m n x i k.out;⟨v,h1,⟨h2⟩⟩
theorem Jg {K:AV→Prop}(x:AV) (a b:Option AV) (k:aM x a b K):∃ v,K v∧aM x a b fun r=>r=v:=let ⟨v,h1,h2⟩:=GB x a b k.out;⟨v,h1,⟨h2⟩⟩
theorem HX {K:AV→Prop}(n:Nat) (x:AV) (a b:Option AV) (k:lC n x a b K):∃ v,K v∧lC n x a b fun r=>r=v:=let ⟨v,h1,h2⟩:=GQ n x a b k.out;⟨v,h1,⟨h2⟩⟩
theorem Jh {K:AV→Prop}(x:AV) (k:wG x K):∃ v,K v∧wG x fun r=>r=v:=let ⟨v,h1,h2⟩:=Hx x k.out;⟨v,h1,⟨h2⟩⟩
theorem NI {K:AV→Prop}(x:AV) (k:bZ x K):∃ v,K v∧bZ x fun r=>r=v:=let ⟨v,h1,h2⟩:=Oa x k.out;⟨v,h1,⟨h2⟩⟩
theorem Nf {K:AV→Prop}(x:AV) (k:bh x K):∃ v,K v∧bh x fun r=>r=v:=let ⟨v,h1,h2⟩:=Nx x k.out;⟨v,h1,⟨h2⟩⟩
theorem NK {K:AV→Prop}(x:AV) (h:ab) (k:D5 x h K):∃ v,K v∧D5 x h fun r=>r=v:=let ⟨v,h1,h2⟩:=MM x h k.out;⟨v,h1,⟨h2⟩⟩
theorem EH {K:AV→Prop}(i:Nat) (x:AV) (k:am i x K):∃ v,K v∧am i x fun r=>r=v:=let ⟨v,h1,h2⟩:=EW i x k.out;⟨v,h1,⟨h2⟩⟩
theorem QB {K:AV→Prop}(x y:AV) (k:x3 x y K):∃ v,K v∧x3 x y fun r=>r=v:=let ⟨v,h1,h2⟩:=Ps x y k.out;⟨v,h1,⟨h2⟩⟩
theorem Ph {K:AV→Prop}(x y:AV) (k:BE x y K):∃ v,K v∧BE x y fun r=>r=v:=let ⟨v,h1,h2⟩:=Rs x y k.out;⟨v,h1,⟨h2⟩⟩
theorem JB {K:AV→Prop}(z:List AV) (ps:List (Nat×Nat×AV)) (k:au z ps K):∃ v,K v∧au z ps fun r=>r=v:=let ⟨v,h1,h2⟩:=J6 z ps k.out;⟨v,h1,⟨h2⟩⟩
theorem J3 {K:AV→Prop}(t:TypeId) (x:AV) (k:tJ t x K):∃ v,K v∧tJ t x fun r=>r=v:=let ⟨v,h1,h2⟩:=JA t x k.out;⟨v,h1,⟨h2⟩⟩
theorem zt {K:AV→Prop}(n m:Nat) (vs:List AV) (k:ap n m vs K):∃ v,K v∧ap n m vs fun r=>r=v:=let ⟨v,h1,h2⟩:=zC n m vs k.out;⟨v,h1,⟨h2⟩⟩
