import Derived.Test.YtbhphjpgjgigpaaGreatDoorSJP
import Derived.Test.YtbhphjpgjgigpaaGreatDoorSGP
import Derived.Test.YtbhphjpgjgigpaaGreatDoorFLtoPAC
import Derived.Test.YtbhphjpgjgigpaaGreatDoorAL32toAL34
import Derived.Test.YtbhphjpgjgigpaaGreatDoorTie
import Derived.Test.YtbhphjpgjgigpaaGreatDoorCards
import Derived.LaidMore
import Derived.Lay
import Derived.Stop.Joined
import Derived.JoinedOf
import Derived.Carry
import Derived.ChangeMaps5
set_option linter.all false
set_option autoImplicit true
set_option relaxedAutoImplicit true
set_option maxRecDepth 100000
set_option maxHeartbeats 0
namespace Go.Proofs.YtbhphjpgjgigpaaGreatDoor
open Go Go.Proofs.YtbhphjpgjgigpaaGreatDoor.AL Go.RowKit Go.ChangeShapes Go.WideShapes Go.ChangeAt
theorem i64_in {a:Int}(h:(Lit.int .i64 a).wf=true):-9223372036854775808≤a∧a≤9223372036854775807:=by
 simp only[Lit.wf,Bool.and_eq_true,decide_eq_true_eq]at h
 exact h
theorem Kq (os:Os) (started:os.Started) (H:Type) (enc:TypeId×Value→H):
  ReturnsInHanded {} Tryz.checked os 4 .any (fun w args=>(Rows.asmPartsSpec.pre enc Tryz.prog Tryz.f4 [] false w args∧laidMetH Tryz.prog theLaid w)∧sizedMet enc Tryz.prog Tryz.f4 (OpenSpec.ofChange Rows.asmPartsSpec) false w args)
   (Rows.asmPartsSpec.post enc Tryz.prog Tryz.f4 false true false false):=by
 refine Cr (C:=Tryz.checked) (X:=fun w _=>laidMetH Tryz.prog theLaid w) (fun _ _ _ hh h=>h.of_heap hh) own started (by kernel_rfl) Tryz.func4
  (ChangeSpec.witness_shaped (enc:=enc) (C:=Tryz.checked) (os:=os) (X:=fun w _=>laidMetH Tryz.prog theLaid w) false (World.laidAll Tryz.prog os theLaid) #[.slice none 0 0,.slice none 0 0,.int .i64 0] 8 (World.laidAll_os _ _ _)
   (World.shaped_of_ZipB (by kernel_rfl) (by kernel_rfl)) (by kernel_rfl) (by kernel_rfl) (by kernel_rfl) (FL os _)) ?_
 intro W base args ds gs before hval0 hW hz hL hS
 have hval:∀ (j:Nat) t v,Tryz.f4.params[j]?=some t→args[j]?=some v→Value.okWide Tryz.prog W .any base t v:=hval0
 have hW':=hW
 obtain⟨p,q,hA0,hV,rfl,_,_⟩:=hW
 have hA:DataW.TrodAll enc Tryz.prog W 0 (fun _=>true) true Tryz.f4.params.toList args.toList ds p:=hA0
 rw[Tryz.params4]at hA hval hz
 obtain⟨v0,v1,v2,d0,d1,d2,p0,p1,p2,rfl,rfl,rfl,h0,h1,h2⟩:=trodAll_three hA
 obtain⟨rfl,rfl⟩:=trodVars_none hV
 letI TT:=TC (Lo [])
 obtain⟨a0,w0,z0,r0⟩:=DH (k:=.i64) Tryz.underlying23 Tryz.underlying3 (by kernel_rfl) (hval 0 23 v0 rfl rfl) h0
 obtain⟨a1,w1,z1,r1⟩:=DH (k:=.i64) Tryz.underlying23 Tryz.underlying3 (by kernel_rfl) (hval 1 23 v1 rfl rfl) h1
 obtain⟨a2,rfl,rfl,rfl,w2⟩:=open_int Tryz.underlying3 (hval 2 3 v2 rfl rfl) h2
 have c:ACall Pg 4 [.snap a0.length (a0.map fun n=>.lit (.int .i64 n)),.snap a1.length (a1.map fun n=>.lit (.int .i64 n)),I a2] [] fun r _=>r=B true:=B6   z0 w0 z1 w1 (i64_in w2) (fun _=>rfl)
 have hr:RepL (G0 W) [.snap a0.length (a0.map fun n=>.lit (.int .i64 n)),.snap a1.length (a1.map fun n=>.lit (.int .i64 n)),I a2] [v0,v1,.int .i64 a2]:=by simp only[RepL];exact⟨_,_,rfl,r0,⟨_,_,rfl,r1,⟨_,_,rfl,by simp[RepL,Rep,Value.oneCell'],rfl⟩⟩⟩
 refine (Kz (P:=Tryz.prog) (f:=4) (ht:=KY (Lo []) hL hS) hr c).mono fun e W' ⟨he,hb⟩=>?_
 subst he
 exact⟨_,rfl,MS (ds:=[d0,d1,.lit (.int .i64 a2)]) (gs:=[]) LC (fun t ht=>by
  rw[Tryz.params4]at ht;simp at ht
  first|(subst ht;exact⟨by kernel_rfl,of_decide_eq_true (by kernel_rfl)⟩)|(rcases ht with rfl|rfl<;>exact⟨by kernel_rfl,of_decide_eq_true (by kernel_rfl)⟩)|(rcases ht with rfl|rfl|rfl<;>exact⟨by kernel_rfl,of_decide_eq_true (by kernel_rfl)⟩)|(rcases ht with rfl|rfl|rfl|rfl<;>exact⟨by kernel_rfl,of_decide_eq_true (by kernel_rfl)⟩)|(rcases ht with rfl|rfl|rfl|rfl|rfl<;>exact⟨by kernel_rfl,of_decide_eq_true (by kernel_rfl)⟩)) rfl rfl Tryz.underlying4 hW' rfl rfl rfl hb⟩
theorem Np:Rows.AsmPartsSaid:=
 OpenClaim.holds_of_wide 4 Tryz.f4 rfl rfl rfl rfl rfl rfl rfl ⟨rfl,rfl,rfl,rfl,rfl⟩ rfl rfl rfl rfl rfl (by kernel_rfl) Tryz.func4 jf
  (of_decide_eq_true (by kernel_rfl)) (by unfold Func.isWrapper;first|(rw[if_pos (by decide +kernel)];kernel_rfl)|(rw[if_neg (by decide +kernel)];exact⟨rfl,rfl⟩))
  (fun os started H enc _=>Kq os started H enc)
theorem asmParts_card:Rows.AsmPartsCardSaid:=
 Claim7.holds_tied_plain_at .later [] [.data, .data, .data, .data, .sentinel, .sentinel, .listed, .data, .pinned] true (true, "c5f3de71d74dc82b9d3ef4694be575d6d29378b07c26e3e3845c65fe3e6ce152") true
  Np (fun _ h=>by cases h) Rf (fun _ h=>by cases h) asmParts_row_tie rfl ⟨rfl,rfl⟩ MA rfl
  (fun f fn hf hfn=>by
   obtain rfl:f=4:=Option.some.inj (card_named.symm.trans hf) |>.symm
   obtain rfl:fn=Tryz.f4:=(Option.some.inj (Tryz.func4.symm.trans hfn)).symm
   exact⟨JK,fun j t ht=>by
    rw[Tryz.params4]at ht
    have hm:t∈[23,23,3]:=by simpa using Array.mem_of_getElem? ht
    exact (show Tryz.prog.wantsStandIn t=false by simpa using List.all_eq_true.1 PV t hm)⟩)
  NW
end Go.Proofs.YtbhphjpgjgigpaaGreatDoor
