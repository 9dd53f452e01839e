import Derived.Test.YtbhphjpgjgigpaaGreatDoorSJO
import Derived.Test.YtbhphjpgjgigpaaGreatDoorSGO
import Derived.Test.YtbhphjpgjgigpaaGreatDoorOPNtoOAC
import Derived.Test.YtbhphjpgjgigpaaGreatDoorAL32toAL34
import Derived.Test.YtbhphjpgjgigpaaGreatDoorTie
import Derived.Test.YtbhphjpgjgigpaaGreatDoorCards
import Derived.LaidMore
import Derived.Lay
import Derived.Stop.Joined
import Derived.JoinedOf
import Derived.Carry
import Derived.ChangeMaps5
set_option linter.all false
set_option autoImplicit true
set_option relaxedAutoImplicit true
set_option maxRecDepth 100000
set_option maxHeartbeats 0
namespace Go.Proofs.YtbhphjpgjgigpaaGreatDoor
open Go Go.Proofs.YtbhphjpgjgigpaaGreatDoor.AL Go.RowKit Go.ChangeShapes Go.WideShapes Go.ChangeAt
theorem i64_in {a:Int}(h:(Lit.int .i64 a).wf=true):-9223372036854775808≤a∧a≤9223372036854775807:=by
 simp only[Lit.wf,Bool.and_eq_true,decide_eq_true_eq]at h
 exact h
theorem QL (os:Os) (started:os.Started) (H:Type) (enc:TypeId×Value→H):
  ReturnsInHanded {} Tryz.checked os 3 .any (fun w args=>(Rows.asmOrderSpec.pre enc Tryz.prog Tryz.f3 [] false w args∧laidMetH Tryz.prog theLaid w)∧sizedMet enc Tryz.prog Tryz.f3 (OpenSpec.ofChange Rows.asmOrderSpec) false w args)
   (Rows.asmOrderSpec.post enc Tryz.prog Tryz.f3 false true false false):=by
 refine HJ (C:=Tryz.checked) (X:=fun w _=>laidMetH Tryz.prog theLaid w) (fun _ _ _ hh h=>h.of_heap hh) own started (by kernel_rfl) Tryz.func3
  (ChangeSpec.witness_shaped (enc:=enc) (C:=Tryz.checked) (os:=os) (X:=fun w _=>laidMetH Tryz.prog theLaid w) false (World.laidAll Tryz.prog os theLaid) #[.agg #[.slice none 0 0,.slice none 0 0,.slice none 0 0,.slice none 0 0,.slice none 0 0]] 8 (World.laidAll_os _ _ _)
   (World.shaped_of_ZipB (by kernel_rfl) (by kernel_rfl)) (by kernel_rfl) (by kernel_rfl) (by kernel_rfl) (KU os _)) ?_
 intro W base args ds gs before hval0 hW hz hL hS
 have hval:∀ (j:Nat) t v,Tryz.f3.params[j]?=some t→args[j]?=some v→Value.okWide Tryz.prog W .any base t v:=hval0
 have hW':=hW
 obtain⟨p,q,hA0,hV,rfl,_,_⟩:=hW
 have hA:DataW.TrodAll enc Tryz.prog W 0 (fun _=>true) true Tryz.f3.params.toList args.toList ds p:=hA0
 rw[Tryz.params3]at hA hval hz
 obtain⟨v0,d0,rfl,rfl,h0⟩:=trodAll_one hA
 obtain⟨rfl,rfl⟩:=trodVars_none hV
 letI TT:=aap (SE [])
 obtain⟨sa0,sb0,sc0,sn0,sy0,w0,z0,r0⟩:=P0 Tryz.underlying25 (by kernel_rfl) (by kernel_rfl) rfl rfl rfl rfl rfl Tryz.underlying23 Tryz.underlying22 Tryz.underlying75 (by kernel_rfl) (by kernel_rfl) Tryz.underlying3 Tryz.underlying3 Tryz.underlying3 Tryz.underlying23 Tryz.underlying3 (by kernel_rfl) rfl Tryz.underlying4 Tryz.underlying73 Tryz.underlying117 (by kernel_rfl) (by kernel_rfl) Tryz.underlying3 Tryz.underlying3 rfl (hval 0 25 v0 rfl rfl) h0
 have c:ACall Pg 3 [.agg [.snap sa0.length (sa0.flatMap rwE),.snap sb0.length (sb0.flatMap rwE),.snap sc0.length (sc0.flatMap rwE),.snap sn0.length (sn0.flatMap fun n=>[I n]),.snap sy0.length (sy0.flatMap fun n=>[I n])]] [] fun r _=>r=B true:=GD   w0 z0 (fun _=>rfl)
 have hr:RepL (G0 W) [.agg [.snap sa0.length (sa0.flatMap rwE),.snap sb0.length (sb0.flatMap rwE),.snap sc0.length (sc0.flatMap rwE),.snap sn0.length (sn0.flatMap fun n=>[I n]),.snap sy0.length (sy0.flatMap fun n=>[I n])]] [v0]:=by simp only[RepL];exact⟨_,_,rfl,r0,rfl⟩
 refine (PZ (P:=Tryz.prog) (f:=3) (ht:=OX (SE []) hL hS) hr c).mono fun e W' ⟨he,hb⟩=>?_
 subst he
 exact⟨_,rfl,S0 (ds:=[d0]) (gs:=[]) Q8 (fun t ht=>by
  rw[Tryz.params3]at ht;simp at ht
  first|(subst ht;exact⟨by kernel_rfl,of_decide_eq_true (by kernel_rfl)⟩)|(rcases ht with rfl|rfl<;>exact⟨by kernel_rfl,of_decide_eq_true (by kernel_rfl)⟩)|(rcases ht with rfl|rfl|rfl<;>exact⟨by kernel_rfl,of_decide_eq_true (by kernel_rfl)⟩)|(rcases ht with rfl|rfl|rfl|rfl<;>exact⟨by kernel_rfl,of_decide_eq_true (by kernel_rfl)⟩)|(rcases ht with rfl|rfl|rfl|rfl|rfl<;>exact⟨by kernel_rfl,of_decide_eq_true (by kernel_rfl)⟩)) rfl rfl Tryz.underlying4 hW' rfl rfl rfl hb⟩
theorem SV:Rows.AsmOrderSaid:=
 OpenClaim.holds_of_wide 3 Tryz.f3 rfl rfl rfl rfl rfl rfl rfl ⟨rfl,rfl,rfl,rfl,rfl⟩ rfl rfl rfl rfl rfl (by kernel_rfl) Tryz.func3 jf
  (of_decide_eq_true (by kernel_rfl)) (by unfold Func.isWrapper;first|(rw[if_pos (by decide +kernel)];kernel_rfl)|(rw[if_neg (by decide +kernel)];exact⟨rfl,rfl⟩))
  (fun os started H enc _=>QL os started H enc)
theorem asmOrder_card:Rows.AsmOrderCardSaid:=
 Claim7.holds_tied_plain_at .later [] [.data, .data, .data, .data, .sentinel, .sentinel, .listed, .data, .pinned] true (true, "c5f3de71d74dc82b9d3ef4694be575d6d29378b07c26e3e3845c65fe3e6ce152") true
  SV (fun _ h=>by cases h) Zi (fun _ h=>by cases h) asmOrder_row_tie rfl ⟨rfl,rfl⟩ UK rfl
  (fun f fn hf hfn=>by
   obtain rfl:f=3:=Option.some.inj (card_named.symm.trans hf) |>.symm
   obtain rfl:fn=Tryz.f3:=(Option.some.inj (Tryz.func3.symm.trans hfn)).symm
   exact⟨Qy,fun j t ht=>by
    rw[Tryz.params3]at ht
    have hm:t∈[25]:=by simpa using Array.mem_of_getElem? ht
    exact (show Tryz.prog.wantsStandIn t=false by simpa using List.all_eq_true.1 Wf t hm)⟩)
  Tj
end Go.Proofs.YtbhphjpgjgigpaaGreatDoor
