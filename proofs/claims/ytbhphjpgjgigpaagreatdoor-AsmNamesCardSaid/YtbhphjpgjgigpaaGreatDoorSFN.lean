import Derived.Test.YtbhphjpgjgigpaaGreatDoorSJN
import Derived.Test.YtbhphjpgjgigpaaGreatDoorSGN
import Derived.Test.YtbhphjpgjgigpaaGreatDoorFLtoNAC
import Derived.Test.YtbhphjpgjgigpaaGreatDoorAL32toAL34
import Derived.Test.YtbhphjpgjgigpaaGreatDoorTie
import Derived.Test.YtbhphjpgjgigpaaGreatDoorCards
import Derived.LaidMore
import Derived.Lay
import Derived.Stop.Joined
import Derived.JoinedOf
import Derived.Carry
import Derived.ChangeMaps5
set_option linter.all false
set_option autoImplicit true
set_option relaxedAutoImplicit true
set_option maxRecDepth 100000
set_option maxHeartbeats 0
namespace Go.Proofs.YtbhphjpgjgigpaaGreatDoor
open Go Go.Proofs.YtbhphjpgjgigpaaGreatDoor.AL Go.RowKit Go.ChangeShapes Go.WideShapes Go.ChangeAt
theorem i64_in {a:Int}(h:(Lit.int .i64 a).wf=true):-9223372036854775808≤a∧a≤9223372036854775807:=by
 simp only[Lit.wf,Bool.and_eq_true,decide_eq_true_eq]at h
 exact h
theorem JT (os:Os) (started:os.Started) (H:Type) (enc:TypeId×Value→H):
  ReturnsInHanded {} Tryz.checked os 5 .any (fun w args=>(Rows.asmNamesSpec.pre enc Tryz.prog Tryz.f5 [] false w args∧laidMetH Tryz.prog theLaid w)∧sizedMet enc Tryz.prog Tryz.f5 (OpenSpec.ofChange Rows.asmNamesSpec) false w args)
   (Rows.asmNamesSpec.post enc Tryz.prog Tryz.f5 false true false false):=by
 refine CF (C:=Tryz.checked) (X:=fun w _=>laidMetH Tryz.prog theLaid w) (fun _ _ _ hh h=>h.of_heap hh) own started (by kernel_rfl) Tryz.func5
  (ChangeSpec.witness_shaped (enc:=enc) (C:=Tryz.checked) (os:=os) (X:=fun w _=>laidMetH Tryz.prog theLaid w) false (World.laidAll Tryz.prog os theLaid) #[.slice none 0 0,.slice none 0 0] 8 (World.laidAll_os _ _ _)
   (World.shaped_of_ZipB (by kernel_rfl) (by kernel_rfl)) (by kernel_rfl) (by kernel_rfl) (by kernel_rfl) (FE os _)) ?_
 intro W base args ds gs before hval0 hW hz hL hS
 have hval:∀ (j:Nat) t v,Tryz.f5.params[j]?=some t→args[j]?=some v→Value.okWide Tryz.prog W .any base t v:=hval0
 have hW':=hW
 obtain⟨p,q,hA0,hV,rfl,_,_⟩:=hW
 have hA:DataW.TrodAll enc Tryz.prog W 0 (fun _=>true) true Tryz.f5.params.toList args.toList ds p:=hA0
 rw[Tryz.params5]at hA hval hz
 obtain⟨v0,v1,d0,d1,p0,p1,rfl,rfl,rfl,h0,h1⟩:=trodAll_two hA
 obtain⟨rfl,rfl⟩:=trodVars_none hV
 letI TT:=TI (Mv [])
 obtain⟨a0,w0,z0,r0⟩:=DY (k:=.i64) Tryz.underlying23 Tryz.underlying3 (by kernel_rfl) (hval 0 23 v0 rfl rfl) h0
 obtain⟨a1,w1,z1,r1⟩:=DY (k:=.i64) Tryz.underlying23 Tryz.underlying3 (by kernel_rfl) (hval 1 23 v1 rfl rfl) h1
 have c:ACall Pg 5 [.snap a0.length (a0.map fun n=>.lit (.int .i64 n)),.snap a1.length (a1.map fun n=>.lit (.int .i64 n))] [] fun r _=>r=B true:=Co   z0 w0 z1 w1 (fun _=>rfl)
 have hr:RepL (G0 W) [.snap a0.length (a0.map fun n=>.lit (.int .i64 n)),.snap a1.length (a1.map fun n=>.lit (.int .i64 n))] [v0,v1]:=by simp only[RepL];exact⟨_,_,rfl,r0,⟨_,_,rfl,r1,rfl⟩⟩
 refine (KR (P:=Tryz.prog) (f:=5) (ht:=Ks (Mv []) hL hS) hr c).mono fun e W' ⟨he,hb⟩=>?_
 subst he
 exact⟨_,rfl,Nr (ds:=[d0,d1]) (gs:=[]) Mc (fun t ht=>by
  rw[Tryz.params5]at ht;simp at ht
  first|(subst ht;exact⟨by kernel_rfl,of_decide_eq_true (by kernel_rfl)⟩)|(rcases ht with rfl|rfl<;>exact⟨by kernel_rfl,of_decide_eq_true (by kernel_rfl)⟩)|(rcases ht with rfl|rfl|rfl<;>exact⟨by kernel_rfl,of_decide_eq_true (by kernel_rfl)⟩)|(rcases ht with rfl|rfl|rfl|rfl<;>exact⟨by kernel_rfl,of_decide_eq_true (by kernel_rfl)⟩)|(rcases ht with rfl|rfl|rfl|rfl|rfl<;>exact⟨by kernel_rfl,of_decide_eq_true (by kernel_rfl)⟩)) rfl rfl Tryz.underlying4 hW' rfl rfl rfl hb⟩
theorem N9:Rows.AsmNamesSaid:=
 OpenClaim.holds_of_wide 5 Tryz.f5 rfl rfl rfl rfl rfl rfl rfl ⟨rfl,rfl,rfl,rfl,rfl⟩ rfl rfl rfl rfl rfl (by kernel_rfl) Tryz.func5 jf
  (of_decide_eq_true (by kernel_rfl)) (by unfold Func.isWrapper;first|(rw[if_pos (by decide +kernel)];kernel_rfl)|(rw[if_neg (by decide +kernel)];exact⟨rfl,rfl⟩))
  (fun os started H enc _=>JT os started H enc)
theorem asmNames_card:Rows.AsmNamesCardSaid:=
 Claim7.holds_tied_plain_at .later [] [.data, .data, .data, .data, .sentinel, .sentinel, .listed, .data, .pinned] true (true, "c5f3de71d74dc82b9d3ef4694be575d6d29378b07c26e3e3845c65fe3e6ce152") true
  N9 (fun _ h=>by cases h) SX (fun _ h=>by cases h) asmNames_row_tie rfl ⟨rfl,rfl⟩ Ot rfl
  (fun f fn hf hfn=>by
   obtain rfl:f=5:=Option.some.inj (card_named.symm.trans hf) |>.symm
   obtain rfl:fn=Tryz.f5:=(Option.some.inj (Tryz.func5.symm.trans hfn)).symm
   exact⟨Kt,fun j t ht=>by
    rw[Tryz.params5]at ht
    have hm:t∈[23,23]:=by simpa using Array.mem_of_getElem? ht
    exact (show Tryz.prog.wantsStandIn t=false by simpa using List.all_eq_true.1 Ry t hm)⟩)
  NJ
end Go.Proofs.YtbhphjpgjgigpaaGreatDoor
