import Derived.Test.YtgkmmcdhhkllnaaGreatDoorSJE
import Derived.Test.YtgkmmcdhhkllnaaGreatDoorSGE
import Derived.Test.YtgkmmcdhhkllnaaGreatDoorOPNtoWEC
import Derived.Test.YtgkmmcdhhkllnaaGreatDoorAL32toAL34
import Derived.Test.YtgkmmcdhhkllnaaGreatDoorTie
import Derived.Test.YtgkmmcdhhkllnaaGreatDoorCards
import Derived.LaidMore
import Derived.Lay
import Derived.Stop.Joined
import Derived.JoinedOf
import Derived.Carry
import Derived.ChangeMaps5
set_option linter.all false
set_option autoImplicit true
set_option relaxedAutoImplicit true
set_option maxRecDepth 100000
set_option maxHeartbeats 0
namespace Go.Proofs.YtgkmmcdhhkllnaaGreatDoor
open Go Go.Proofs.YtgkmmcdhhkllnaaGreatDoor.AL Go.RowKit Go.ChangeShapes Go.WideShapes Go.ChangeAt
theorem i64_in {a:Int}(h:(Lit.int .i64 a).wf=true):-9223372036854775808≤a∧a≤9223372036854775807:=by
 simp only[Lit.wf,Bool.and_eq_true,decide_eq_true_eq]at h
 exact h
theorem QR (os:Os) (started:os.Started) (H:Type) (enc:TypeId×Value→H):
  ReturnsInHanded {} Tryz.checked os 5 .any (fun w args=>(Rows.workEmptySpec.pre enc Tryz.prog Tryz.f5 [] false w args∧laidMetH Tryz.prog theLaid w)∧sizedMet enc Tryz.prog Tryz.f5 (OpenSpec.ofChange Rows.workEmptySpec) false w args)
   (Rows.workEmptySpec.post enc Tryz.prog Tryz.f5 false true false false):=by
 refine I6 (C:=Tryz.checked) (X:=fun w _=>laidMetH Tryz.prog theLaid w) (fun _ _ _ hh h=>h.of_heap hh) own started (by kernel_rfl) Tryz.func5
  (ChangeSpec.witness_shaped (enc:=enc) (C:=Tryz.checked) (os:=os) (X:=fun w _=>laidMetH Tryz.prog theLaid w) false (World.laidAll Tryz.prog os theLaid) #[.slice none 0 0,.slice none 0 0] 8 (World.laidAll_os _ _ _)
   (World.shaped_of_ZipB (by kernel_rfl) (by kernel_rfl)) (by kernel_rfl) (by kernel_rfl) (by kernel_rfl) (Nv os _)) ?_
 intro W base args ds gs before hval0 hW hz hL hS
 have hval:∀ (j:Nat) t v,Tryz.f5.params[j]?=some t→args[j]?=some v→Value.okWide Tryz.prog W .any base t v:=hval0
 have hW':=hW
 obtain⟨p,q,hA0,hV,rfl,_,_⟩:=hW
 have hA:DataW.TrodAll enc Tryz.prog W 0 (fun _=>true) true Tryz.f5.params.toList args.toList ds p:=hA0
 rw[Tryz.params5]at hA hval hz
 obtain⟨v0,v1,d0,d1,p0,p1,rfl,rfl,rfl,h0,h1⟩:=trodAll_two hA
 obtain⟨rfl,rfl⟩:=trodVars_none hV
 letI TT:=ab7 (Tj [])
 obtain⟨a0,w0,z0,r0⟩:=U1 (k:=.i64) Tryz.underlying23 Tryz.underlying3 (by kernel_rfl) (hval 0 23 v0 rfl rfl) h0
 obtain⟨a1,w1,z1,r1⟩:=U7 Tryz.underlying22 Tryz.underlying74 (by kernel_rfl) (by kernel_rfl) Tryz.underlying3 Tryz.underlying3 Tryz.underlying3 Tryz.underlying23 Tryz.underlying3 (by kernel_rfl) rfl Tryz.underlying4 Tryz.underlying72 Tryz.underlying149 (by kernel_rfl) (by kernel_rfl) Tryz.underlying3 Tryz.underlying3 rfl (hval 1 22 v1 rfl rfl) h1
 have c:ACall Pg 5 [.snap a0.length (a0.map fun n=>.lit (.int .i64 n)),.snap a1.length (a1.flatMap rwE)] [] fun r _=>r=B true:=FH   z0 w0 z1 w1 (fun _=>rfl)
 have hr:RepL (G0 W) [.snap a0.length (a0.map fun n=>.lit (.int .i64 n)),.snap a1.length (a1.flatMap rwE)] [v0,v1]:=by simp only[RepL];exact⟨_,_,rfl,r0,⟨_,_,rfl,r1,rfl⟩⟩
 refine (S0 (P:=Tryz.prog) (f:=5) (ht:=Ry (Tj []) hL hS) hr c).mono fun e W' ⟨he,hb⟩=>?_
 subst he
 exact⟨_,rfl,Vn (ds:=[d0,d1]) (gs:=[]) TJ (fun t ht=>by
  rw[Tryz.params5]at ht;simp at ht
  first|(subst ht;exact⟨by kernel_rfl,of_decide_eq_true (by kernel_rfl)⟩)|(rcases ht with rfl|rfl<;>exact⟨by kernel_rfl,of_decide_eq_true (by kernel_rfl)⟩)|(rcases ht with rfl|rfl|rfl<;>exact⟨by kernel_rfl,of_decide_eq_true (by kernel_rfl)⟩)|(rcases ht with rfl|rfl|rfl|rfl<;>exact⟨by kernel_rfl,of_decide_eq_true (by kernel_rfl)⟩)|(rcases ht with rfl|rfl|rfl|rfl|rfl<;>exact⟨by kernel_rfl,of_decide_eq_true (by kernel_rfl)⟩)) rfl rfl Tryz.underlying4 hW' rfl rfl rfl hb⟩
theorem Ww:Rows.WorkEmptySaid:=
 OpenClaim.holds_of_wide 5 Tryz.f5 rfl rfl rfl rfl rfl rfl rfl ⟨rfl,rfl,rfl,rfl,rfl⟩ rfl rfl rfl rfl rfl (by kernel_rfl) Tryz.func5 jf
  (of_decide_eq_true (by kernel_rfl)) (by unfold Func.isWrapper;first|(rw[if_pos (by decide +kernel)];kernel_rfl)|(rw[if_neg (by decide +kernel)];exact⟨rfl,rfl⟩))
  (fun os started H enc _=>QR os started H enc)
theorem workEmpty_card:Rows.WorkEmptyCardSaid:=
 Claim7.holds_tied_plain_at .later [] [.data, .data, .data, .data, .sentinel, .sentinel, .listed, .data, .pinned] true (true, "0358375d37ee16f40d26fa407f435674847bc95fa8e5d8a89f48d6a4ec8d8ab0") true
  Ww (fun _ h=>by cases h) abg (fun _ h=>by cases h) workEmpty_row_tie rfl ⟨rfl,rfl⟩ VC rfl
  (fun f fn hf hfn=>by
   obtain rfl:f=5:=Option.some.inj (card_named.symm.trans hf) |>.symm
   obtain rfl:fn=Tryz.f5:=(Option.some.inj (Tryz.func5.symm.trans hfn)).symm
   exact⟨Sg,fun j t ht=>by
    rw[Tryz.params5]at ht
    have hm:t∈[23,22]:=by simpa using Array.mem_of_getElem? ht
    exact (show Tryz.prog.wantsStandIn t=false by simpa using List.all_eq_true.1 Zw t hm)⟩)
  V2
end Go.Proofs.YtgkmmcdhhkllnaaGreatDoor
