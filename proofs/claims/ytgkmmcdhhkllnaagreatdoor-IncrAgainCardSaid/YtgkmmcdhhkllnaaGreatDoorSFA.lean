import Derived.Test.YtgkmmcdhhkllnaaGreatDoorSJA
import Derived.Test.YtgkmmcdhhkllnaaGreatDoorSGA
import Derived.Test.YtgkmmcdhhkllnaaGreatDoorAM7toIAC
import Derived.Test.YtgkmmcdhhkllnaaGreatDoorAL32toAL34
import Derived.Test.YtgkmmcdhhkllnaaGreatDoorTie
import Derived.Test.YtgkmmcdhhkllnaaGreatDoorCards
import Derived.LaidMore
import Derived.Lay
import Derived.Stop.Joined
import Derived.JoinedOf
import Derived.Carry
import Derived.ChangeMaps5
set_option linter.all false
set_option autoImplicit true
set_option relaxedAutoImplicit true
set_option maxRecDepth 100000
set_option maxHeartbeats 0
namespace Go.Proofs.YtgkmmcdhhkllnaaGreatDoor
open Go Go.Proofs.YtgkmmcdhhkllnaaGreatDoor.AL Go.RowKit Go.ChangeShapes Go.WideShapes Go.ChangeAt
theorem i64_in {a:Int}(h:(Lit.int .i64 a).wf=true):-9223372036854775808≤a∧a≤9223372036854775807:=by
 simp only[Lit.wf,Bool.and_eq_true,decide_eq_true_eq]at h
 exact h
theorem R5 (os:Os) (started:os.Started) (H:Type) (enc:TypeId×Value→H):
  ReturnsInHanded {} Tryz.checked os 3 .any (fun w args=>(Rows.incrAgainSpec.pre enc Tryz.prog Tryz.f3 [] false w args∧laidMetH Tryz.prog theLaid w)∧sizedMet enc Tryz.prog Tryz.f3 (OpenSpec.ofChange Rows.incrAgainSpec) false w args)
   (Rows.incrAgainSpec.post enc Tryz.prog Tryz.f3 false true false false):=by
 refine Ip (C:=Tryz.checked) (X:=fun w _=>laidMetH Tryz.prog theLaid w) (fun _ _ _ hh h=>h.of_heap hh) own started (by kernel_rfl) Tryz.func3
  (ChangeSpec.witness_shaped (enc:=enc) (C:=Tryz.checked) (os:=os) (X:=fun w _=>laidMetH Tryz.prog theLaid w) false (World.laidAll Tryz.prog os theLaid) #[.agg #[.slice none 0 0,.slice none 0 0,.slice none 0 0,.slice none 0 0,.slice none 0 0],.int .i64 0,.int .i64 0] 8 (World.laidAll_os _ _ _)
   (World.shaped_of_ZipB (by kernel_rfl) (by kernel_rfl)) (by kernel_rfl) (by kernel_rfl) (by kernel_rfl) (MN os _)) ?_
 intro W base args ds gs before hval0 hW hz hL hS
 have hval:∀ (j:Nat) t v,Tryz.f3.params[j]?=some t→args[j]?=some v→Value.okWide Tryz.prog W .any base t v:=hval0
 have hW':=hW
 obtain⟨p,q,hA0,hV,rfl,_,_⟩:=hW
 have hA:DataW.TrodAll enc Tryz.prog W 0 (fun _=>true) true Tryz.f3.params.toList args.toList ds p:=hA0
 rw[Tryz.params3]at hA hval hz
 obtain⟨v0,v1,v2,d0,d1,d2,p0,p1,p2,rfl,rfl,rfl,h0,h1,h2⟩:=trodAll_three hA
 obtain⟨rfl,rfl⟩:=trodVars_none hV
 letI TT:=aaQ (Td [])
 obtain⟨sa0,sb0,sc0,sn0,sy0,w0,z0,r0⟩:=Rc Tryz.underlying25 (by kernel_rfl) (by kernel_rfl) rfl rfl rfl rfl rfl Tryz.underlying23 Tryz.underlying22 Tryz.underlying74 (by kernel_rfl) (by kernel_rfl) Tryz.underlying3 Tryz.underlying3 Tryz.underlying3 Tryz.underlying23 Tryz.underlying3 (by kernel_rfl) rfl Tryz.underlying4 Tryz.underlying72 Tryz.underlying149 (by kernel_rfl) (by kernel_rfl) Tryz.underlying3 Tryz.underlying3 rfl (hval 0 25 v0 rfl rfl) h0
 obtain⟨a1,rfl,rfl,rfl,w1⟩:=open_int Tryz.underlying3 (hval 1 3 v1 rfl rfl) h1
 obtain⟨a2,rfl,rfl,rfl,w2⟩:=open_int Tryz.underlying3 (hval 2 3 v2 rfl rfl) h2
 have c:ACall Pg 3 [.agg [.snap sa0.length (sa0.flatMap rwE),.snap sb0.length (sb0.flatMap rwE),.snap sc0.length (sc0.flatMap rwE),.snap sn0.length (sn0.flatMap fun n=>[I n]),.snap sy0.length (sy0.flatMap fun n=>[I n])],I a1,I a2] [] fun r _=>r=B true:=Hy   w0 z0 (i64_in w1) (i64_in w2) (fun _=>rfl)
 have hr:RepL (G0 W) [.agg [.snap sa0.length (sa0.flatMap rwE),.snap sb0.length (sb0.flatMap rwE),.snap sc0.length (sc0.flatMap rwE),.snap sn0.length (sn0.flatMap fun n=>[I n]),.snap sy0.length (sy0.flatMap fun n=>[I n])],I a1,I a2] [v0,.int .i64 a1,.int .i64 a2]:=by simp only[RepL];exact⟨_,_,rfl,r0,⟨_,_,rfl,by simp[RepL,Rep,Value.oneCell'],⟨_,_,rfl,by simp[RepL,Rep,Value.oneCell'],rfl⟩⟩⟩
 refine (QB (P:=Tryz.prog) (f:=3) (ht:=QU (Td []) hL hS) hr c).mono fun e W' ⟨he,hb⟩=>?_
 subst he
 exact⟨_,rfl,UZ (ds:=[d0,.lit (.int .i64 a1),.lit (.int .i64 a2)]) (gs:=[]) SU (fun t ht=>by
  rw[Tryz.params3]at ht;simp at ht
  first|(subst ht;exact⟨by kernel_rfl,of_decide_eq_true (by kernel_rfl)⟩)|(rcases ht with rfl|rfl<;>exact⟨by kernel_rfl,of_decide_eq_true (by kernel_rfl)⟩)|(rcases ht with rfl|rfl|rfl<;>exact⟨by kernel_rfl,of_decide_eq_true (by kernel_rfl)⟩)|(rcases ht with rfl|rfl|rfl|rfl<;>exact⟨by kernel_rfl,of_decide_eq_true (by kernel_rfl)⟩)|(rcases ht with rfl|rfl|rfl|rfl|rfl<;>exact⟨by kernel_rfl,of_decide_eq_true (by kernel_rfl)⟩)) rfl rfl Tryz.underlying4 hW' rfl rfl rfl hb⟩
theorem Uk:Rows.IncrAgainSaid:=
 OpenClaim.holds_of_wide 3 Tryz.f3 rfl rfl rfl rfl rfl rfl rfl ⟨rfl,rfl,rfl,rfl,rfl⟩ rfl rfl rfl rfl rfl (by kernel_rfl) Tryz.func3 jf
  (of_decide_eq_true (by kernel_rfl)) (by unfold Func.isWrapper;first|(rw[if_pos (by decide +kernel)];kernel_rfl)|(rw[if_neg (by decide +kernel)];exact⟨rfl,rfl⟩))
  (fun os started H enc _=>R5 os started H enc)
theorem incrAgain_card:Rows.IncrAgainCardSaid:=
 Claim7.holds_tied_plain_at .later [] [.data, .data, .data, .data, .sentinel, .sentinel, .listed, .data, .pinned] true (true, "0358375d37ee16f40d26fa407f435674847bc95fa8e5d8a89f48d6a4ec8d8ab0") true
  Uk (fun _ h=>by cases h) Y2 (fun _ h=>by cases h) incrAgain_row_tie rfl ⟨rfl,rfl⟩ TN rfl
  (fun f fn hf hfn=>by
   obtain rfl:f=3:=Option.some.inj (card_named.symm.trans hf) |>.symm
   obtain rfl:fn=Tryz.f3:=(Option.some.inj (Tryz.func3.symm.trans hfn)).symm
   exact⟨Qg,fun j t ht=>by
    rw[Tryz.params3]at ht
    have hm:t∈[25,3,3]:=by simpa using Array.mem_of_getElem? ht
    exact (show Tryz.prog.wantsStandIn t=false by simpa using List.all_eq_true.1 YO t hm)⟩)
  Uo
end Go.Proofs.YtgkmmcdhhkllnaaGreatDoor
