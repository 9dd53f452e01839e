import Derived.Test.YtmocchnodigmlaaGreatDoorS5jL
import Derived.Test.YtmocchnodigmlaaGreatDoorS5k
import Derived.Test.YtmocchnodigmlaaGreatDoorS5g0
import Derived.Test.YtmocchnodigmlaaGreatDoorS5g1
import Derived.Test.YtmocchnodigmlaaGreatDoorS5g2
set_option linter.all false
set_option autoImplicit true
set_option relaxedAutoImplicit true
set_option linter.unusedVariables false
set_option maxRecDepth 100000
set_option maxHeartbeats 0
namespace Go.Proofs.YtmocchnodigmlaaGreatDoor.AL
noncomputable section
theorem large_all : ∀ j, j < 12 → runG Pg tb5 (spFirst 9 757 (sp5 [(0, 12, j)])) 100 7 [.sym 0] .leaf 0 kTrue = true
  | 0, _ => large_run0
  | 1, _ => large_run1
  | 2, _ => large_run2
  | 3, _ => large_run3
  | 4, _ => large_run4
  | 5, _ => large_run5
  | 6, _ => large_run6
  | 7, _ => large_run7
  | 8, _ => large_run8
  | 9, _ => large_run9
  | 10, _ => large_run10
  | 11, _ => large_run11
  | n + 12, h => absurd h (by omega)
theorem large_law (a : Int) : letI := tabs5' (intSyms [a]); ACall Pg 7 [.sym 0] [] fun r _ => r = B true := by
  letI T : Tabs5 := tabs5' (intSyms [a])
  obtain ⟨j, hj⟩ := Int.eq_ofNat_of_zero_le (Int.emod_nonneg a (show (12 : Int) ≠ 0 by omega))
  have hlt : j < 12 := by have := Int.emod_lt_of_pos a (show (0 : Int) < 12 by omega); omega
  have hch : ChOk [(0, 12, j)] := fun e he => by
    obtain rfl := List.mem_singleton.1 he
    exact ⟨a, rfl, hj⟩
  exact runG_true T.tb (spFirst_ok (sp5_ok hch) (sp5_ok (fun e he => by cases he)) T.tb known_run) (large_all j hlt)
end
end Go.Proofs.YtmocchnodigmlaaGreatDoor.AL
namespace Go.Proofs.YtmocchnodigmlaaGreatDoor
open Go Go.Proofs.YtmocchnodigmlaaGreatDoor.AL Go.RowKit Go.ChangeShapes Go.WideShapes Go.ChangeAt
theorem law_lifted (os : Os) (started : os.Started) (H : Type) (enc : TypeId × Value → H) :
    ReturnsInHanded {} Tryz.checked os 7 .any (fun w args => (Rows.asmLargeSpec.pre enc Tryz.prog Tryz.f7 [] false w args ∧ laidMetH Tryz.prog theLaid w) ∧ sizedMet enc Tryz.prog Tryz.f7 (OpenSpec.ofChange Rows.asmLargeSpec) false w args)
      (Rows.asmLargeSpec.post enc Tryz.prog Tryz.f7 false true false false) := by
  refine returns_shaped_and (C := Tryz.checked) (X := fun w _ => laidMetH Tryz.prog theLaid w) (fun _ _ _ hh h => h.of_heap hh) own started (by kernel_rfl) Tryz.func7
    (ChangeSpec.witness_shaped (enc := enc) (C := Tryz.checked) (os := os) (X := fun w _ => laidMetH Tryz.prog theLaid w) false (World.laidAll Tryz.prog os theLaid) #[.int .i64 0] 8 (World.laidAll_os _ _ _)
      (World.shaped_of_ZipB (by kernel_rfl) (by kernel_rfl)) (by kernel_rfl) (by kernel_rfl) (by kernel_rfl) (laid_witness os _)) ?_
  intro W base args ds gs before hval0 hW hL hS
  have hval : ∀ (j : Nat) t v, Tryz.f7.params[j]? = some t → args[j]? = some v → Value.okWide Tryz.prog W .any base t v := hval0
  have hW' := hW
  obtain ⟨p, q, hA0, hV, rfl, _, _⟩ := hW
  have hA : DataW.TrodAll enc Tryz.prog W 0 (fun _ => true) true Tryz.f7.params.toList args.toList ds p := hA0
  rw [Tryz.params7] at hA hval
  obtain ⟨v0, d0, rfl, rfl, h0⟩ := trodAll_one hA
  obtain ⟨rfl, rfl⟩ := trodVars_none hV
  obtain ⟨a, rfl, rfl, rfl, wa⟩ := open_int Tryz.underlying3 (hval 0 3 v0 rfl rfl) h0
  letI T := tabs5' (intSyms [a])
  have hr : RepL (G0 W) [.sym 0] [.int .i64 a] := by simp [RepL, Rep]; rfl
  refine (calls_true (P := Tryz.prog) (f := 7) (ht := tabs_start (intSyms [a]) hL hS) hr (large_law a)).mono fun e W' ⟨he, hb⟩ => ?_
  subst he
  exact ⟨_, rfl, post_true (ds := [.lit (.int .i64 a)]) (gs := []) laidOut (fun t ht => by rw [Tryz.params7] at ht; simp at ht; subst ht; exact ⟨by kernel_rfl, of_decide_eq_true (by kernel_rfl)⟩) rfl rfl Tryz.underlying4 hW' rfl rfl rfl hb⟩
theorem law_holds : Rows.AsmLargeSaid :=
  OpenClaim.holds_of_wide 7 Tryz.f7 rfl rfl rfl rfl rfl rfl rfl ⟨rfl, rfl, rfl, rfl, rfl⟩ rfl rfl rfl rfl rfl (by kernel_rfl) Tryz.func7 jf
    (of_decide_eq_true (by kernel_rfl)) (by unfold Func.isWrapper; first | (rw [if_pos (by decide +kernel)]; kernel_rfl) | (rw [if_neg (by decide +kernel)]; exact ⟨rfl, rfl⟩))
    (fun os started H enc _ => law_lifted os started H enc)
theorem large_card : Rows.AsmLargeCardSaid :=
  Claim7.holds_tied_plain_at .later [] [.data, .data, .data, .data, .sentinel, .sentinel, .listed, .data, .pinned] true (true, "7bd44990efb0b29af475dec93ffb0a9352301b22e22a0d95fcae26eff360837b") true
    law_holds (fun _ h => by cases h) (by kernel_rfl) (fun _ h => by cases h) asmLarge_row_tie rfl ⟨rfl, rfl⟩ (by kernel_rfl) rfl
    (fun f fn hf hfn => by
      obtain rfl : f = 7 := Option.some.inj ((show Tryz.prog.funcNamed "letterpress/letterpresslaw5.AsmLarge" = some 7 by kernel_rfl).symm.trans hf) |>.symm
      obtain rfl : fn = Tryz.f7 := (Option.some.inj (Tryz.func7.symm.trans hfn)).symm
      exact ⟨by kernel_rfl, fun j t ht => by
        rw [Tryz.params7] at ht
        have hm : t ∈ [3] := by simpa using Array.mem_of_getElem? ht
        have hall : ([3].all fun u => !Tryz.prog.wantsStandIn u) = true := by kernel_rfl
        exact (show Tryz.prog.wantsStandIn t = false by simpa using List.all_eq_true.1 hall t hm)⟩)
    (by kernel_rfl)
end Go.Proofs.YtmocchnodigmlaaGreatDoor
