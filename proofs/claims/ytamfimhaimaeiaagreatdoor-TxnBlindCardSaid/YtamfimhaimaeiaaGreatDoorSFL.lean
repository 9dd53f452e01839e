import Derived.Test.YtamfimhaimaeiaaGreatDoorSJL
import Derived.Test.YtamfimhaimaeiaaGreatDoorSGL
import Derived.Test.YtamfimhaimaeiaaGreatDoorTL3toTLC
import Derived.Test.YtamfimhaimaeiaaGreatDoorAL32toAL34
import Derived.Test.YtamfimhaimaeiaaGreatDoorTie
import Derived.Test.YtamfimhaimaeiaaGreatDoorCards
import Derived.LaidMore
import Derived.Lay
import Derived.Stop.Joined
import Derived.JoinedOf
import Derived.Carry
import Derived.ChangeMaps5
set_option linter.all false
set_option autoImplicit true
set_option relaxedAutoImplicit true
set_option maxRecDepth 100000
set_option maxHeartbeats 0
namespace Go.Proofs.YtamfimhaimaeiaaGreatDoor
open Go Go.Proofs.YtamfimhaimaeiaaGreatDoor.AL Go.RowKit Go.ChangeShapes Go.WideShapes Go.ChangeAt
theorem i64_in {a : Int} (h : (Lit.int .i64 a).wf = true) : -9223372036854775808 ≤ a ∧ a ≤ 9223372036854775807 := by
  simp only [Lit.wf, Bool.and_eq_true, decide_eq_true_eq] at h
  exact h
theorem law_lifted (os : Os) (started : os.Started) (H : Type) (enc : TypeId × Value → H) :
    ReturnsInHanded {} Tryz.checked os 4 .any (fun w args => (Rows.txnBlindSpec.pre enc Tryz.prog Tryz.f4 [] false w args ∧ laidMetH Tryz.prog theLaid w) ∧ sizedMet enc Tryz.prog Tryz.f4 (OpenSpec.ofChange Rows.txnBlindSpec) false w args)
      (Rows.txnBlindSpec.post enc Tryz.prog Tryz.f4 false true false false) := by
  refine returns_sized (C := Tryz.checked) (X := fun w _ => laidMetH Tryz.prog theLaid w) (fun _ _ _ hh h => h.of_heap hh) own started (by kernel_rfl) Tryz.func4
    (ChangeSpec.witness_shaped (enc := enc) (C := Tryz.checked) (os := os) (X := fun w _ => laidMetH Tryz.prog theLaid w) false (World.laidAll Tryz.prog os theLaid) #[.slice none 0 0, .string ⟨#[]⟩, .string ⟨#[]⟩] 8 (World.laidAll_os _ _ _)
      (World.shaped_of_ZipB (by kernel_rfl) (by kernel_rfl)) (by kernel_rfl) (by kernel_rfl) (by kernel_rfl) (laid_witness os _)) ?_
  intro W base args ds gs before hval0 hW hz hL hS
  have hval : ∀ (j : Nat) t v, Tryz.f4.params[j]? = some t → args[j]? = some v → Value.okWide Tryz.prog W .any base t v := hval0
  have hW' := hW
  obtain ⟨p, q, hA0, hV, rfl, _, _⟩ := hW
  have hA : DataW.TrodAll enc Tryz.prog W 0 (fun _ => true) true Tryz.f4.params.toList args.toList ds p := hA0
  rw [Tryz.params4] at hA hval hz
  obtain ⟨v0, v1, v2, d0, d1, d2, p0, p1, p2, rfl, rfl, rfl, h0, h1, h2⟩ := trodAll_three hA
  obtain ⟨rfl, rfl⟩ := trodVars_none hV
  letI TT := tabs5' (intSyms [])
  obtain ⟨a0, w0, z0, r0⟩ := open_snap (k := .i64) Tryz.underlying22 Tryz.underlying3 (by kernel_rfl) (hval 0 22 v0 rfl rfl) h0
  obtain ⟨⟨⟨a1⟩⟩, rfl, rfl, rfl, w1⟩ := Go.ChangeMaps.open_string Tryz.underlying9 (hval 1 9 v1 rfl rfl) h1
  obtain ⟨⟨⟨a2⟩⟩, rfl, rfl, rfl, w2⟩ := Go.ChangeMaps.open_string Tryz.underlying9 (hval 2 9 v2 rfl rfl) h2
  simp only [List.cons_append, List.nil_append, DataW.weightsEach, DataW.weights, List.all_append, List.all_cons, List.all_nil, Bool.and_true, Bool.true_and, Bool.and_eq_true, reachBytes] at hz
  obtain ⟨y0, z1, z2, _⟩ := hz
  have c : ACall Pg 4 [.snap a0.length (a0.map fun n => .lit (.int .i64 n)), T a1, T a2] [] fun r _ => r = B true := blind_card_law   z0 w0 (Nat.le_trans (of_decide_eq_true z1) (show 140737488351232 ≤ 140737488355328 by decide)) (Nat.le_trans (of_decide_eq_true z2) (show 140737488351232 ≤ 140737488355328 by decide)) (fun _ => rfl)
  have hr : RepL (G0 W) [.snap a0.length (a0.map fun n => .lit (.int .i64 n)), T a1, T a2] [v0, .string ⟨⟨a1⟩⟩, .string ⟨⟨a2⟩⟩] := by simp only [RepL]; exact ⟨_, _, rfl, r0, ⟨_, _, rfl, by simp [RepL, Rep, Value.oneCell'], ⟨_, _, rfl, by simp [RepL, Rep, Value.oneCell'], rfl⟩⟩⟩
  refine (calls_true (P := Tryz.prog) (f := 4) (ht := tabs_start (intSyms []) hL hS) hr c).mono fun e W' ⟨he, hb⟩ => ?_
  subst he
  exact ⟨_, rfl, post_true (ds := [d0, .lit (.string a1), .lit (.string a2)]) (gs := []) laidOut (fun t ht => by
    rw [Tryz.params4] at ht; simp at ht
    first | (subst ht; exact ⟨by kernel_rfl, of_decide_eq_true (by kernel_rfl)⟩) | (rcases ht with rfl | rfl <;> exact ⟨by kernel_rfl, of_decide_eq_true (by kernel_rfl)⟩) | (rcases ht with rfl | rfl | rfl <;> exact ⟨by kernel_rfl, of_decide_eq_true (by kernel_rfl)⟩) | (rcases ht with rfl | rfl | rfl | rfl <;> exact ⟨by kernel_rfl, of_decide_eq_true (by kernel_rfl)⟩) | (rcases ht with rfl | rfl | rfl | rfl | rfl <;> exact ⟨by kernel_rfl, of_decide_eq_true (by kernel_rfl)⟩)) rfl rfl Tryz.underlying4 hW' rfl rfl rfl hb⟩
theorem law_holds : Rows.TxnBlindSaid :=
  OpenClaim.holds_of_wide 4 Tryz.f4 rfl rfl rfl rfl rfl rfl rfl ⟨rfl, rfl, rfl, rfl, rfl⟩ rfl rfl rfl rfl rfl (by kernel_rfl) Tryz.func4 jf
    (of_decide_eq_true (by kernel_rfl)) (by unfold Func.isWrapper; first | (rw [if_pos (by decide +kernel)]; kernel_rfl) | (rw [if_neg (by decide +kernel)]; exact ⟨rfl, rfl⟩))
    (fun os started H enc _ => law_lifted os started H enc)
theorem txnBlind_card : Rows.TxnBlindCardSaid :=
  Claim7.holds_tied_plain_at .later [] [.data, .data, .data, .data, .sentinel, .sentinel, .listed, .data, .pinned] true (true, "341fd494268da961784e4dbe367479ba6d99e55059f4520ee78c108698aa9448") true
    law_holds (fun _ h => by cases h) card_wf (fun _ h => by cases h) txnBlind_row_tie rfl ⟨rfl, rfl⟩ card_main rfl
    (fun f fn hf hfn => by
      obtain rfl : f = 4 := Option.some.inj (card_named.symm.trans hf) |>.symm
      obtain rfl : fn = Tryz.f4 := (Option.some.inj (Tryz.func4.symm.trans hfn)).symm
      exact ⟨card_looks, fun j t ht => by
        rw [Tryz.params4] at ht
        have hm : t ∈ [22, 9, 9] := by simpa using Array.mem_of_getElem? ht
        exact (show Tryz.prog.wantsStandIn t = false by simpa using List.all_eq_true.1 card_all t hm)⟩)
    card_goes
end Go.Proofs.YtamfimhaimaeiaaGreatDoor
