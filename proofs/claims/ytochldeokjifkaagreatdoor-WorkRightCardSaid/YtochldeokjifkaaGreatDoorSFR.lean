import Derived.Test.YtochldeokjifkaaGreatDoorSJR
import Derived.Test.YtochldeokjifkaaGreatDoorSGR
import Derived.Test.YtochldeokjifkaaGreatDoorAI4toWRC
import Derived.Test.YtochldeokjifkaaGreatDoorAL32toAL34
import Derived.Test.YtochldeokjifkaaGreatDoorTie
import Derived.Test.YtochldeokjifkaaGreatDoorCards
import Derived.LaidMore
import Derived.Lay
import Derived.Stop.Joined
import Derived.JoinedOf
import Derived.Carry
import Derived.ChangeMaps5
set_option linter.all false
set_option autoImplicit true
set_option relaxedAutoImplicit true
set_option maxRecDepth 100000
set_option maxHeartbeats 0
namespace Go.Proofs.YtochldeokjifkaaGreatDoor
open Go Go.Proofs.YtochldeokjifkaaGreatDoor.AL Go.RowKit Go.ChangeShapes Go.WideShapes Go.ChangeAt
theorem i64_in {a : Int} (h : (Lit.int .i64 a).wf = true) : -9223372036854775808 ≤ a ∧ a ≤ 9223372036854775807 := by
  simp only [Lit.wf, Bool.and_eq_true, decide_eq_true_eq] at h
  exact h
theorem law_lifted (os : Os) (started : os.Started) (H : Type) (enc : TypeId × Value → H) :
    ReturnsInHanded {} Tryz.checked os 3 .any (fun w args => (Rows.workRightSpec.pre enc Tryz.prog Tryz.f3 [] false w args ∧ laidMetH Tryz.prog theLaid w) ∧ sizedMet enc Tryz.prog Tryz.f3 (OpenSpec.ofChange Rows.workRightSpec) false w args)
      (Rows.workRightSpec.post enc Tryz.prog Tryz.f3 false true false false) := by
  refine returns_sized (C := Tryz.checked) (X := fun w _ => laidMetH Tryz.prog theLaid w) (fun _ _ _ hh h => h.of_heap hh) own started (by kernel_rfl) Tryz.func3
    (ChangeSpec.witness_shaped (enc := enc) (C := Tryz.checked) (os := os) (X := fun w _ => laidMetH Tryz.prog theLaid w) false (World.laidAll Tryz.prog os theLaid) #[.agg #[.int .i64 0, .string ⟨#[]⟩, .string ⟨#[]⟩, .int .i64 0], .int .i64 0, .int .i64 0, .int .i64 0, .string ⟨#[]⟩] 8 (World.laidAll_os _ _ _)
      (World.shaped_of_ZipB (by kernel_rfl) (by kernel_rfl)) (by kernel_rfl) (by kernel_rfl) (by kernel_rfl) (laid_witness os _)) ?_
  intro W base args ds gs before hval0 hW hz hL hS
  have hval : ∀ (j : Nat) t v, Tryz.f3.params[j]? = some t → args[j]? = some v → Value.okWide Tryz.prog W .any base t v := hval0
  have hW' := hW
  obtain ⟨p, q, hA0, hV, rfl, _, _⟩ := hW
  have hA : DataW.TrodAll enc Tryz.prog W 0 (fun _ => true) true Tryz.f3.params.toList args.toList ds p := hA0
  rw [Tryz.params3] at hA hval hz
  obtain ⟨v0, v1, v2, v3, v4, d0, d1, d2, d3, d4, p0, p1, p2, p3, p4, rfl, rfl, rfl, h0, h1, h2, h3, h4⟩ := trodAll_five hA
  obtain ⟨rfl, rfl⟩ := trodVars_none hV
  letI TT := tabs5' (intSyms [])
  obtain ⟨ka0, na0, ta0, xa0, rfl, rfl, rfl, w0, x0⟩ := open_req Tryz.underlying23 (by kernel_rfl) (by kernel_rfl) Tryz.underlying3 Tryz.underlying9 Tryz.underlying9 Tryz.underlying3 (hval 0 23 v0 rfl rfl) h0
  obtain ⟨a1, rfl, rfl, rfl, w1⟩ := open_int Tryz.underlying3 (hval 1 3 v1 rfl rfl) h1
  obtain ⟨a2, rfl, rfl, rfl, w2⟩ := open_int Tryz.underlying3 (hval 2 3 v2 rfl rfl) h2
  obtain ⟨a3, rfl, rfl, rfl, w3⟩ := open_int Tryz.underlying3 (hval 3 3 v3 rfl rfl) h3
  obtain ⟨⟨⟨a4⟩⟩, rfl, rfl, rfl, w4⟩ := Go.ChangeMaps.open_string Tryz.underlying9 (hval 4 9 v4 rfl rfl) h4
  simp only [List.cons_append, List.nil_append, DataW.weightsEach, DataW.weights, List.all_append, List.all_cons, List.all_nil, Bool.and_true, Bool.true_and, Bool.and_eq_true, reachBytes] at hz
  obtain ⟨y0, z4, _⟩ := hz
  have c : ACall Pg 3 [.agg [I ka0, T na0, T ta0, I xa0], I a1, I a2, I a3, T a4] [] fun r _ => r = B true := right_card_law   w0 x0 (i64_in w1) (i64_in w2) (i64_in w3) (Nat.le_trans (of_decide_eq_true z4) (show 140737488351232 ≤ 140737488355328 by decide)) (fun _ => rfl)
  have hr : RepL (G0 W) [.agg [I ka0, T na0, T ta0, I xa0], I a1, I a2, I a3, T a4] [.agg #[.int .i64 ka0, .string ⟨⟨na0⟩⟩, .string ⟨⟨ta0⟩⟩, .int .i64 xa0], .int .i64 a1, .int .i64 a2, .int .i64 a3, .string ⟨⟨a4⟩⟩] := by simp only [RepL]; exact ⟨_, _, rfl, by simp [RepL, Rep, Value.oneCell'], ⟨_, _, rfl, by simp [RepL, Rep, Value.oneCell'], ⟨_, _, rfl, by simp [RepL, Rep, Value.oneCell'], ⟨_, _, rfl, by simp [RepL, Rep, Value.oneCell'], ⟨_, _, rfl, by simp [RepL, Rep, Value.oneCell'], rfl⟩⟩⟩⟩⟩
  refine (calls_true (P := Tryz.prog) (f := 3) (ht := tabs_start (intSyms []) hL hS) hr c).mono fun e W' ⟨he, hb⟩ => ?_
  subst he
  exact ⟨_, rfl, post_true (ds := [.agg [.lit (.int .i64 ka0), .lit (.string na0), .lit (.string ta0), .lit (.int .i64 xa0)], .lit (.int .i64 a1), .lit (.int .i64 a2), .lit (.int .i64 a3), .lit (.string a4)]) (gs := []) laidOut (fun t ht => by
    rw [Tryz.params3] at ht; simp at ht
    first | (subst ht; exact ⟨by kernel_rfl, of_decide_eq_true (by kernel_rfl)⟩) | (rcases ht with rfl | rfl <;> exact ⟨by kernel_rfl, of_decide_eq_true (by kernel_rfl)⟩) | (rcases ht with rfl | rfl | rfl <;> exact ⟨by kernel_rfl, of_decide_eq_true (by kernel_rfl)⟩) | (rcases ht with rfl | rfl | rfl | rfl <;> exact ⟨by kernel_rfl, of_decide_eq_true (by kernel_rfl)⟩) | (rcases ht with rfl | rfl | rfl | rfl | rfl <;> exact ⟨by kernel_rfl, of_decide_eq_true (by kernel_rfl)⟩)) rfl rfl Tryz.underlying4 hW' rfl rfl rfl hb⟩
theorem law_holds : Rows.WorkRightSaid :=
  OpenClaim.holds_of_wide 3 Tryz.f3 rfl rfl rfl rfl rfl rfl rfl ⟨rfl, rfl, rfl, rfl, rfl⟩ rfl rfl rfl rfl rfl (by kernel_rfl) Tryz.func3 jf
    (of_decide_eq_true (by kernel_rfl)) (by unfold Func.isWrapper; first | (rw [if_pos (by decide +kernel)]; kernel_rfl) | (rw [if_neg (by decide +kernel)]; exact ⟨rfl, rfl⟩))
    (fun os started H enc _ => law_lifted os started H enc)
theorem workRight_card : Rows.WorkRightCardSaid :=
  Claim7.holds_tied_plain_at .later [] [.data, .data, .data, .data, .sentinel, .sentinel, .listed, .data, .pinned] true (true, "c8346e79a6983d9af2ed98fccc1342407704f35c386fde88aac8c1ad073c0501") true
    law_holds (fun _ h => by cases h) card_wf (fun _ h => by cases h) workRight_row_tie rfl ⟨rfl, rfl⟩ card_main rfl
    (fun f fn hf hfn => by
      obtain rfl : f = 3 := Option.some.inj (card_named.symm.trans hf) |>.symm
      obtain rfl : fn = Tryz.f3 := (Option.some.inj (Tryz.func3.symm.trans hfn)).symm
      exact ⟨card_looks, fun j t ht => by
        rw [Tryz.params3] at ht
        have hm : t ∈ [23, 3, 3, 3, 9] := by simpa using Array.mem_of_getElem? ht
        exact (show Tryz.prog.wantsStandIn t = false by simpa using List.all_eq_true.1 card_all t hm)⟩)
    card_goes
end Go.Proofs.YtochldeokjifkaaGreatDoor
