import Derived.Test.YtpjhnkdbfdglgaaGreatDoorSPK
import Derived.Test.YtpjhnkdbfdglgaaGreatDoorAL27toAL31
set_option linter.all false
set_option autoImplicit true
set_option relaxedAutoImplicit true
set_option maxRecDepth 100000
namespace Go.Proofs.YtpjhnkdbfdglgaaGreatDoor.AL
noncomputable section
theorem known_run [Tabs] : runG Pg tb5 spK 100 fn_law8_known [] .leaf 0 (fun r t _ => chkR (B true) r t) = true := by kernel_rfl
theorem known8 [Tabs5] (h : AHeap) (Q : QT) (q : Q (B true) h) : C fn_law8_known [] h Q := closed_call Tabs5.tb spK_ok (d := 100) (B true) rfl rfl known_run q
end
end Go.Proofs.YtpjhnkdbfdglgaaGreatDoor.AL
namespace Go.Proofs.YtpjhnkdbfdglgaaGreatDoor.AL
noncomputable section
section
variable [Tabs]
theorem within_any (a : Int) (m : Nat) (h : AHeap) (Q : QT) (hm : m ≤ 1099511627776) (k : Q (I (a % ((m + 1 : Nat) : Int))) h) : C fn_law8_within [I a, I ((m + 1 : Nat) : Int)] h Q := by
  refine law8_within_ok _ _ _ _ ?_
  unfold law8_within law8_within_j0
  refine ⟨?_⟩
  have hne : ¬ ((m + 1 : Nat) : Int) = 0 := by omega
  simp only [pBin, binLit, if_true, intBin, if_neg hne]
  refine ⟨?_⟩
  simp only [pBin, binLit, if_true, intBin]
  have h0 := Int.emod_nonneg a (show ((m + 1 : Nat) : Int) ≠ 0 by omega)
  have h4 := Int.emod_lt_of_pos a (show (0 : Int) < ((m + 1 : Nat) : Int) by omega)
  have h3 : (a.tmod ((m + 1 : Nat) : Int) = a % ((m + 1 : Nat) : Int) ∧ 0 ≤ a.tmod ((m + 1 : Nat) : Int)) ∨ (a.tmod ((m + 1 : Nat) : Int) = a % ((m + 1 : Nat) : Int) - ((m + 1 : Nat) : Int) ∧ a.tmod ((m + 1 : Nat) : Int) < 0) := by
    rw [Int.tmod_eq_emod]
    have hab : (((m + 1 : Nat) : Int).natAbs : Int) = ((m + 1 : Nat) : Int) := by omega
    split
    · exact .inl ⟨by omega, by omega⟩
    · right; rw [hab]; exact ⟨rfl, by omega⟩
  generalize a.tmod ((m + 1 : Nat) : Int) = r at *
  by_cases hneg : r < 0
  · simp only [ifB, hneg, decide_true]
    refine ⟨?_⟩
    simp only [pBin, binLit, if_true, intBin, wrapI (show -9223372036854775808 ≤ r + ((m + 1 : Nat) : Int) ∧ r + ((m + 1 : Nat) : Int) ≤ 9223372036854775807 by omega)]
    rw [show r + ((m + 1 : Nat) : Int) = a % ((m + 1 : Nat) : Int) by omega]
    exact k
  · simp only [ifB, hneg, decide_false]
    rw [show r = a % ((m + 1 : Nat) : Int) by omega]
    exact k
end
def spL (ch : List (Nat × Nat × Nat)) : SpecB := fun f args t n K => match Nat.beq f fn_law8_within with | true => some (spWithin ch args t n K) | false => match Nat.beq f fn_law8_known with | true => (match args with | [] => some (K (B true) t n) | _ => some false) | false => spK f args t n K
theorem spL_ok [Tabs5] {ch : List (Nat × Nat × Nat)} (hch : ChOk ch) : SpecOk Pg (spL ch) := fun f args t n h K hr k => by
  unfold spL at k
  split at k
  · rename_i hf
    rw [Nat.eq_of_beq_eq_true hf]
    exact spWithin_ok hch (fun a m h Q hm k => within_any a m h Q hm k) hr (by simpa using k)
  split at k
  · rename_i hf
    rw [Nat.eq_of_beq_eq_true hf]
    split at k
    · exact known8 _ _ ⟨t, n, hr, by simpa using k⟩
    · simp at k
  · exact spK_ok _ _ _ _ _ _ hr k
end
end Go.Proofs.YtpjhnkdbfdglgaaGreatDoor.AL
set_option maxHeartbeats 0
namespace Go.Proofs.YtpjhnkdbfdglgaaGreatDoor.AL
noncomputable section
theorem us_run0 : runG Pg tb5 (spL [(0, 6, 0)]) 100 3 [.sym 0] .leaf 0 kTrue = true := by kernel_rfl
end
end Go.Proofs.YtpjhnkdbfdglgaaGreatDoor.AL
set_option maxHeartbeats 0
namespace Go.Proofs.YtpjhnkdbfdglgaaGreatDoor.AL
noncomputable section
theorem us_run1 : runG Pg tb5 (spL [(0, 6, 1)]) 100 3 [.sym 0] .leaf 0 kTrue = true := by kernel_rfl
end
end Go.Proofs.YtpjhnkdbfdglgaaGreatDoor.AL
set_option maxHeartbeats 0
namespace Go.Proofs.YtpjhnkdbfdglgaaGreatDoor.AL
noncomputable section
theorem us_run2 : runG Pg tb5 (spL [(0, 6, 2)]) 100 3 [.sym 0] .leaf 0 kTrue = true := by kernel_rfl
end
end Go.Proofs.YtpjhnkdbfdglgaaGreatDoor.AL
set_option maxHeartbeats 0
namespace Go.Proofs.YtpjhnkdbfdglgaaGreatDoor.AL
noncomputable section
theorem us_run3 : runG Pg tb5 (spL [(0, 6, 3)]) 100 3 [.sym 0] .leaf 0 kTrue = true := by kernel_rfl
end
end Go.Proofs.YtpjhnkdbfdglgaaGreatDoor.AL
set_option maxHeartbeats 0
namespace Go.Proofs.YtpjhnkdbfdglgaaGreatDoor.AL
noncomputable section
theorem us_run4 : runG Pg tb5 (spL [(0, 6, 4)]) 100 3 [.sym 0] .leaf 0 kTrue = true := by kernel_rfl
end
end Go.Proofs.YtpjhnkdbfdglgaaGreatDoor.AL
set_option maxHeartbeats 0
namespace Go.Proofs.YtpjhnkdbfdglgaaGreatDoor.AL
noncomputable section
theorem us_run5 : runG Pg tb5 (spL [(0, 6, 5)]) 100 3 [.sym 0] .leaf 0 kTrue = true := by kernel_rfl
end
end Go.Proofs.YtpjhnkdbfdglgaaGreatDoor.AL
set_option maxHeartbeats 0
namespace Go.Proofs.YtpjhnkdbfdglgaaGreatDoor.AL
noncomputable section
theorem us_all : ∀ j, j < 6 → runG Pg tb5 (spL [(0, 6, j)]) 100 3 [.sym 0] .leaf 0 kTrue = true
  | 0, _ => us_run0
  | 1, _ => us_run1
  | 2, _ => us_run2
  | 3, _ => us_run3
  | 4, _ => us_run4
  | 5, _ => us_run5
  | n + 6, h => absurd h (by omega)
theorem us_law (a : Int) : letI := tabs5' (intSyms [a]); ACall Pg 3 [.sym 0] [] fun r _ => r = B true := by
  letI T : Tabs5 := tabs5' (intSyms [a])
  obtain ⟨j, hj⟩ := Int.eq_ofNat_of_zero_le (Int.emod_nonneg a (show (6 : Int) ≠ 0 by omega))
  have hlt : j < 6 := by have := Int.emod_lt_of_pos a (show (0 : Int) < 6 by omega); omega
  have hch : ChOk [(0, 6, j)] := fun e he => by
    obtain rfl := List.mem_singleton.1 he
    exact ⟨a, rfl, hj⟩
  exact runG_true T.tb (spL_ok hch) (us_all j hlt)
end
end Go.Proofs.YtpjhnkdbfdglgaaGreatDoor.AL
