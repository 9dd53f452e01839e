import Derived.Test.YtamfimhaimaeiaaGreatDoorKR0
import Derived.Test.YtamfimhaimaeiaaGreatDoorKR1
import Derived.Test.YtamfimhaimaeiaaGreatDoorKR2
import Derived.Test.YtamfimhaimaeiaaGreatDoorKR3
import Derived.Test.YtamfimhaimaeiaaGreatDoorKR4
import Derived.Test.YtamfimhaimaeiaaGreatDoorKR5
import Derived.Test.YtamfimhaimaeiaaGreatDoorKR6
import Derived.Test.YtamfimhaimaeiaaGreatDoorKR7
import Derived.Test.YtamfimhaimaeiaaGreatDoorKR8
import Derived.Test.YtamfimhaimaeiaaGreatDoorKR9
set_option linter.all false
set_option autoImplicit true
set_option relaxedAutoImplicit true
set_option maxRecDepth 100000
set_option maxHeartbeats 0
namespace Go.Proofs.YtamfimhaimaeiaaGreatDoor.AL
noncomputable section
theorem ho_all_false : ∀ j, j < 20 → runG Pg tb5 (spL [(0, 20, j)]) 100 7 [.sym 0, B false] .leaf 0 kTrue = true
  | 0, _ => ho_false0
  | 1, _ => ho_false1
  | 2, _ => ho_false2
  | 3, _ => ho_false3
  | 4, _ => ho_false4
  | 5, _ => ho_false5
  | 6, _ => ho_false6
  | 7, _ => ho_false7
  | 8, _ => ho_false8
  | 9, _ => ho_false9
  | 10, _ => ho_false10
  | 11, _ => ho_false11
  | 12, _ => ho_false12
  | 13, _ => ho_false13
  | 14, _ => ho_false14
  | 15, _ => ho_false15
  | 16, _ => ho_false16
  | 17, _ => ho_false17
  | 18, _ => ho_false18
  | 19, _ => ho_false19
  | n + 20, h => absurd h (by omega)
theorem ho_all_true : ∀ j, j < 20 → runG Pg tb5 (spL [(0, 20, j)]) 100 7 [.sym 0, B true] .leaf 0 kTrue = true
  | 0, _ => ho_true0
  | 1, _ => ho_true1
  | 2, _ => ho_true2
  | 3, _ => ho_true3
  | 4, _ => ho_true4
  | 5, _ => ho_true5
  | 6, _ => ho_true6
  | 7, _ => ho_true7
  | 8, _ => ho_true8
  | 9, _ => ho_true9
  | 10, _ => ho_true10
  | 11, _ => ho_true11
  | 12, _ => ho_true12
  | 13, _ => ho_true13
  | 14, _ => ho_true14
  | 15, _ => ho_true15
  | 16, _ => ho_true16
  | 17, _ => ho_true17
  | 18, _ => ho_true18
  | 19, _ => ho_true19
  | n + 20, h => absurd h (by omega)
theorem ho_law (b : Bool) (a : Int) : letI := tabs5' (intSyms [a]); ACall Pg 7 [.sym 0, B b] [] fun r _ => r = B true := by
  letI T : Tabs5 := tabs5' (intSyms [a])
  obtain ⟨j, hj⟩ := Int.eq_ofNat_of_zero_le (Int.emod_nonneg a (show (20 : Int) ≠ 0 by omega))
  have hlt : j < 20 := by have := Int.emod_lt_of_pos a (show (0 : Int) < 20 by omega); omega
  have hch : ChOk [(0, 20, j)] := fun e he => by
    obtain rfl := List.mem_singleton.1 he
    exact ⟨a, rfl, hj⟩
  cases b
  · exact runG_true T.tb (spL_ok hch) (ho_all_false j hlt)
  · exact runG_true T.tb (spL_ok hch) (ho_all_true j hlt)
end
end Go.Proofs.YtamfimhaimaeiaaGreatDoor.AL
