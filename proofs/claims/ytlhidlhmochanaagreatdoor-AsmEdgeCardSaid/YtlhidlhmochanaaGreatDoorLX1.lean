import Derived.Test.YtlhidlhmochanaaGreatDoorLXr0
import Derived.Test.YtlhidlhmochanaaGreatDoorLXr1
import Derived.Test.YtlhidlhmochanaaGreatDoorLXr2
set_option linter.all false
set_option autoImplicit true
set_option relaxedAutoImplicit true
set_option maxRecDepth 100000
namespace Go.Proofs.YtlhidlhmochanaaGreatDoor.AL
noncomputable section
section
variable [Tabs]
theorem edgeAll_at {a n : Nat} {back : Bool} {op : Str} (h : edgeAll a n back op = true) {j : Nat} (h1 : a ≤ j) (h2 : j < a + n) : edgeB (2 * j) back op = true := by
  have := List.all_eq_true.1 h (j - a) (List.mem_range.2 (by omega))
  rwa [show a + (j - a) = j by omega] at this
theorem edge_op {back : Bool} {op : Str} (h0 : edgeAll 0 75 back op = true) (h1 : edgeAll 75 75 back op = true) (h2 : edgeAll 150 75 back op = true) (h3 : edgeAll 225 75 back op = true) {j : Nat} (hj : j < 300) : edgeB (2 * j) back op = true := by
  by_cases a : j < 75
  · exact edgeAll_at h0 (by omega) (by omega)
  · by_cases b : j < 150
    · exact edgeAll_at h1 (by omega) (by omega)
    · by_cases c : j < 225
      · exact edgeAll_at h2 (by omega) (by omega)
      · exact edgeAll_at h3 (by omega) (by omega)
theorem edge_all {j : Nat} (hj : j < 300) (back : Bool) {op : Str} (ho : op ∈ edgeOps) : edgeB (2 * j) back op = true := by
  simp only [edgeOps, List.mem_cons, List.not_mem_nil, or_false] at ho
  rcases ho with rfl | rfl | rfl <;> cases back
  · exact edge_op edge_0f0 edge_0f75 edge_0f150 edge_0f225 hj
  · exact edge_op edge_0t0 edge_0t75 edge_0t150 edge_0t225 hj
  · exact edge_op edge_1f0 edge_1f75 edge_1f150 edge_1f225 hj
  · exact edge_op edge_1t0 edge_1t75 edge_1t150 edge_1t225 hj
  · exact edge_op edge_2f0 edge_2f75 edge_2f150 edge_2f225 hj
  · exact edge_op edge_2t0 edge_2t75 edge_2t150 edge_2t225 hj
variable {h : AHeap} {Q : QT} {K : AV → Prop}
theorem edge_j7 (hF : FieldsOk) (hI : IndexOk) (hA : AtoiOk) (hL : LdexpOk) {j : Nat} (hj : j < 300) (back : Bool) {op : Str} (ho : op ∈ edgeOps) (k : ∀ h', Q (B true) h') : law5_AsmEdge_j7 (I (edgeTo (2 * j) back)) (T (edgeSrc (2 * j) back op)) h Q := by
  unfold law5_AsmEdge_j7
  have hb := edge_all hj back ho
  unfold edgeB at hb
  simp only [Bool.and_eq_true, List.isEmpty_iff, decide_eq_true_eq] at hb
  obtain ⟨hw, hd, hg⟩ := hb
  have hto : -10000 ≤ edgeTo (2 * j) back ∧ edgeTo (2 * j) back ≤ 10000 := by unfold edgeTo; split <;> omega
  unfold edgeWant at hg
  generalize edgeSrc (2 * j) back op = src at *
  generalize edgeTo (2 * j) back = to at *
  refine st_build rfl (st_buildS rfl rfl ?_)
  refine grown_sp hF hI hA hL (frags := [([97], src)]) (syms := []) (Row.full (enc := frE) (fun _ => rfl) [([97], src)]) .nil (fewB_ok hw) (fun hn => (hn hd).elim) fun _ h4 f4 => ?_
  rw [hg]
  refine st_ext rfl (st_ext rfl (st_geq ?_))
  have j6 : ∀ w : Int, w = (if -256 ≤ to ∧ to ≤ 254 then 2 else 4) → law5_AsmEdge_j6 (I w) (B true) (.snap ([if -256 ≤ to ∧ to ≤ 254 then (2 : Int) else 4]).length (([if -256 ≤ to ∧ to ≤ 254 then (2 : Int) else 4]).flatMap iE)) h4 Q := by
    intro w hw
    rw [← hw]
    unfold law5_AsmEdge_j6
    refine st_if (fun _ => ?_) (fun h => by cases h)
    refine st_lenL1 (st_eql (st_if (fun _ => ?_) (fun h => by cases h)))
    have rg : Row iE 1 h4 (.snap ([w] : List Int).length (([w] : List Int).flatMap iE)) [w] := Row.snap (enc := iE) (fun _ => rfl) _
    refine rg.idx (j := 0) (fun _ => rfl) (by simp) fun p t => ?_
    refine st_pload1 t (st_eql ?_)
    have := k h4
    simpa using this
  refine st_if (fun h1 => ?_) (fun h1 => ?_) <;> simp only [za, zb, zc, zd, ze, zf, zg, zh, zi, u8i, zj, zk, zl] at h1
  · refine st_leq ?_
    refine st_if (fun h2 => ?_) (fun h2 => ?_) <;> simp only [za, zb, zc, zd, ze, zf, zg, zh, zi, u8i, zj, zk, zl] at h2
    · exact j6 2 (by rw [if_pos ⟨h1, h2⟩])
    · exact j6 4 (by rw [if_neg (by omega)])
  · exact j6 4 (by rw [if_neg (by omega)])
theorem edge_law (hF : FieldsOk) (hI : IndexOk) (hA : AtoiOk) (hL : LdexpOk) {a c : Int} (back : Bool) (ha : -9223372036854775808 ≤ a ∧ a ≤ 9223372036854775807) (hc : -9223372036854775808 ≤ c ∧ c ≤ 9223372036854775807) (k : ∀ h', Q (B true) h') : C fn_law5_AsmEdge [I a, B back, I c] h Q := by
  refine law5_AsmEdge_ok _ _ _ _ _ ?_
  unfold law5_AsmEdge
  refine law5_known_sp hF hI hA hL fun h1 f1 => ?_
  refine st_not (st_if (fun h => by cases h) (fun _ => ?_))
  refine law5_within_sp (by decide) (by decide) ha ?_
  obtain ⟨j, hj⟩ := Int.eq_ofNat_of_zero_le (Int.emod_nonneg a (show (300 : Int) ≠ 0 by decide))
  have hj2 : j < 300 := by have := Int.emod_lt_of_pos a (show (0 : Int) < 300 by decide); omega
  rw [hj]
  refine st_mul (by omega) ?_
  rw [show (2 : Int) * (j : Nat) = ((2 * j : Nat) : Int) by omega]
  refine st_buildS rfl rfl ?_
  refine law5_within_sp (by decide) (by decide) hc ?_
  obtain ⟨m, hm⟩ := Int.eq_ofNat_of_zero_le (Int.emod_nonneg c (show (3 : Int) ≠ 0 by decide))
  have hm2 : m < edgeOps.length := by have := Int.emod_lt_of_pos c (show (0 : Int) < 3 by decide); show m < 3; omega
  rw [hm]
  refine (Row.full (h := h1) (enc := sE) (fun _ => rfl) edgeOps).idx (fun _ => rfl) hm2 fun p t => ?_
  refine st_pload1 t ?_
  have ho := List.getElem_mem hm2
  have hol : edgeOps[m].length ≤ 9 := by
    have : ∀ x ∈ edgeOps, x.length ≤ 9 := by decide
    exact this _ ho
  generalize edgeOps[m] = op at ho hol ⊢
  have hd3 := digM_len 3 (2 * j)
  refine st_cat (by simp; omega) ?_
  refine digits_sp 2 (2 * j) (by omega) (by decide) _ _ fun h2 f2 => ?_
  refine st_cat (by simp; omega) ?_
  refine st_cat (by simp; omega) ?_
  refine st_add (by omega) ?_
  cases back with
  | true =>
    refine st_if (fun _ => ?_) (fun h => by cases h)
    refine digits_sp 2 (2 * j) (by omega) (by decide) _ _ fun h3 f3 => ?_
    refine st_cat (by simp; omega) ?_
    refine st_cat (by simp; omega) ?_
    refine st_cat (by simp; omega) ?_
    refine st_cat (by simp; omega) ?_
    refine st_sub (by omega) ?_
    exact edge_j7 hF hI hA hL hj2 true ho k
  | false =>
    refine st_if (fun h => by cases h) (fun _ => ?_)
    exact edge_j7 hF hI hA hL hj2 false ho k
end
end
end Go.Proofs.YtlhidlhmochanaaGreatDoor.AL
