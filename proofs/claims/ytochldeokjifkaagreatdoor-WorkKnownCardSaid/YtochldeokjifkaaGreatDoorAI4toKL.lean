import Derived.Test.YtochldeokjifkaaGreatDoorAI3
import Derived.Laws.RangeString
import Derived.Laws.RangeAny
import Derived.Test.YtochldeokjifkaaGreatDoorMP1toAI2
import Derived.Test.YtochldeokjifkaaGreatDoorF9
import Derived.Test.YtochldeokjifkaaGreatDoorSPK
import Derived.Test.YtochldeokjifkaaGreatDoorAL27toAL31
set_option linter.all false
set_option autoImplicit true
set_option relaxedAutoImplicit true
set_option maxRecDepth 100000
namespace Go.Proofs.YtochldeokjifkaaGreatDoor.AL
noncomputable section
variable [Tabs]
end
end Go.Proofs.YtochldeokjifkaaGreatDoor.AL
namespace Go.Proofs.YtochldeokjifkaaGreatDoor.AL
noncomputable section
variable [Tabs]
def pSmall (c : Nat) : Bool := (decide (97 ≤ c) && decide (c ≤ 122)) || decide (c = 95)
def pDigit (c : Nat) : Bool := decide (48 ≤ c) && decide (c ≤ 57)
def pInner (c : Nat) : Bool := pSmall c || pDigit c
def isWord (s : Str) : Bool := match s with
  | [] => false
  | c :: t => decide (s.length ≤ 12) && (!pDigit c.toNat && (s.all (fun c => pInner c.toNat) && (decide (c ≠ 114) || (t.isEmpty || !(t.all fun c => pDigit c.toNat)))))
end
end Go.Proofs.YtochldeokjifkaaGreatDoor.AL
namespace Go.Proofs.YtochldeokjifkaaGreatDoor.AL
noncomputable section
variable [Tabs]
inductive Ex where
  | none
  | num (n : Nat)
  | name (s : Str)
  | here
  | neg (e : Ex)
  | bin (k : Nat) (a b : Ex)
  deriving DecidableEq
def encE : Ex → List AV
  | .none => [I 0, I 0, T [], .full 0 []]
  | .num n => [I 1, I (n : Nat), T [], .full 0 []]
  | .name s => [I 2, I 0, T s, .full 0 []]
  | .here => [I 3, I 0, T [], .full 0 []]
  | .neg e => [I 4, I 0, T [], .full 1 (encE e)]
  | .bin k a b => [I (k : Nat), I 0, T [], .full 2 (encE a ++ encE b)]
abbrev pO (l : Str) (d : Nat) (b : Bool) : AObj := .cells [T l, I (d : Nat), B b]
abbrev blk (l : Str) : Str := dropB 32 l
section
variable {i d : Nat} {l : Str} {h : AHeap} {Q : QT}
end
structure PRes (i D : Nat) (m : Option (Ex × Str)) (h : AHeap) (Q : QT) : Prop where
  good : ∀ x l' h', m = some (x, l') → Fr [i] h h' → h'[i]? = some (pO l' D false) → Q (.agg (encE x)) h'
  bad : ∀ cs l' h', m = none → Fr [i] h h' → h'[i]? = some (pO l' D true) → cs.length = 4 → cs.all AV.one = true → Q (.agg cs) h'
theorem PRes.fr {i D : Nat} {m : Option (Ex × Str)} {h h1 : AHeap} {Q : QT} (r : PRes i D m h Q) (f : Fr [i] h h1) : PRes i D m h1 Q :=
  ⟨fun x l' h' e f' => r.good x l' h' e (f.trans f' (by simp)), fun cs l' h' e f' => r.bad cs l' h' e (f.trans f' (by simp))⟩
end
end Go.Proofs.YtochldeokjifkaaGreatDoor.AL
namespace Go.Proofs.YtochldeokjifkaaGreatDoor.AL
noncomputable section
variable [Tabs]
section
variable {i D : Nat} {l : Str} {h : AHeap} {Q : QT}
end
end
end Go.Proofs.YtochldeokjifkaaGreatDoor.AL
namespace Go.Proofs.YtochldeokjifkaaGreatDoor.AL
noncomputable section
variable [Tabs]
section
variable {i D : Nat} {l : Str} {h : AHeap} {Q : QT}
end
end
end Go.Proofs.YtochldeokjifkaaGreatDoor.AL
namespace Go.Proofs.YtochldeokjifkaaGreatDoor.AL
noncomputable section
variable [Tabs]
section
variable {h : AHeap} {Q : QT}
end
end
end Go.Proofs.YtochldeokjifkaaGreatDoor.AL
namespace Go.Proofs.YtochldeokjifkaaGreatDoor.AL
noncomputable section
variable [Tabs]
end
end Go.Proofs.YtochldeokjifkaaGreatDoor.AL
namespace Go.Proofs.YtochldeokjifkaaGreatDoor.AL
noncomputable section
variable [Tabs]
section
variable {h : AHeap} {Q : QT}
end
end
end Go.Proofs.YtochldeokjifkaaGreatDoor.AL
namespace Go.Proofs.YtochldeokjifkaaGreatDoor.AL
noncomputable section
structure Rq where
  kind : Int
  name : Str
  text : Str
  value : Int
section
variable [Tabs]
variable {h0 h : AHeap} {M : List Nat} {L R : Own} {K : AV → Prop} {Q : QT}
end
end
end Go.Proofs.YtochldeokjifkaaGreatDoor.AL
namespace Go.Proofs.YtochldeokjifkaaGreatDoor.AL
noncomputable section
structure WkM where
  f : KL Str
  s : KL Int
section
variable [Tabs]
variable {h0 h : AHeap} {M : List Nat} {L R : Own} {K : AV → Prop} {Q : QT}
def WkS (h0 : AHeap) (M : List Nat) (h : AHeap) (i : Nat) (w : WkM) (R : Own) : Prop := ∃ jf js xf xs, MapS T w.f xf ∧ MapS I w.s xs ∧ St h0 M h ((i, true, .cells [.map jf, .map js]) :: (jf, true, xf) :: (js, true, xs) :: R)
theorem St.after (s : St h0 M h L) {h' : AHeap} (f : Fr [] h h') : St h0 M h' L :=
  ⟨s.fr.trans f (by simp), fun e he => f.get (s.at_ e he) (by simp), s.own, s.nd⟩
structure WkOk (w : WkM) : Prop where
  txt : ∀ x ∈ w.f, x.2.length ≤ 600
  fn : w.f.length ≤ 8
  sn : w.s.length ≤ 8
  fw : ∀ x ∈ w.f, isWord x.1 = true
  sw : ∀ x ∈ w.s, isWord x.1 = true
  sv : ∀ x ∈ w.s, -1099511627776 ≤ x.2 ∧ x.2 ≤ 1099511627776
end
end
end Go.Proofs.YtochldeokjifkaaGreatDoor.AL
namespace Go.Proofs.YtochldeokjifkaaGreatDoor.AL
noncomputable section
section
variable [Tabs]
variable {h0 h : AHeap} {M : List Nat} {L R : Own} {K : AV → Prop} {Q : QT}
structure KSOk : Prop where
  k1 : ∃ tm, KeysIs Pg fn_maps_Keys_map_stringstring_string_string fn_maps_Keys_map_stringstring_string_string_1 tm
  s1 : ∃ ks, SortedIs Pg fn_slices_Sorted_string fn_maps_Keys_map_stringstring_string_string_1 ks
  k2 : ∃ tm, KeysIs Pg fn_maps_Keys_map_stringint_string_int fn_maps_Keys_map_stringint_string_int_1 tm
  s2 : ∃ ks, SortedIs Pg fn_slices_Sorted_string fn_maps_Keys_map_stringint_string_int_1 ks
theorem AccE.row {α : Type} {enc : α → List AV} {sz : Nat} {v : AV} {l : List α} {E : Own} (a : AccE sz v l.length (l.flatMap enc) E) (s : St h0 M h (E ++ L)) : Row enc sz h v l := a.rd s
end
end
end Go.Proofs.YtochldeokjifkaaGreatDoor.AL
namespace Go.Proofs.YtochldeokjifkaaGreatDoor.AL
noncomputable section
structure WkSo (w : WkM) : Prop where
  f : SoK w.f
  s : SoK w.s
theorem WkSo.nil : WkSo ⟨[], []⟩ := ⟨List.Pairwise.nil, List.Pairwise.nil⟩
theorem WkOk.nil : WkOk ⟨[], []⟩ := ⟨by simp, by simp, by simp, by simp, by simp, by simp⟩
section
variable [Tabs]
variable {h0 h : AHeap} {M : List Nat} {L R R' : Own} {K : AV → Prop} {KH : QT} {KS' : AHeap → Prop} {Q : QT} {i : Nat} {w : WkM}
theorem WkS.so (s : WkS h0 M h i w R) : WkSo w := by
  obtain ⟨jf, js, xf, xs, ⟨_, _, _, mf⟩, ⟨_, _, _, ms⟩, s⟩ := s
  exact ⟨mf.so, ms.so⟩
theorem WkS.rest (s : WkS h0 M h i w R) : St h0 M h R := by
  obtain ⟨jf, js, xf, xs, mf, ms, s⟩ := s
  exact s.drop1.drop1.drop1
theorem WkS.after (s : WkS h0 M h i w R) {h' : AHeap} (f : Fr [] h h') : WkS h0 M h' i w R := by
  obtain ⟨jf, js, xf, xs, mf, ms, s⟩ := s
  exact ⟨jf, js, xf, xs, mf, ms, s.after f⟩
def Known9 : Prop := ∀ (h : AHeap) (Q : QT), Q (B true) h → C fn_law9_known [] h Q
end
end
end Go.Proofs.YtochldeokjifkaaGreatDoor.AL
namespace Go.Proofs.YtochldeokjifkaaGreatDoor.AL
noncomputable section
theorem known_run [Tabs] : runG Pg tb5 spK 100 fn_law9_known [] .leaf 0 (fun r t _ => chkR (B true) r t) = true := by kernel_rfl
theorem known9 [Tabs5] : Known9 := fun h Q q => closed_call Tabs5.tb spK_ok (d := 100) (B true) rfl rfl known_run q
end
end Go.Proofs.YtochldeokjifkaaGreatDoor.AL
namespace Go.Proofs.YtochldeokjifkaaGreatDoor.AL
noncomputable section
section
variable [Tabs]
theorem within_any (a : Int) (m : Nat) (h : AHeap) (Q : QT) (hm : m ≤ 1099511627776) (k : Q (I (a % ((m + 1 : Nat) : Int))) h) : C fn_law9_within [I a, I ((m + 1 : Nat) : Int)] h Q := by
  refine law9_within_ok _ _ _ _ ?_
  unfold law9_within law9_within_j0
  refine ⟨?_⟩
  have hne : ¬ ((m + 1 : Nat) : Int) = 0 := by omega
  simp only [pBin, binLit, if_true, intBin, if_neg hne]
  refine ⟨?_⟩
  simp only [pBin, binLit, if_true, intBin]
  have h0 := Int.emod_nonneg a (show ((m + 1 : Nat) : Int) ≠ 0 by omega)
  have h4 := Int.emod_lt_of_pos a (show (0 : Int) < ((m + 1 : Nat) : Int) by omega)
  have h3 : (a.tmod ((m + 1 : Nat) : Int) = a % ((m + 1 : Nat) : Int) ∧ 0 ≤ a.tmod ((m + 1 : Nat) : Int)) ∨ (a.tmod ((m + 1 : Nat) : Int) = a % ((m + 1 : Nat) : Int) - ((m + 1 : Nat) : Int) ∧ a.tmod ((m + 1 : Nat) : Int) < 0) := by
    rw [Int.tmod_eq_emod]
    have hab : (((m + 1 : Nat) : Int).natAbs : Int) = ((m + 1 : Nat) : Int) := by omega
    split
    · exact .inl ⟨by omega, by omega⟩
    · right; rw [hab]; exact ⟨rfl, by omega⟩
  generalize a.tmod ((m + 1 : Nat) : Int) = r at *
  by_cases hneg : r < 0
  · simp only [ifB, hneg, decide_true]
    refine ⟨?_⟩
    simp only [pBin, binLit, if_true, intBin, wrapI (show -9223372036854775808 ≤ r + ((m + 1 : Nat) : Int) ∧ r + ((m + 1 : Nat) : Int) ≤ 9223372036854775807 by omega)]
    rw [show r + ((m + 1 : Nat) : Int) = a % ((m + 1 : Nat) : Int) by omega]
    exact k
  · simp only [ifB, hneg, decide_false]
    rw [show r = a % ((m + 1 : Nat) : Int) by omega]
    exact k
end
def spL (ch : List (Nat × Nat × Nat)) : SpecB := fun f args t n K => match Nat.beq f fn_law9_within with | true => some (spWithin ch args t n K) | false => match Nat.beq f fn_law9_known with | true => (match args with | [] => some (K (B true) t n) | _ => some false) | false => spK f args t n K
theorem spL_ok [Tabs5] {ch : List (Nat × Nat × Nat)} (hch : ChOk ch) : SpecOk Pg (spL ch) := fun f args t n h K hr k => by
  unfold spL at k
  split at k
  · rename_i hf
    rw [Nat.eq_of_beq_eq_true hf]
    exact spWithin_ok hch (fun a m h Q hm k => within_any a m h Q hm k) hr (by simpa using k)
  split at k
  · rename_i hf
    rw [Nat.eq_of_beq_eq_true hf]
    split at k
    · exact known9 _ _ ⟨t, n, hr, by simpa using k⟩
    · simp at k
  · exact spK_ok _ _ _ _ _ _ hr k
end
end Go.Proofs.YtochldeokjifkaaGreatDoor.AL
set_option maxHeartbeats 0
namespace Go.Proofs.YtochldeokjifkaaGreatDoor.AL
noncomputable section
theorem kn_run0 : runG Pg tb5 (spL [(0, 14, 0)]) 100 7 [.sym 0] .leaf 0 kTrue = true := by kernel_rfl
theorem kn_run4 : runG Pg tb5 (spL [(0, 14, 4)]) 100 7 [.sym 0] .leaf 0 kTrue = true := by kernel_rfl
theorem kn_run8 : runG Pg tb5 (spL [(0, 14, 8)]) 100 7 [.sym 0] .leaf 0 kTrue = true := by kernel_rfl
theorem kn_run12 : runG Pg tb5 (spL [(0, 14, 12)]) 100 7 [.sym 0] .leaf 0 kTrue = true := by kernel_rfl
end
end Go.Proofs.YtochldeokjifkaaGreatDoor.AL
set_option maxHeartbeats 0
namespace Go.Proofs.YtochldeokjifkaaGreatDoor.AL
noncomputable section
theorem kn_run1 : runG Pg tb5 (spL [(0, 14, 1)]) 100 7 [.sym 0] .leaf 0 kTrue = true := by kernel_rfl
theorem kn_run5 : runG Pg tb5 (spL [(0, 14, 5)]) 100 7 [.sym 0] .leaf 0 kTrue = true := by kernel_rfl
theorem kn_run9 : runG Pg tb5 (spL [(0, 14, 9)]) 100 7 [.sym 0] .leaf 0 kTrue = true := by kernel_rfl
theorem kn_run13 : runG Pg tb5 (spL [(0, 14, 13)]) 100 7 [.sym 0] .leaf 0 kTrue = true := by kernel_rfl
end
end Go.Proofs.YtochldeokjifkaaGreatDoor.AL
set_option maxHeartbeats 0
namespace Go.Proofs.YtochldeokjifkaaGreatDoor.AL
noncomputable section
theorem kn_run2 : runG Pg tb5 (spL [(0, 14, 2)]) 100 7 [.sym 0] .leaf 0 kTrue = true := by kernel_rfl
theorem kn_run6 : runG Pg tb5 (spL [(0, 14, 6)]) 100 7 [.sym 0] .leaf 0 kTrue = true := by kernel_rfl
theorem kn_run10 : runG Pg tb5 (spL [(0, 14, 10)]) 100 7 [.sym 0] .leaf 0 kTrue = true := by kernel_rfl
end
end Go.Proofs.YtochldeokjifkaaGreatDoor.AL
set_option maxHeartbeats 0
namespace Go.Proofs.YtochldeokjifkaaGreatDoor.AL
noncomputable section
theorem kn_run3 : runG Pg tb5 (spL [(0, 14, 3)]) 100 7 [.sym 0] .leaf 0 kTrue = true := by kernel_rfl
theorem kn_run7 : runG Pg tb5 (spL [(0, 14, 7)]) 100 7 [.sym 0] .leaf 0 kTrue = true := by kernel_rfl
theorem kn_run11 : runG Pg tb5 (spL [(0, 14, 11)]) 100 7 [.sym 0] .leaf 0 kTrue = true := by kernel_rfl
end
end Go.Proofs.YtochldeokjifkaaGreatDoor.AL
set_option maxHeartbeats 0
namespace Go.Proofs.YtochldeokjifkaaGreatDoor.AL
noncomputable section
theorem kn_all : ∀ j, j < 14 → runG Pg tb5 (spL [(0, 14, j)]) 100 7 [.sym 0] .leaf 0 kTrue = true
  | 0, _ => kn_run0
  | 1, _ => kn_run1
  | 2, _ => kn_run2
  | 3, _ => kn_run3
  | 4, _ => kn_run4
  | 5, _ => kn_run5
  | 6, _ => kn_run6
  | 7, _ => kn_run7
  | 8, _ => kn_run8
  | 9, _ => kn_run9
  | 10, _ => kn_run10
  | 11, _ => kn_run11
  | 12, _ => kn_run12
  | 13, _ => kn_run13
  | n + 14, h => absurd h (by omega)
theorem kn_law (a : Int) : letI := tabs5' (intSyms [a]); ACall Pg 7 [.sym 0] [] fun r _ => r = B true := by
  letI T : Tabs5 := tabs5' (intSyms [a])
  obtain ⟨j, hj⟩ := Int.eq_ofNat_of_zero_le (Int.emod_nonneg a (show (14 : Int) ≠ 0 by omega))
  have hlt : j < 14 := by have := Int.emod_lt_of_pos a (show (0 : Int) < 14 by omega); omega
  have hch : ChOk [(0, 14, j)] := fun e he => by
    obtain rfl := List.mem_singleton.1 he
    exact ⟨a, rfl, hj⟩
  exact runG_true T.tb (spL_ok hch) (kn_all j hlt)
end
end Go.Proofs.YtochldeokjifkaaGreatDoor.AL
