import Derived.Test.YtamfimhaimaeiaaGreatDoorAI3
import Derived.Laws.RangeString
import Derived.Laws.RangeAny
import Derived.Test.YtamfimhaimaeiaaGreatDoorRTtoAI2
import Derived.Test.YtamfimhaimaeiaaGreatDoorF9
import Derived.Test.YtamfimhaimaeiaaGreatDoorAL27toAL31
set_option linter.all false
set_option autoImplicit true
set_option relaxedAutoImplicit true
set_option maxRecDepth 100000
namespace Go.Proofs.YtamfimhaimaeiaaGreatDoor.AL
section
noncomputable section
variable [Tabs]
end
end
section
noncomputable section
variable [Tabs]
def pSmall (c : Nat) : Bool := (decide (97 ≤ c) && decide (c ≤ 122)) || decide (c = 95)
def pDigit (c : Nat) : Bool := decide (48 ≤ c) && decide (c ≤ 57)
def pInner (c : Nat) : Bool := pSmall c || pDigit c
def isWord (s : Str) : Bool := match s with
  | [] => false
  | c :: t => decide (s.length ≤ 12) && (!pDigit c.toNat && (s.all (fun c => pInner c.toNat) && (decide (c ≠ 114) || (t.isEmpty || !(t.all fun c => pDigit c.toNat)))))
end
end
section
noncomputable section
variable [Tabs]
inductive Ex where
  | none
  | num (n : Nat)
  | name (s : Str)
  | here
  | neg (e : Ex)
  | bin (k : Nat) (a b : Ex)
  deriving DecidableEq
def encE : Ex → List AV
  | .none => [I 0, I 0, T [], .full 0 []]
  | .num n => [I 1, I (n : Nat), T [], .full 0 []]
  | .name s => [I 2, I 0, T s, .full 0 []]
  | .here => [I 3, I 0, T [], .full 0 []]
  | .neg e => [I 4, I 0, T [], .full 1 (encE e)]
  | .bin k a b => [I (k : Nat), I 0, T [], .full 2 (encE a ++ encE b)]
abbrev pO (l : Str) (d : Nat) (b : Bool) : AObj := .cells [T l, I (d : Nat), B b]
abbrev blk (l : Str) : Str := dropB 32 l
section
variable {i d : Nat} {l : Str} {h : AHeap} {Q : QT}
end
structure PRes (i D : Nat) (m : Option (Ex × Str)) (h : AHeap) (Q : QT) : Prop where
  good : ∀ x l' h', m = some (x, l') → Fr [i] h h' → h'[i]? = some (pO l' D false) → Q (.agg (encE x)) h'
  bad : ∀ cs l' h', m = none → Fr [i] h h' → h'[i]? = some (pO l' D true) → cs.length = 4 → cs.all AV.one = true → Q (.agg cs) h'
theorem PRes.fr {i D : Nat} {m : Option (Ex × Str)} {h h1 : AHeap} {Q : QT} (r : PRes i D m h Q) (f : Fr [i] h h1) : PRes i D m h1 Q :=
  ⟨fun x l' h' e f' => r.good x l' h' e (f.trans f' (by simp)), fun cs l' h' e f' => r.bad cs l' h' e (f.trans f' (by simp))⟩
end
end
section
noncomputable section
variable [Tabs]
section
variable {i D : Nat} {l : Str} {h : AHeap} {Q : QT}
end
end
end
section
noncomputable section
variable [Tabs]
section
variable {i D : Nat} {l : Str} {h : AHeap} {Q : QT}
end
end
end
section
noncomputable section
variable [Tabs]
section
variable {h : AHeap} {Q : QT}
end
end
end
section
noncomputable section
variable [Tabs]
end
end
section
noncomputable section
variable [Tabs]
section
variable {h : AHeap} {Q : QT}
end
end
end
section
noncomputable section
structure Rq where
  kind : Int
  name : Str
  text : Str
  value : Int
section
variable [Tabs]
variable {h0 h : AHeap} {M : List Nat} {L R : Own} {K : AV → Prop} {Q : QT}
end
end
end
section
noncomputable section
structure WkM where
  f : KL Str
  s : KL Int
section
variable [Tabs]
variable {h0 h : AHeap} {M : List Nat} {L R : Own} {K : AV → Prop} {Q : QT}
def WkS (h0 : AHeap) (M : List Nat) (h : AHeap) (i : Nat) (w : WkM) (R : Own) : Prop := ∃ jf js xf xs, MapS T w.f xf ∧ MapS I w.s xs ∧ St h0 M h ((i, true, .cells [.map jf, .map js]) :: (jf, true, xf) :: (js, true, xs) :: R)
theorem St.after (s : St h0 M h L) {h' : AHeap} (f : Fr [] h h') : St h0 M h' L :=
  ⟨s.fr.trans f (by simp), fun e he => f.get (s.at_ e he) (by simp), s.own, s.nd⟩
structure WkOk (w : WkM) : Prop where
  txt : ∀ x ∈ w.f, x.2.length ≤ 600
  fn : w.f.length ≤ 8
  sn : w.s.length ≤ 8
  fw : ∀ x ∈ w.f, isWord x.1 = true
  sw : ∀ x ∈ w.s, isWord x.1 = true
  sv : ∀ x ∈ w.s, -1099511627776 ≤ x.2 ∧ x.2 ≤ 1099511627776
end
end
end
section
noncomputable section
section
variable [Tabs]
variable {h0 h : AHeap} {M : List Nat} {L R : Own} {K : AV → Prop} {Q : QT}
theorem AccE.row {α : Type} {enc : α → List AV} {sz : Nat} {v : AV} {l : List α} {E : Own} (a : AccE sz v l.length (l.flatMap enc) E) (s : St h0 M h (E ++ L)) : Row enc sz h v l := a.rd s
end
end
end
section
noncomputable section
structure Ver where
  key : Str
  value : Str
  gone : Bool
  stamp : Int
structure Wr where
  key : Str
  value : Str
  gone : Bool
structure StM where
  pins : KM Int Int
  limit : Int
  now : Int
  keys : KL (List Ver)
def countM (m : StM) : Nat := (m.keys.map fun x => x.2.length).sum
section
variable [Tabs]
variable {h0 h : AHeap} {M : List Nat} {L R : Own} {K : AV → Prop} {Q : QT} {i : Nat} {m : StM}
end
end
end
section
noncomputable section
section
variable [Tabs]
variable {h0 h : AHeap} {M : List Nat} {L R : Own} {K : AV → Prop} {Q : QT} {i : Nat} {m : StM}
end
end
end
section
noncomputable section
section
variable [Tabs]
variable {h0 h : AHeap} {M : List Nat} {L R : Own} {K : AV → Prop} {Q : QT} {i : Nat} {m : StM}
end
end
end
section
noncomputable section
section
variable [Tabs]
variable {h0 h : AHeap} {M : List Nat} {L R : Own} {K : AV → Prop} {Q : QT} {i : Nat} {m : StM}
structure KVOk : Prop where
  k : ∃ tm, KeysIs Pg fn_maps_Keys_map_string_store_version_string__store_version fn_maps_Keys_map_string_store_version_string__store_version_1 tm
  s : ∃ ks, SortedIs Pg fn_slices_Sorted_string fn_maps_Keys_map_string_store_version_string__store_version_1 ks
structure StoOk (m : StM) : Prop where
  n : m.keys.length ≤ 100000
  k : ∀ x ∈ m.keys, x.1.length ≤ 1000000
  c : countM m < 500000
end
end
end
section
noncomputable section
section
variable [Tabs]
variable {h0 h : AHeap} {M : List Nat} {L R : Own} {K : AV → Prop} {Q : QT} {i : Nat} {m : StM}
end
end
end
section
noncomputable section
section
variable [Tabs]
variable {h0 h : AHeap} {M : List Nat} {L R : Own} {K : AV → Prop} {Q : QT} {i : Nat} {m : StM}
end
end
end
section
noncomputable section
section
variable [Tabs]
variable {h0 h : AHeap} {M : List Nat} {L R : Own} {K : AV → Prop} {Q : QT}
end
end
end
section
noncomputable section
structure WkSo (w : WkM) : Prop where
  f : SoK w.f
  s : SoK w.s
theorem WkSo.nil : WkSo ⟨[], []⟩ := ⟨List.Pairwise.nil, List.Pairwise.nil⟩
theorem WkOk.nil : WkOk ⟨[], []⟩ := ⟨by simp, by simp, by simp, by simp, by simp, by simp⟩
section
variable [Tabs]
variable {h0 h : AHeap} {M : List Nat} {L R R' : Own} {K : AV → Prop} {KH : QT} {KS' : AHeap → Prop} {Q : QT} {i : Nat} {w : WkM}
theorem WkS.so (s : WkS h0 M h i w R) : WkSo w := by
  obtain ⟨jf, js, xf, xs, ⟨_, _, _, mf⟩, ⟨_, _, _, ms⟩, s⟩ := s
  exact ⟨mf.so, ms.so⟩
theorem WkS.rest (s : WkS h0 M h i w R) : St h0 M h R := by
  obtain ⟨jf, js, xf, xs, mf, ms, s⟩ := s
  exact s.drop1.drop1.drop1
theorem WkS.after (s : WkS h0 M h i w R) {h' : AHeap} (f : Fr [] h h') : WkS h0 M h' i w R := by
  obtain ⟨jf, js, xf, xs, mf, ms, s⟩ := s
  exact ⟨jf, js, xf, xs, mf, ms, s.after f⟩
end
end
end
section
noncomputable section
section
variable [Tabs]
variable {h0 h : AHeap} {M : List Nat} {L R : Own} {K : AV → Prop} {Q : QT}
def Known10 : Prop := ∀ (h : AHeap) (Q : QT), Q (B true) h → C fn_law10_known [] h Q
end
end
end
section
noncomputable section
theorem known_run [Tabs] : runG Pg tb5 sp10 100 fn_law10_known [] .leaf 0 (fun r t _ => chkR (B true) r t) = true := by kernel_rfl
theorem known10 [Tabs5] : Known10 := fun h Q q => closed_call Tabs5.tb sp10_ok (d := 100) (B true) rfl rfl known_run q
end
end
section
noncomputable section
section
variable [Tabs]
theorem within_any (a : Int) (m : Nat) (h : AHeap) (Q : QT) (hm : m ≤ 1099511627776) (k : Q (I (a % ((m + 1 : Nat) : Int))) h) : C fn_law10_within [I a, I ((m + 1 : Nat) : Int)] h Q := by
  refine law10_within_ok _ _ _ _ ?_
  unfold law10_within law10_within_j0
  refine ⟨?_⟩
  have hne : ¬ ((m + 1 : Nat) : Int) = 0 := by omega
  simp only [pBin, binLit, if_true, intBin, if_neg hne]
  refine ⟨?_⟩
  simp only [pBin, binLit, if_true, intBin]
  have h0 := Int.emod_nonneg a (show ((m + 1 : Nat) : Int) ≠ 0 by omega)
  have h4 := Int.emod_lt_of_pos a (show (0 : Int) < ((m + 1 : Nat) : Int) by omega)
  have h3 : (a.tmod ((m + 1 : Nat) : Int) = a % ((m + 1 : Nat) : Int) ∧ 0 ≤ a.tmod ((m + 1 : Nat) : Int)) ∨ (a.tmod ((m + 1 : Nat) : Int) = a % ((m + 1 : Nat) : Int) - ((m + 1 : Nat) : Int) ∧ a.tmod ((m + 1 : Nat) : Int) < 0) := by
    rw [Int.tmod_eq_emod]
    have hab : (((m + 1 : Nat) : Int).natAbs : Int) = ((m + 1 : Nat) : Int) := by omega
    split
    · exact .inl ⟨by omega, by omega⟩
    · right; rw [hab]; exact ⟨rfl, by omega⟩
  generalize a.tmod ((m + 1 : Nat) : Int) = r at *
  by_cases hneg : r < 0
  · simp only [ifB, hneg, decide_true]
    refine ⟨?_⟩
    simp only [pBin, binLit, if_true, intBin, wrapI (show -9223372036854775808 ≤ r + ((m + 1 : Nat) : Int) ∧ r + ((m + 1 : Nat) : Int) ≤ 9223372036854775807 by omega)]
    rw [show r + ((m + 1 : Nat) : Int) = a % ((m + 1 : Nat) : Int) by omega]
    exact k
  · simp only [ifB, hneg, decide_false]
    rw [show r = a % ((m + 1 : Nat) : Int) by omega]
    exact k
end
def spL (ch : List (Nat × Nat × Nat)) : SpecB := fun f args t n K => match Nat.beq f fn_law10_within with | true => some (spWithin ch args t n K) | false => match Nat.beq f fn_law10_known with | true => (match args with | [] => some (K (B true) t n) | _ => some false) | false => sp10 f args t n K
theorem spL_ok [Tabs5] {ch : List (Nat × Nat × Nat)} (hch : ChOk ch) : SpecOk Pg (spL ch) := fun f args t n h K hr k => by
  unfold spL at k
  split at k
  · rename_i hf
    rw [Nat.eq_of_beq_eq_true hf]
    exact spWithin_ok hch (fun a m h Q hm k => within_any a m h Q hm k) hr (by simpa using k)
  split at k
  · rename_i hf
    rw [Nat.eq_of_beq_eq_true hf]
    split at k
    · exact known10 _ _ ⟨t, n, hr, by simpa using k⟩
    · simp at k
  · exact sp10_ok _ _ _ _ _ _ hr k
end
end
end Go.Proofs.YtamfimhaimaeiaaGreatDoor.AL
