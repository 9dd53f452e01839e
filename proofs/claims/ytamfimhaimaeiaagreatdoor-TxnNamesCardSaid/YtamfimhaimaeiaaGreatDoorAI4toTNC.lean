import Derived.Test.YtamfimhaimaeiaaGreatDoorAI3
import Derived.Laws.RangeString
import Derived.Laws.RangeAny
import Derived.Test.YtamfimhaimaeiaaGreatDoorRTtoAI2
import Derived.Test.YtamfimhaimaeiaaGreatDoorF9
import Derived.Test.YtamfimhaimaeiaaGreatDoorSB
import Derived.KernelRfl
import Derived.Test.YtamfimhaimaeiaaGreatDoorAL32toAL34
set_option linter.all false
set_option autoImplicit true
set_option relaxedAutoImplicit true
set_option maxRecDepth 100000
namespace Go.Proofs.YtamfimhaimaeiaaGreatDoor.AL
section
noncomputable section
variable [Tabs]
end
end
section
noncomputable section
variable [Tabs]
def pSmall (c : Nat) : Bool := (decide (97 ≤ c) && decide (c ≤ 122)) || decide (c = 95)
def pDigit (c : Nat) : Bool := decide (48 ≤ c) && decide (c ≤ 57)
def pInner (c : Nat) : Bool := pSmall c || pDigit c
def isWord (s : Str) : Bool := match s with
  | [] => false
  | c :: t => decide (s.length ≤ 12) && (!pDigit c.toNat && (s.all (fun c => pInner c.toNat) && (decide (c ≠ 114) || (t.isEmpty || !(t.all fun c => pDigit c.toNat)))))
end
end
section
noncomputable section
variable [Tabs]
inductive Ex where
  | none
  | num (n : Nat)
  | name (s : Str)
  | here
  | neg (e : Ex)
  | bin (k : Nat) (a b : Ex)
  deriving DecidableEq
def encE : Ex → List AV
  | .none => [I 0, I 0, T [], .full 0 []]
  | .num n => [I 1, I (n : Nat), T [], .full 0 []]
  | .name s => [I 2, I 0, T s, .full 0 []]
  | .here => [I 3, I 0, T [], .full 0 []]
  | .neg e => [I 4, I 0, T [], .full 1 (encE e)]
  | .bin k a b => [I (k : Nat), I 0, T [], .full 2 (encE a ++ encE b)]
abbrev pO (l : Str) (d : Nat) (b : Bool) : AObj := .cells [T l, I (d : Nat), B b]
abbrev blk (l : Str) : Str := dropB 32 l
section
variable {i d : Nat} {l : Str} {h : AHeap} {Q : QT}
end
structure PRes (i D : Nat) (m : Option (Ex × Str)) (h : AHeap) (Q : QT) : Prop where
  good : ∀ x l' h', m = some (x, l') → Fr [i] h h' → h'[i]? = some (pO l' D false) → Q (.agg (encE x)) h'
  bad : ∀ cs l' h', m = none → Fr [i] h h' → h'[i]? = some (pO l' D true) → cs.length = 4 → cs.all AV.one = true → Q (.agg cs) h'
theorem PRes.fr {i D : Nat} {m : Option (Ex × Str)} {h h1 : AHeap} {Q : QT} (r : PRes i D m h Q) (f : Fr [i] h h1) : PRes i D m h1 Q :=
  ⟨fun x l' h' e f' => r.good x l' h' e (f.trans f' (by simp)), fun cs l' h' e f' => r.bad cs l' h' e (f.trans f' (by simp))⟩
end
end
section
noncomputable section
variable [Tabs]
section
variable {i D : Nat} {l : Str} {h : AHeap} {Q : QT}
end
end
end
section
noncomputable section
variable [Tabs]
section
variable {i D : Nat} {l : Str} {h : AHeap} {Q : QT}
end
end
end
section
noncomputable section
variable [Tabs]
section
variable {h : AHeap} {Q : QT}
end
end
end
section
noncomputable section
variable [Tabs]
end
end
section
noncomputable section
variable [Tabs]
section
variable {h : AHeap} {Q : QT}
end
end
end
section
noncomputable section
structure Rq where
  kind : Int
  name : Str
  text : Str
  value : Int
section
variable [Tabs]
variable {h0 h : AHeap} {M : List Nat} {L R : Own} {K : AV → Prop} {Q : QT}
end
end
end
section
noncomputable section
structure WkM where
  f : KL Str
  s : KL Int
section
variable [Tabs]
variable {h0 h : AHeap} {M : List Nat} {L R : Own} {K : AV → Prop} {Q : QT}
def WkS (h0 : AHeap) (M : List Nat) (h : AHeap) (i : Nat) (w : WkM) (R : Own) : Prop := ∃ jf js xf xs, MapS T w.f xf ∧ MapS I w.s xs ∧ St h0 M h ((i, true, .cells [.map jf, .map js]) :: (jf, true, xf) :: (js, true, xs) :: R)
theorem St.after (s : St h0 M h L) {h' : AHeap} (f : Fr [] h h') : St h0 M h' L :=
  ⟨s.fr.trans f (by simp), fun e he => f.get (s.at_ e he) (by simp), s.own, s.nd⟩
structure WkOk (w : WkM) : Prop where
  txt : ∀ x ∈ w.f, x.2.length ≤ 600
  fn : w.f.length ≤ 8
  sn : w.s.length ≤ 8
  fw : ∀ x ∈ w.f, isWord x.1 = true
  sw : ∀ x ∈ w.s, isWord x.1 = true
  sv : ∀ x ∈ w.s, -1099511627776 ≤ x.2 ∧ x.2 ≤ 1099511627776
end
end
end
section
noncomputable section
section
variable [Tabs]
variable {h0 h : AHeap} {M : List Nat} {L R : Own} {K : AV → Prop} {Q : QT}
abbrev nmE : Str → List AV := fun x => [T x]
theorem AccE.row {α : Type} {enc : α → List AV} {sz : Nat} {v : AV} {l : List α} {E : Own} (a : AccE sz v l.length (l.flatMap enc) E) (s : St h0 M h (E ++ L)) : Row enc sz h v l := a.rd s
end
end
end
section
noncomputable section
structure Ver where
  key : Str
  value : Str
  gone : Bool
  stamp : Int
structure Wr where
  key : Str
  value : Str
  gone : Bool
structure StM where
  pins : KM Int Int
  limit : Int
  now : Int
  keys : KL (List Ver)
def countM (m : StM) : Nat := (m.keys.map fun x => x.2.length).sum
section
variable [Tabs]
variable {h0 h : AHeap} {M : List Nat} {L R : Own} {K : AV → Prop} {Q : QT} {i : Nat} {m : StM}
end
end
end
section
noncomputable section
section
variable [Tabs]
variable {h0 h : AHeap} {M : List Nat} {L R : Own} {K : AV → Prop} {Q : QT} {i : Nat} {m : StM}
end
end
end
section
noncomputable section
section
variable [Tabs]
variable {h0 h : AHeap} {M : List Nat} {L R : Own} {K : AV → Prop} {Q : QT} {i : Nat} {m : StM}
end
end
end
section
noncomputable section
section
variable [Tabs]
variable {h0 h : AHeap} {M : List Nat} {L R : Own} {K : AV → Prop} {Q : QT} {i : Nat} {m : StM}
structure KVOk : Prop where
  k : ∃ tm, KeysIs Pg fn_maps_Keys_map_string_store_version_string__store_version fn_maps_Keys_map_string_store_version_string__store_version_1 tm
  s : ∃ ks, SortedIs Pg fn_slices_Sorted_string fn_maps_Keys_map_string_store_version_string__store_version_1 ks
structure StoOk (m : StM) : Prop where
  n : m.keys.length ≤ 100000
  k : ∀ x ∈ m.keys, x.1.length ≤ 1000000
  c : countM m < 500000
end
end
end
section
noncomputable section
section
variable [Tabs]
variable {h0 h : AHeap} {M : List Nat} {L R : Own} {K : AV → Prop} {Q : QT} {i : Nat} {m : StM}
end
end
end
section
noncomputable section
section
variable [Tabs]
variable {h0 h : AHeap} {M : List Nat} {L R : Own} {K : AV → Prop} {Q : QT} {i : Nat} {m : StM}
end
end
end
section
noncomputable section
def joinM (l : List Str) : Str := l.flatMap fun x => x ++ [10]
def partsM (s : Str) : List Str := (splitB 10 s).dropLast
theorem joinM_snoc (l : List Str) (x : Str) : joinM (l ++ [x]) = joinM l ++ (x ++ [10]) := by unfold joinM; rw [List.flatMap_append]; simp
theorem parts_join : ∀ l : List Str, (∀ x ∈ l, 10 ∉ x) → splitB 10 (joinM l) = l ++ [[]]
  | [], _ => rfl
  | x :: l, h => by
    show splitB 10 ((x ++ [10]) ++ joinM l) = _
    rw [List.append_assoc, List.singleton_append, splitB_cut (h x (by simp)), parts_join l fun y hy => h y (by simp [hy])]
    rfl
theorem partsM_join (l : List Str) (h : ∀ x ∈ l, 10 ∉ x) : partsM (joinM l) = l := by
  unfold partsM; rw [parts_join l h, List.dropLast_concat]
theorem isWord_no {s : Str} (h : isWord s = true) : (10 : UInt8) ∉ s := by
  intro hm
  unfold isWord at h
  split at h
  · cases hm
  · simp only [Bool.and_eq_true, List.all_eq_true] at h
    have := h.2.2.1 10 hm
    revert this; decide
def sumL (l : List Str) : Nat := (l.map fun x => x.length + 1).sum
theorem joinM_len (l : List Str) : (joinM l).length = sumL l := by
  unfold joinM sumL
  induction l with
  | nil => rfl
  | cons x l ih => simp only [List.flatMap_cons, List.length_append, List.map_cons, List.sum_cons, ih, List.length_singleton]
theorem sumL_take (l : List Str) (q : Nat) : sumL (l.take q) ≤ sumL l := by
  conv => rhs; rw [← List.take_append_drop q l]
  unfold sumL; rw [List.map_append, List.sum_append_nat]; omega
section
variable [Tabs]
variable {h0 h : AHeap} {M : List Nat} {L R : Own} {K : AV → Prop} {Q : QT}
theorem wjoin_sp {l : List Str} {v : AV} (hl : l.length < 1000000000) (hs : sumL l < 1000000000) (r : Row nmE 1 h v l) (q : Q (T (joinM l)) h) : C fn_txn_Join [v] h Q := by
  refine txn_Join_ok _ _ _ ?_
  unfold txn_Join
  refine r.len ?_
  refine st_loop (fun n vs h' => ∃ p : Nat, vs = [T (joinM (l.take p)), I (p : Nat)] ∧ n + p = l.length ∧ h' = h) l.length ⟨0, rfl, rfl, rfl⟩ ?_
  rintro n vs h1 ⟨p, rfl, hn, rfl⟩
  unfold txn_Join_l1
  refine st_lss ?_
  refine st_if (fun hb => ?_) (fun hb => ?_) <;> simp only [za, zb, zc, zd, ze, zf, zg, zh, zi, u8i, zj, zk, zl] at hb
  · have hp : p < l.length := by omega
    have h2 := sumL_take l (p + 1)
    rw [List.take_succ_eq_append_getElem hp] at h2
    have h3 : sumL (l.take p ++ [l[p]]) = sumL (l.take p) + (l[p].length + 1) := by unfold sumL; rw [List.map_append, List.sum_append_nat]; simp
    have h4 := joinM_len (l.take p)
    refine r.idx (fun _ => rfl) hp fun pp t => ?_
    refine st_pload1 t (st_cat (by simp; omega) (st_cat (by simp; omega) (st_add (by omega) ?_)))
    exact ⟨n - 1, by omega, p + 1, by rw [List.take_succ_eq_append_getElem hp, joinM_snoc]; rfl, by omega, rfl⟩
  · rw [List.take_of_length_le (by omega)]; exact q
theorem rjoin_sp {l : List Str} {v : AV} (hl : l.length < 1000000000) (hs : sumL l < 1000000000) (r : Row nmE 1 h v l) (q : Q (T (joinM l)) h) : C fn_ref10_Join [v] h Q := by
  refine ref10_Join_ok _ _ _ ?_
  unfold ref10_Join
  refine st_loop (fun n vs h' => ∃ p : Nat, vs = [T (joinM (l.take p)), I (p : Nat)] ∧ n + p = l.length ∧ h' = h) l.length ⟨0, rfl, rfl, rfl⟩ ?_
  rintro n vs h1 ⟨p, rfl, hn, rfl⟩
  unfold ref10_Join_l1
  refine r.len (st_lss ?_)
  refine st_if (fun hb => ?_) (fun hb => ?_) <;> simp only [za, zb, zc, zd, ze, zf, zg, zh, zi, u8i, zj, zk, zl] at hb
  · have hp : p < l.length := by omega
    have h2 := sumL_take l (p + 1)
    rw [List.take_succ_eq_append_getElem hp] at h2
    have h3 : sumL (l.take p ++ [l[p]]) = sumL (l.take p) + (l[p].length + 1) := by unfold sumL; rw [List.map_append, List.sum_append_nat]; simp
    have h4 := joinM_len (l.take p)
    refine r.idx (fun _ => rfl) hp fun pp t => ?_
    refine st_pload1 t (st_cat (by omega) (st_cat (by simp; omega) (st_add (by omega) ?_)))
    exact ⟨n - 1, by omega, p + 1, by rw [List.take_succ_eq_append_getElem hp, joinM_snoc, ← List.append_assoc]; rfl, by omega, rfl⟩
  · rw [List.take_of_length_le (by omega)]; exact q
theorem take_flat {α : Type} (enc : α → AV) (l : List α) (n : Nat) : (l.flatMap fun x => [enc x]).take n = (l.take n).flatMap fun x => [enc x] := by
  induction l generalizing n with
  | nil => simp
  | cons a l ih => cases n with
    | zero => rfl
    | succ n => simp [ih n]
theorem wparts_sp (hI : IndexOk) {s : Str} (hs : s.length < 1000000000) (q : ∀ h', Fr [] h h' → Q (.snap (partsM s).length ((partsM s).flatMap nmE)) h') : C fn_txn_Parts [T s] h Q := by
  refine txn_Parts_ok _ _ _ ?_
  unfold txn_Parts
  refine split_sp hI 10 s (by omega) fun h1 f1 => ?_
  have hc : s.count 10 ≤ s.length := List.count_le_length
  have hl := splitB_len 10 s
  refine st_lenL1 (st_sub (by omega) ?_)
  have e : ((splitB 10 s).length : Int) - 1 = ((partsM s).length : Nat) := by unfold partsM; rw [List.length_dropLast]; omega
  rw [e]
  have ht : partsM s = (splitB 10 s).take (partsM s).length := by unfold partsM; rw [List.length_dropLast, List.dropLast_eq_take]
  refine ⟨?_⟩
  simp only [pSliceL, optI, asI]
  have hpl : (partsM s).length = (splitB 10 s).length - 1 := by unfold partsM; rw [List.length_dropLast]
  refine ⟨by omega, ?_⟩
  simp only [Int.toNat_natCast, Int.toNat_zero, Nat.zero_mul, List.drop_zero, Nat.sub_zero, Nat.mul_one]
  rw [take_flat (fun x => T x) (splitB 10 s), ← ht]
  exact clone_string_sp (by omega) (Rd.snap (flat_len nmE 1 (fun _ => rfl) _)) fun h2 f2 => q h2 (f1.trans f2 (by simp))
def partsF : Str → List Str → Str → List Str
  | cur, acc, [] => acc
  | cur, acc, c :: s => if c = 10 then partsF [] (acc ++ [cur]) s else partsF (cur ++ [c]) acc s
theorem partsF_eq : ∀ (s cur : Str) (acc : List Str), partsF cur acc s = acc ++ (match splitB 10 s with | [] => [] | p :: ps => ((cur ++ p) :: ps).dropLast)
  | [], cur, acc => by simp [partsF, splitB]
  | c :: s, cur, acc => by
    unfold partsF splitB
    have hne := splitB_ne 10 s
    split
    · rw [partsF_eq s]
      cases h : splitB 10 s with
      | nil => rw [h] at hne; simp at hne
      | cons p ps => simp
    · rw [partsF_eq s]
      cases h : splitB 10 s with
      | nil => rw [h] at hne; simp at hne
      | cons p ps => simp
theorem partsF_parts (s : Str) : partsF [] [] s = partsM s := by
  rw [partsF_eq]
  unfold partsM
  cases h : splitB 10 s with
  | nil => rfl
  | cons p ps => simp
theorem rparts_sp {s : Str} (hs : s.length < 1000000000) (q : ∀ h', Fr [] h h' → Q (.snap (partsM s).length ((partsM s).flatMap nmE)) h') : C fn_ref10_Parts [T s] h Q := by
  refine ACall.conv ?_
  refine ref10_Parts_ok _ _ _ ?_
  unfold ref10_Parts
  rw [← partsF_parts] at q
  generalize hW : partsF [] [] s = W at q
  refine st_loop (fun n vs h' => ∃ (a p : Nat) (acc : List Str) (v : AV) (E : Own), vs = [v, I (a : Nat), I (p : Nat)] ∧ n + p = s.length ∧ a ≤ p ∧ AccE 1 v acc.length (acc.flatMap nmE) E ∧ acc.length ≤ p ∧ St h [] h' (E ++ []) ∧ partsF ((s.drop a).take (p - a)) acc (s.drop p) = W) s.length ⟨0, 0, [], _, [], rfl, rfl, Nat.le_refl _, .none 1, by simp, St.start h, by simpa using hW⟩ ?_
  rintro n vs h1 ⟨a, p, acc, v, E, rfl, hn, hap, ha, hal, s1, he⟩
  unfold ref10_Parts_l4
  refine st_lenS (st_lss ?_)
  refine st_if (fun hb => ?_) (fun hb => ?_) <;> simp only [za, zb, zc, zd, ze, zf, zg, zh, zi, u8i, zj, zk, zl] at hb
  · have hp : p < s.length := by omega
    refine st_indexN hp (st_eql ?_)
    rw [List.drop_eq_getElem_cons hp] at he
    unfold partsF at he
    unfold ref10_Parts_b3 ref10_Parts_j2
    have hc10 : ((s[p].toNat : Int) = 10) ↔ s[p] = 10 := by
      rw [← UInt8.toNat_inj]; show _ ↔ s[p].toNat = 10; omega
    refine st_if (fun hc => ?_) (fun hc => ?_) <;> simp only [decide_eq_true_eq, decide_eq_false_iff_not, hc10] at hc
    · rw [if_pos hc] at he
      refine st_cut (by omega) (by omega) (by omega) ?_
      refine st_buildS rfl rfl ?_
      simp only [Int.toNat_natCast]
      refine ha.app (m := 1) (xs := [T ((s.drop a).take (p - a))]) s1 (Rd.full rfl) rfl (by omega) fun v' E' h2 ha' s2 => ?_
      refine st_add (by omega) ?_
      refine st_add (by omega) ?_
      refine ⟨n - 1, by omega, p + 1, p + 1, acc ++ [(s.drop a).take (p - a)], v', E', rfl, by omega, Nat.le_refl _, by rw [List.length_append, List.flatMap_append]; exact ha', by simp; omega, s2, by rw [Nat.sub_self, List.take_zero]; exact he⟩
    · rw [if_neg hc] at he
      refine st_add (by omega) ?_
      refine ⟨n - 1, by omega, a, p + 1, acc, v, E, rfl, by omega, by omega, ha, by omega, s1, ?_⟩
      rw [show p + 1 - a = (p - a) + 1 by omega, List.take_succ_eq_append_getElem (by rw [List.length_drop]; omega)]
      rw [List.getElem_drop]
      simp only [show a + (p - a) = p by omega]
      exact he
  · have hpe : s.drop p = [] := List.drop_eq_nil_of_le (by omega)
    rw [hpe] at he
    unfold partsF at he
    rw [← he] at q
    exact ha.conv s1 fun h2 s2 => q h2 s2.fr
theorem words_sp {a b : List Str} {va vb : AV} (hl : a.length < 1000000000) (ra : Row nmE 1 h va a) (rb : Row nmE 1 h vb b) (q : Q (B (decide (a = b))) h) : C fn_ref6_Words [va, vb] h Q := by
  refine ref6_Words_ok _ _ _ _ ?_
  unfold ref6_Words
  refine ra.len (rb.len (st_neq ?_))
  refine st_if (fun hne => ?_) (fun hne => ?_) <;> simp only [za, zb, zc, zd, ze, zf, zg, zh, zi, u8i, zj, zk, zl] at hne
  · rw [decide_eq_false (fun e => hne (by rw [e]))] at q; exact q
  · have hlen : a.length = b.length := by omega
    refine st_loop (fun n vs h' => ∃ p : Nat, vs = [B false, I (p : Nat)] ∧ n + p = a.length ∧ a.take p = b.take p ∧ h' = h) a.length ⟨0, rfl, rfl, by simp, rfl⟩ ?_
    rintro n vs h1 ⟨p, rfl, hn, he, rfl⟩
    unfold ref6_Words_l1
    refine ra.len (st_lss ?_)
    refine st_if (fun hb => ?_) (fun hb => ?_) <;> simp only [za, zb, zc, zd, ze, zf, zg, zh, zi, u8i, zj, zk, zl] at hb
    · have hp : p < a.length := by omega
      refine ra.idx (fun _ => rfl) hp fun pp t => ?_
      refine st_pload1 t ?_
      refine rb.idx (fun _ => rfl) (by omega : p < b.length) fun pp t => ?_
      refine st_pload1 t (st_sne ?_)
      refine st_if (fun hc => ?_) (fun hc => ?_) <;> simp only [za, zb, zc, zd, ze, zf, zg, zh, zi, u8i, zj, zk, zl] at hc
      · rw [decide_eq_false (fun e => hc (by subst e; rfl))] at q; exact q
      · refine st_add (by omega) ?_
        exact ⟨n - 1, by omega, p + 1, rfl, by omega, by rw [List.take_succ_eq_append_getElem hp, List.take_succ_eq_append_getElem (by omega : p < b.length), he, hc], rfl⟩
    · rw [List.take_of_length_le (by omega), List.take_of_length_le (by omega)] at he
      rw [decide_eq_true he] at q; exact q
end
end
end
section
noncomputable section
structure WkSo (w : WkM) : Prop where
  f : SoK w.f
  s : SoK w.s
theorem WkSo.nil : WkSo ⟨[], []⟩ := ⟨List.Pairwise.nil, List.Pairwise.nil⟩
theorem WkOk.nil : WkOk ⟨[], []⟩ := ⟨by simp, by simp, by simp, by simp, by simp, by simp⟩
section
variable [Tabs]
variable {h0 h : AHeap} {M : List Nat} {L R R' : Own} {K : AV → Prop} {KH : QT} {KS' : AHeap → Prop} {Q : QT} {i : Nat} {w : WkM}
theorem WkS.so (s : WkS h0 M h i w R) : WkSo w := by
  obtain ⟨jf, js, xf, xs, ⟨_, _, _, mf⟩, ⟨_, _, _, ms⟩, s⟩ := s
  exact ⟨mf.so, ms.so⟩
theorem WkS.rest (s : WkS h0 M h i w R) : St h0 M h R := by
  obtain ⟨jf, js, xf, xs, mf, ms, s⟩ := s
  exact s.drop1.drop1.drop1
theorem WkS.after (s : WkS h0 M h i w R) {h' : AHeap} (f : Fr [] h h') : WkS h0 M h' i w R := by
  obtain ⟨jf, js, xf, xs, mf, ms, s⟩ := s
  exact ⟨jf, js, xf, xs, mf, ms, s.after f⟩
theorem mod_cases {a n : Int} (ha : -9223372036854775808 ≤ a ∧ a ≤ 9223372036854775807) (hn : 0 < n) : (a.tmod n = a % n ∧ 0 ≤ a.tmod n) ∨ (a.tmod n = a % n - n ∧ a.tmod n < 0) := by
  have h0 := Int.emod_nonneg a (show n ≠ 0 by omega)
  have h4 := Int.emod_lt_of_pos a hn
  rw [Int.tmod_eq_emod]
  have hab : (n.natAbs : Int) = n := by omega
  split
  · exact .inl ⟨by omega, by omega⟩
  · right; rw [hab]; exact ⟨rfl, by omega⟩
theorem law9_within_sp {a n : Int} (hn : 0 < n) (hn2 : n ≤ 1000000000000000000) (ha : -9223372036854775808 ≤ a ∧ a ≤ 9223372036854775807) (k : Q (I (a % n)) h) : C fn_law9_within [I a, I n] h Q := by
  refine law9_within_ok _ _ _ _ ?_
  unfold law9_within
  refine st_rem (by omega) ?_
  have h0 := Int.emod_nonneg a (show n ≠ 0 by omega)
  have h4 := Int.emod_lt_of_pos a hn
  have h3 := mod_cases ha hn
  refine st_lss ?_
  refine st_if (fun hb => ?_) (fun hb => ?_) <;> simp only [za, zb, zc, zd, ze, zf, zg, zh, zi, u8i, zj, zk, zl] at hb
  · refine st_add (by omega) ?_
    rw [show a.tmod n + n = a % n by omega]
    exact k
  · rw [← show a.tmod n = a % n by omega] at k
    exact k
def names9 : List Str := [[109, 97, 105, 110], [97], [98, 49], [120], [108, 105, 98], [101, 110, 100], [99], [100], [101], [102], [98, 97, 115, 101], [107]]
def name9 (n : Int) : Str := names9[(n % 12).toNat]?.getD []
theorem name9_get {n : Int} : ∃ h : (n % 12).toNat < names9.length, name9 n = names9[(n % 12).toNat] := by
  have h1 := Int.emod_nonneg n (show (12 : Int) ≠ 0 by decide)
  have h2 := Int.emod_lt_of_pos n (show (0 : Int) < 12 by decide)
  have h : (n % 12).toNat < names9.length := by show _ < 12; omega
  exact ⟨h, by unfold name9; rw [List.getElem?_eq_getElem h]; rfl⟩
theorem name9_word (n : Int) : isWord (name9 n) = true ∧ (name9 n).length ≤ 4 := by
  obtain ⟨h, e⟩ := name9_get (n := n)
  rw [e]
  have : ∀ x ∈ names9, isWord x = true ∧ x.length ≤ 4 := by decide
  exact this _ (List.getElem_mem _)
theorem law9_Name_sp {n : Int} (hn : -9223372036854775808 ≤ n ∧ n ≤ 9223372036854775807) (k : Q (T (name9 n)) h) : C fn_law9_Name [I n] h Q := by
  refine law9_Name_ok _ _ _ ?_
  unfold law9_Name
  refine st_buildS rfl rfl ?_
  refine law9_within_sp (by decide) (by decide) hn ?_
  obtain ⟨hh, e⟩ := name9_get (n := n)
  rw [e] at k
  have h1 := Int.emod_nonneg n (show (12 : Int) ≠ 0 by decide)
  have h3 : n % 12 = (((n % 12).toNat : Nat) : Int) := by omega
  rw [h3]
  refine (Row.full (h := h) (enc := nmE) (sz := 1) (fun _ => rfl) names9).idx (fun _ => rfl) hh fun p t => ?_
  exact st_pload1 t k
end
end
end
section
noncomputable section
section
variable [Tabs]
variable {h0 h : AHeap} {M : List Nat} {L R : Own} {K : AV → Prop} {Q : QT}
def Known10 : Prop := ∀ (h : AHeap) (Q : QT), Q (B true) h → C fn_law10_known [] h Q
abbrev intE : Int → List AV := fun x => [I x]
theorem names_end (hI : IndexOk) {l : List Str} {v : AV} {raw : Str} (hr : raw.length ≤ 200) (hl : l.length ≤ 12) (hw : ∀ x ∈ l, isWord x = true ∧ x.length ≤ 4) {E : Own} {h1 : AHeap} (a : AccE 1 v l.length (l.flatMap nmE) E) (s : St h [] h1 (E ++ [])) (k : ∀ h', Q (B true) h') :
    C fn_txn_Join [v] h1 fun t32 h4 => C fn_ref10_Join [v] h4 fun t35 h5 => qBin .eql t32 t35 fun t36 => ifB t36 (C fn_txn_Parts [t32] h5 fun t39 h6 => C fn_ref6_Words [t39, v] h6 fun t41 h7 => ifB t41 (C fn_txn_Parts [T raw] h7 fun t45 h8 => C fn_ref10_Parts [T raw] h8 fun t47 h9 => C fn_ref6_Words [t45, t47] h9 fun t48 h10 => Q t48 h10) (Q (B false) h7)) (Q (B false) h5) := by
  have hsum : sumL l ≤ 60 := by
    have : ∀ l : List Str, (∀ x ∈ l, isWord x = true ∧ x.length ≤ 4) → sumL l ≤ 5 * l.length := by
      intro l
      induction l with
      | nil => intro _; simp [sumL]
      | cons x l ih =>
        intro h
        have h1 := ih fun y hy => h y (by simp [hy])
        have h2 := (h x (by simp)).2
        unfold sumL at h1 ⊢
        simp only [List.map_cons, List.sum_cons, List.length_cons]; omega
    have := this l hw; omega
  have r := a.rd s
  refine wjoin_sp (by omega) (by omega) r ?_
  refine rjoin_sp (by omega) (by omega) r (st_seq ?_)
  refine st_if (fun _ => ?_) (fun h => by simp at h)
  have hj := joinM_len l
  refine wparts_sp hI (by omega) fun h2 f2 => ?_
  have s2 := s.after f2
  rw [partsM_join l fun x hx => isWord_no (hw x hx).1]
  refine words_sp (by omega) (Rd.snap (flat_len nmE 1 (fun _ => rfl) _)) (a.rd s2) ?_
  refine st_if (fun _ => ?_) (fun h => by simp at h)
  refine wparts_sp hI (by omega) fun h3 f3 => ?_
  refine rparts_sp (by omega) fun h4 f4 => ?_
  have hpl : (partsM raw).length ≤ 200 := by
    unfold partsM
    rw [List.length_dropLast, splitB_len]
    have : raw.count 10 ≤ raw.length := List.count_le_length
    omega
  refine words_sp (by omega) (Rd.snap (flat_len nmE 1 (fun _ => rfl) _)) (Rd.snap (flat_len nmE 1 (fun _ => rfl) _)) ?_
  rw [decide_eq_true rfl]
  exact k _
theorem names_law (hk : Known10) (hI : IndexOk) {ns : List Int} {raw : Str} (hi : ∀ x ∈ ns, -9223372036854775808 ≤ x ∧ x ≤ 9223372036854775807) (hraw : raw.length ≤ 140737488355328) (k : ∀ h', Q (B true) h') : C fn_law10_TxnNames [.snap ns.length (ns.flatMap intE), T raw] h Q := by
  refine law10_TxnNames_ok _ _ _ _ ?_
  unfold law10_TxnNames
  refine hk _ _ ?_
  (repeat (first | refine st_lenS ?_ | refine st_not ?_ | refine st_gtr ?_))
  refine st_if (fun hb => ?_) (fun hb => ?_) <;> simp only [za, zb, zc, zd, ze, zf, zg, zh, zi, u8i, zj, zk, zl] at hb
  · exact k _
  · refine st_loop (fun n vs h' => ∃ (p : Nat) (l : List Str) (v : AV) (E : Own), vs = [v, I (p : Nat)] ∧ n + p = 12 ∧ l.length = p ∧ p ≤ ns.length ∧ (∀ x ∈ l, isWord x = true ∧ x.length ≤ 4) ∧ AccE 1 v l.length (l.flatMap nmE) E ∧ St h [] h' (E ++ [])) 12 ⟨0, [], _, [], rfl, rfl, rfl, by omega, by simp, .none 1, St.start h⟩ ?_
    rintro n vs h1 ⟨p, l, v, E, rfl, hn, hlp, hpn, hw, a, s⟩
    unfold law10_TxnNames_l18
    refine st_lenL1 (st_lss ?_)
    have hend : l.length ≤ 12 → _ := fun h12 => names_end (Q := Q) hI (by omega : raw.length ≤ 200) h12 hw a s k
    refine st_if (fun h2 => ?_) (fun h2 => ?_) <;> simp only [za, zb, zc, zd, ze, zf, zg, zh, zi, u8i, zj, zk, zl] at h2
    · refine st_lss ?_
      refine st_if (fun h3 => ?_) (fun h3 => ?_) <;> simp only [za, zb, zc, zd, ze, zf, zg, zh, zi, u8i, zj, zk, zl] at h3
      · have hp : p < ns.length := by omega
        refine (Row.snap (h := h1) (enc := intE) (sz := 1) (fun _ => rfl) ns).idx (fun _ => rfl) hp fun pp t => ?_
        refine st_pload1 t ?_
        refine law9_Name_sp (hi _ (List.getElem_mem hp)) ?_
        refine st_buildS rfl rfl ?_
        refine a.app (m := 1) (xs := [T (name9 ns[p])]) s (Rd.full rfl) rfl (by omega) fun v' E' h4 a' s4 => ?_
        refine st_add (by omega) ?_
        refine ⟨n - 1, by omega, p + 1, l ++ [name9 ns[p]], v', E', rfl, by omega, by simp [hlp], by omega, fun x hx => ?_, by rw [List.length_append, List.flatMap_append]; exact a', s4⟩
        rcases List.mem_append.1 hx with h | h
        · exact hw x h
        · simp at h; subst h; exact name9_word _
      · exact hend (by omega)
    · exact hend (by omega)
end
end
end
section
noncomputable section
theorem known_run [Tabs] : runG Pg tb5 sp10 100 fn_law10_known [] .leaf 0 (fun r t _ => chkR (B true) r t) = true := by kernel_rfl
theorem known10 [Tabs5] : Known10 := fun h Q q => closed_call Tabs5.tb sp10_ok (d := 100) (B true) rfl rfl known_run q
end
end
section
noncomputable section
open Go.RowKit
variable [Tabs5]
theorem indexOk : IndexOk := fun s sub h Q hs q => by
  have hI := indexIs
  refine ⟨hI.1, fun G w vs si r => ?_⟩
  obtain ⟨x, y, hx, ha, hb⟩ := r.two
  simp only [Rep] at ha hb
  obtain ⟨rfl, _⟩ := ha
  obtain ⟨rfl, _⟩ := hb
  obtain ⟨m, hm⟩ := Tabs5.m0 _ si.tab
  subst hx
  refine (hI.2 ⟨⟨s⟩⟩ ⟨⟨sub⟩⟩ m w hs (si.frz _ _ _ hm)).mono fun e w' ⟨he, hw⟩ => ?_
  subst hw
  exact ⟨I (Lib.index s sub), _, h, G, he, by simp [Rep, Value.oneCell'], q, si, Evo.refl _ _ _⟩
end
end
section
noncomputable section
variable [Tabs5]
theorem names_card_law {ns : List Int} {raw : Str} (z : ns.length ≤ maxLen) (w : ∀ x ∈ ns, (Lit.int .i64 x).wf = true) (hraw : raw.length ≤ 140737488355328) {h : AHeap} {Q : QT} (k : ∀ h', Q (B true) h') : C fn_law10_TxnNames [.snap ns.length (ns.map fun n => .lit (.int .i64 n)), T raw] h Q := by
  have e : (ns.map fun n => AV.lit (.int .i64 n)) = ns.flatMap intE := by
    induction ns with
    | nil => rfl
    | cons a l ih => simp [intE, ih (by simp at z; omega) fun x hx => w x (by simp [hx])]
  rw [e]
  exact names_law known10 indexOk (fun x hx => by have := w x hx; simp only [Lit.wf, Bool.and_eq_true, decide_eq_true_eq] at this; exact this) hraw k
end
end
end Go.Proofs.YtamfimhaimaeiaaGreatDoor.AL
