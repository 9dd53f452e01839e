import Derived.Test.YtamfimhaimaeiaaGreatDoorAI3
import Derived.Laws.RangeString
import Derived.Laws.RangeAny
import Derived.Test.YtamfimhaimaeiaaGreatDoorRTtoAI2
import Derived.Test.YtamfimhaimaeiaaGreatDoorF9
import Derived.Test.YtamfimhaimaeiaaGreatDoorAL32toAL34
set_option linter.all false
set_option autoImplicit true
set_option relaxedAutoImplicit true
set_option maxRecDepth 100000
namespace Go.Proofs.YtamfimhaimaeiaaGreatDoor.AL
section
noncomputable section
variable [Tabs]
end
end
section
noncomputable section
variable [Tabs]
theorem takeWhile_self {p : UInt8 → Bool} : ∀ {l : Str}, l.takeWhile p = l ↔ ∀ x ∈ l, p x = true
  | [] => by simp
  | a :: l => by
    cases h : p a with
    | true => rw [List.takeWhile_cons_of_pos h]; simp [h, takeWhile_self (l := l)]
    | false => rw [List.takeWhile_cons_of_neg (by simp [h])]; simp [h]
theorem takeWhile_all {p : UInt8 → Bool} {l : Str} (h : ∀ j (hj : j < l.length), p l[j] = true) : l.takeWhile p = l := by
  rw [takeWhile_self]
  intro x hx
  obtain ⟨j, hj, rfl⟩ := List.getElem_of_mem hx
  exact h j hj
theorem takeWhile_cut {p : UInt8 → Bool} {l : Str} {k : Nat} (hk : k < l.length) (h : ∀ j (hj : j < k), p (l[j]'(by omega)) = true) (hn : p l[k] = false) : l.takeWhile p = l.take k := by
  conv => lhs; rw [← List.take_append_drop k l]
  rw [List.takeWhile_append_of_pos, List.drop_eq_getElem_cons hk, List.takeWhile_cons_of_neg (by simp [hn]), List.append_nil]
  intro x hx
  obtain ⟨j, hj, rfl⟩ := List.getElem_of_mem hx
  rw [List.length_take] at hj
  rw [List.getElem_take]
  exact h j (by omega)
def pSmall (c : Nat) : Bool := (decide (97 ≤ c) && decide (c ≤ 122)) || decide (c = 95)
def pDigit (c : Nat) : Bool := decide (48 ≤ c) && decide (c ≤ 57)
def pInner (c : Nat) : Bool := pSmall c || pDigit c
theorem dcast {a b : Nat} : decide ((a : Int) ≤ (b : Int)) = decide (a ≤ b) := by rw [Bool.eq_iff_iff, decide_eq_true_eq, decide_eq_true_eq]; omega
theorem deqc {a b : Nat} : decide ((a : Int) = (b : Int)) = decide (a = b) := by rw [Bool.eq_iff_iff, decide_eq_true_eq, decide_eq_true_eq]; omega
def isWord (s : Str) : Bool := match s with
  | [] => false
  | c :: t => decide (s.length ≤ 12) && (!pDigit c.toNat && (s.all (fun c => pInner c.toNat) && (decide (c ≠ 114) || (t.isEmpty || !(t.all fun c => pDigit c.toNat)))))
end
end
section
noncomputable section
variable [Tabs]
inductive Ex where
  | none
  | num (n : Nat)
  | name (s : Str)
  | here
  | neg (e : Ex)
  | bin (k : Nat) (a b : Ex)
  deriving DecidableEq
def encE : Ex → List AV
  | .none => [I 0, I 0, T [], .full 0 []]
  | .num n => [I 1, I (n : Nat), T [], .full 0 []]
  | .name s => [I 2, I 0, T s, .full 0 []]
  | .here => [I 3, I 0, T [], .full 0 []]
  | .neg e => [I 4, I 0, T [], .full 1 (encE e)]
  | .bin k a b => [I (k : Nat), I 0, T [], .full 2 (encE a ++ encE b)]
abbrev pO (l : Str) (d : Nat) (b : Bool) : AObj := .cells [T l, I (d : Nat), B b]
abbrev blk (l : Str) : Str := dropB 32 l
section
variable {i d : Nat} {l : Str} {h : AHeap} {Q : QT}
end
structure PRes (i D : Nat) (m : Option (Ex × Str)) (h : AHeap) (Q : QT) : Prop where
  good : ∀ x l' h', m = some (x, l') → Fr [i] h h' → h'[i]? = some (pO l' D false) → Q (.agg (encE x)) h'
  bad : ∀ cs l' h', m = none → Fr [i] h h' → h'[i]? = some (pO l' D true) → cs.length = 4 → cs.all AV.one = true → Q (.agg cs) h'
theorem PRes.fr {i D : Nat} {m : Option (Ex × Str)} {h h1 : AHeap} {Q : QT} (r : PRes i D m h Q) (f : Fr [i] h h1) : PRes i D m h1 Q :=
  ⟨fun x l' h' e f' => r.good x l' h' e (f.trans f' (by simp)), fun cs l' h' e f' => r.bad cs l' h' e (f.trans f' (by simp))⟩
end
end
section
noncomputable section
variable [Tabs]
section
variable {i D : Nat} {l : Str} {h : AHeap} {Q : QT}
end
end
end
section
noncomputable section
variable [Tabs]
section
variable {i D : Nat} {l : Str} {h : AHeap} {Q : QT}
end
end
end
section
noncomputable section
variable [Tabs]
section
variable {h : AHeap} {Q : QT}
end
end
end
section
noncomputable section
variable [Tabs]
end
end
section
noncomputable section
variable [Tabs]
def TestsB (fv : AV) (p : UInt8 → Bool) : Prop := ∀ (c : UInt8) (h : AHeap) (Q : QT), Q (B (p c)) h → CV fv [U8 c] h Q
section
variable {h : AHeap} {Q : QT}
def frontN (p : UInt8 → Bool) (l : Str) : Nat := (l.takeWhile p).length
theorem frontN_eq {p : UInt8 → Bool} {l : Str} : frontN p l = l.length ↔ l.all p = true := by
  unfold frontN
  constructor
  · intro h
    have : l.takeWhile p = l := (List.takeWhile_sublist p).eq_of_length h
    rw [List.all_eq_true]
    exact takeWhile_self.1 this
  · intro h
    rw [List.all_eq_true] at h
    rw [takeWhile_self.2 h]
theorem front_sp {fv : AV} {p : UInt8 → Bool} (ht : TestsB fv p) (l : Str) (hl : l.length < 4611686018427387904) (k : Q (I (frontN p l : Nat)) h) : C fn_line_front [T l, fv] h Q := by
  refine line_front_ok _ _ _ _ ?_
  unfold line_front
  refine st_loop (fun n vs h' => h' = h ∧ ∃ i : Nat, vs = [I (i : Nat)] ∧ n + i = l.length ∧ ∀ j (hj : j < l.length), j < i → p l[j] = true) l.length ⟨rfl, 0, rfl, by omega, fun j _ hj => by omega⟩ ?_
  rintro n vs h' ⟨rfl, i, rfl, hn, ha⟩
  unfold line_front_l2
  (repeat (first | refine st_lenS ?_ | refine st_lss ?_))
  refine st_if (fun hb => ?_) (fun hb => ?_) <;> simp only [za, zb, zc, zd, ze, zf, zg, zh, zi, u8i, zj, zk, zl] at hb
  · have hi : i < l.length := hb
    refine st_indexN hi ?_
    refine ht l[i] _ _ ?_
    cases hp : p l[i] with
    | true =>
      refine st_if (fun _ => ?_) (fun h => by cases h)
      (repeat refine st_add (by omega) ?_)
      refine ⟨n - 1, by omega, rfl, i + 1, rfl, by omega, fun j hj hj2 => ?_⟩
      rcases Nat.lt_or_eq_of_le (Nat.le_of_lt_succ hj2) with h1 | h1
      · exact ha j hj h1
      · subst h1; exact hp
    | false =>
      refine st_if (fun h => by cases h) (fun _ => ?_)
      have : frontN p l = i := by
        unfold frontN
        rw [takeWhile_cut hi (fun j hj => ha j (by omega) hj) hp]; simp; omega
      rw [this] at k; exact k
  · have : frontN p l = i := by
      unfold frontN
      rw [takeWhile_all fun j hj => ha j hj (by omega)]; omega
    rw [this] at k; exact k
abbrev bDigit (c : UInt8) : Bool := pDigit c.toNat
abbrev bInner (c : UInt8) : Bool := pInner c.toNat
theorem ldigit_sp (c : UInt8) (k : Q (B (bDigit c)) h) : C fn_line_digit [U8 c] h Q := by
  refine line_digit_ok _ _ _ ?_
  unfold line_digit
  have e1 : decide ((48 : Int) ≤ c.toNat) = decide (48 ≤ c.toNat) := dcast (a := 48)
  have e2 : decide ((c.toNat : Int) ≤ 57) = decide (c.toNat ≤ 57) := dcast (b := 57)
  unfold bDigit pDigit at k
  refine st_geq ?_
  rw [e1]
  cases h1 : decide (48 ≤ c.toNat) with
  | true =>
    refine st_if (fun _ => ?_) (fun h => by cases h)
    refine st_leq ?_
    rw [h1, Bool.true_and] at k
    rw [e2]; exact k
  | false =>
    refine st_if (fun h => by cases h) (fun _ => ?_)
    rw [h1, Bool.false_and] at k; exact k
theorem linner_sp (c : UInt8) (k : Q (B (bInner c)) h) : C fn_line_inner [U8 c] h Q := by
  refine line_inner_ok _ _ _ ?_
  unfold line_inner
  have e1 : decide ((97 : Int) ≤ c.toNat) = decide (97 ≤ c.toNat) := dcast (a := 97)
  have e2 : decide ((c.toNat : Int) ≤ 122) = decide (c.toNat ≤ 122) := dcast (b := 122)
  have e3 : decide ((c.toNat : Int) = 95) = decide (c.toNat = 95) := deqc (b := 95)
  unfold bInner pInner pSmall at k
  have tail : ∀ (h' : h = h), (Q (B (decide (c.toNat = 95) || pDigit c.toNat)) h) → qBin .eql (U8 c) (.lit (.int .u8 95)) fun t11 => ifB t11 (Q (B true) h) (C fn_line_digit [U8 c] h fun t15 h0 => Q t15 h0) := by
    intro _ k
    refine st_eql ?_
    rw [e3]
    cases h3 : decide (c.toNat = 95) with
    | true =>
      refine st_if (fun _ => ?_) (fun h => by cases h)
      rw [h3, Bool.true_or] at k; exact k
    | false =>
      refine st_if (fun h => by cases h) (fun _ => ?_)
      rw [h3, Bool.false_or] at k
      exact ldigit_sp c k
  refine st_geq ?_
  rw [e1]
  cases h1 : decide (97 ≤ c.toNat) with
  | true =>
    refine st_if (fun _ => ?_) (fun h => by cases h)
    rw [h1, Bool.true_and] at k
    refine st_leq ?_
    rw [e2]
    cases h2 : decide (c.toNat ≤ 122) with
    | true =>
      refine st_if (fun _ => ?_) (fun h => by cases h)
      rw [h2, Bool.true_or, Bool.true_or] at k; exact k
    | false =>
      refine st_if (fun h => by cases h) (fun _ => ?_)
      rw [h2, Bool.false_or] at k
      exact tail rfl k
  | false =>
    refine st_if (fun h => by cases h) (fun _ => ?_)
    rw [h1, Bool.false_and, Bool.false_or] at k
    exact tail rfl k
theorem tInner : TestsB (.fn (.func fn_line_inner) [] []) bInner := fun c h Q k => linner_sp c k
theorem tDigit : TestsB (.fn (.func fn_line_digit) [] []) bDigit := fun c h Q k => ldigit_sp c k
theorem bneq_front {p : UInt8 → Bool} {l : Str} : decide (((frontN p l : Nat) : Int) ≠ ((l.length : Nat) : Int)) = !(l.all p) := by
  rw [Bool.eq_iff_iff, decide_eq_true_eq, Bool.not_eq_true', ← Bool.not_eq_true, ← frontN_eq]; omega
theorem Word_sp (s : Str) (hs : s.length < 4611686018427387904) (k : Q (B (isWord s)) h) : C fn_line_Word [T s] h Q := by
  refine line_Word_ok _ _ _ ?_
  unfold line_Word
  cases s with
  | nil => (repeat refine st_seq ?_); exact k
  | cons c t =>
  dsimp only [isWord] at k
  (repeat (first | refine st_lenS ?_ | refine st_gtr ?_ | refine st_seq ?_))
  refine st_if (fun hl => ?_) (fun hl => ?_) <;> simp only [za, zb, zc, zd, ze, zf, zg, zh, zi, u8i, zj, zk, zl] at hl
  · have e : decide ((c :: t).length ≤ 12) = false := by simp at hl ⊢; omega
    rw [e, Bool.false_and] at k
    exact k
  have e : decide ((c :: t).length ≤ 12) = true := by simp at hl ⊢; omega
  rw [e, Bool.true_and] at k
  refine st_index (by omega) (by simp) ?_
  refine ldigit_sp c ?_
  cases h2 : bDigit c with
  | true =>
    refine st_if (fun _ => ?_) (fun h => by cases h)
    rw [show pDigit c.toNat = true from h2] at k
    exact k
  | false =>
  refine st_if (fun h => by cases h) (fun _ => ?_)
  rw [show pDigit c.toNat = false from h2] at k
  simp only [Bool.not_false, Bool.true_and] at k
  refine front_sp tInner _ hs ?_
  refine st_lenS ?_
  refine st_neq ?_
  rw [bneq_front]
  cases h3 : (c :: t).all bInner with
  | false =>
    refine st_if (fun _ => ?_) (fun h => by cases h)
    rw [show ((c :: t).all fun c => pInner c.toNat) = false from h3, Bool.false_and] at k
    exact k
  | true =>
  refine st_if (fun h => by cases h) (fun _ => ?_)
  rw [show ((c :: t).all fun c => pInner c.toNat) = true from h3, Bool.true_and] at k
  refine st_index (by omega) (by simp) ?_
  refine st_neq ?_
  have e4 : decide ((((c :: t)[Int.toNat 0].toNat : Nat) : Int) ≠ 114) = decide (c ≠ 114) := by
    rw [Bool.eq_iff_iff]; simp [← UInt8.toNat_inj]; omega
  rw [e4]
  cases h4 : decide (c ≠ 114) with
  | true =>
    refine st_if (fun _ => ?_) (fun h => by cases h)
    rw [h4, Bool.true_or] at k
    exact k
  | false =>
  refine st_if (fun h => by cases h) (fun _ => ?_)
  rw [h4, Bool.false_or] at k
  (repeat (first | refine st_lenS ?_ | refine st_eql ?_))
  cases t with
  | nil => refine st_if (fun _ => ?_) (fun hb => (by exfalso; first | (simp at hb; done) | (simp at hb; omega) | (revert hb; decide) | omega)); exact k
  | cons d t =>
  refine st_if (fun h => by simp at h; omega) (fun _ => ?_)
  refine st_cutr (by omega) (by simp; omega) ?_
  rw [show ((c :: d :: t).drop (Int.toNat 1)) = d :: t from rfl]
  refine front_sp tDigit (d :: t) (by simp at hs ⊢; omega) ?_
  refine st_lenS ?_
  refine st_sub (by simp at hs ⊢; omega) ?_
  refine st_neq ?_
  rw [show (((c :: d :: t).length : Nat) : Int) - 1 = (((d :: t).length : Nat) : Int) by simp, bneq_front]
  exact k
end
end
end
section
noncomputable section
structure Rq where
  kind : Int
  name : Str
  text : Str
  value : Int
abbrev rqL (r : Rq) : List AV := [I r.kind, T r.name, T r.text, I r.value]
abbrev rqE (r : Rq) : AV := .agg (rqL r)
def writesM (k : Int) : Bool := decide (k = 1) || decide (k = 3)
def rightM (r : Rq) : Bool :=
  if r.kind < 1 ∨ 7 < r.kind then false
  else if r.kind = 7 then decide (r.name = [] ∧ r.text = [] ∧ r.value = 0)
  else isWord r.name && (decide (r.text.length ≤ 600) && ((decide (r.text = []) || writesM r.kind) && (decide (-1099511627776 ≤ r.value ∧ r.value ≤ 1099511627776) && (decide (r.value = 0) || decide (r.kind = 5)))))
section
variable [Tabs]
variable {h0 h : AHeap} {M : List Nat} {L R : Own} {K : AV → Prop} {Q : QT}
theorem st_eqS {op : BinOp} {ds : List TypeDesc} {xs ys : List AV} {b : Bool} (e : eqCells ds xs ys = some b) (k : nilK op b K) : qEqS op ds (.agg xs) (.agg ys) K := ⟨by simp only [pEqS, e]; exact k⟩
theorem writes_sp {n : Int} (k : Q (B (writesM n)) h) : C fn_work_writes [I n] h Q := by
  refine work_writes_ok _ _ _ ?_
  unfold work_writes
  unfold writesM at k
  refine st_eql ?_
  refine st_if (fun h1 => ?_) (fun h1 => ?_) <;> simp only [za, zb, zc, zd, ze, zf, zg, zh, zi, u8i, zj, zk, zl] at h1
  · rw [decide_eq_true h1] at k; exact k
  · rw [decide_eq_false h1, Bool.false_or] at k
    (repeat refine st_eql ?_)
    exact k
theorem defines_sp {n : Int} (k : Q (B (decide (n = 5))) h) : C fn_work_defines [I n] h Q := by
  refine work_defines_ok _ _ _ ?_
  unfold work_defines
  (repeat refine st_eql ?_)
  exact k
theorem eqRq (a b c d : Int) (n m t u : Str) : eqCells [.int .i64, .string, .string, .int .i64] [I a, T n, T t, I c] [I b, T m, T u, I d] = some (decide (a = b) && (decide (n = m) && (decide (t = u) && (decide (c = d) && true)))) := by
  have hs : ∀ x y : Str, ((⟨⟨x⟩⟩ : ByteArray) == ⟨⟨y⟩⟩) = decide (x = y) := fun x y => by
    rw [Bool.eq_iff_iff, decide_eq_true_eq]
    show ((⟨x⟩ : Array UInt8) == ⟨y⟩) = true ↔ _
    simp
  simp only [eqCells, sEqK, if_true, hs]
  rfl
theorem wRight_sp (r : Rq) (hn : r.name.length < 4611686018427387904) (k : ∀ h', Fr [] h h' → Q (B (rightM r)) h') : C fn_work_Right [rqE r] h Q := by
  refine work_Right_ok _ _ _ ?_
  unfold work_Right
  refine st_box (St.start h) rfl fun p h1 s1 => ?_
  have k := k h1 s1.fr
  unfold rightM at k
  (repeat (first | refine st_fa ?_ | refine st_lss ?_ | refine st_load1 ‹_› (.head _) rfl ?_))
  refine st_if (fun a1 => ?_) (fun a1 => ?_) <;> simp only [za, zb, zc, zd, ze, zf, zg, zh, zi, u8i, zj, zk, zl] at a1
  · rw [if_pos (.inl a1)] at k; exact k
  · (repeat (first | refine st_fa ?_ | refine st_gtr ?_ | refine st_load1 ‹_› (.head _) rfl ?_))
    refine st_if (fun a2 => ?_) (fun a2 => ?_) <;> simp only [za, zb, zc, zd, ze, zf, zg, zh, zi, u8i, zj, zk, zl] at a2
    · rw [if_pos (.inr a2)] at k; exact k
    · rw [if_neg (by omega)] at k
      (repeat (first | refine st_fa ?_ | refine st_eql ?_ | refine st_load1 ‹_› (.head _) rfl ?_))
      refine st_if (fun a3 => ?_) (fun a3 => ?_) <;> simp only [za, zb, zc, zd, ze, zf, zg, zh, zi, u8i, zj, zk, zl] at a3
      · rw [if_pos a3] at k
        refine st_loadA s1 (.head _) (nle rfl) (st_build rfl ?_)
        refine st_eqS (eqRq _ _ _ _ _ _ _ _) ?_
        simp only [nilK]
        have : (decide (r.kind = 7) && (decide (r.name = []) && (decide (r.text = []) && (decide (r.value = 0) && true)))) = decide (r.name = [] ∧ r.text = [] ∧ r.value = 0) := by
          rw [Bool.eq_iff_iff]; simp [a3]
        rw [this]; exact k
      · rw [if_neg a3] at k
        (repeat (first | refine st_fa ?_ | refine st_load1 ‹_› (.head _) rfl ?_))
        refine Word_sp _ hn ?_
        (repeat refine st_not ?_)
        refine st_if (fun a4 => ?_) (fun a4 => ?_) <;> simp only [za, zb, zc, zd, ze, zf, zg, zh, zi, u8i, zj, zk, zl] at a4
        · rw [a4, Bool.false_and] at k; exact k
        · rw [a4, Bool.true_and] at k
          (repeat (first | refine st_fa ?_ | refine st_lenS ?_ | refine st_gtr ?_ | refine st_load1 ‹_› (.head _) rfl ?_))
          refine st_if (fun a5 => ?_) (fun a5 => ?_) <;> simp only [za, zb, zc, zd, ze, zf, zg, zh, zi, u8i, zj, zk, zl] at a5
          · rw [decide_eq_false (by omega), Bool.false_and] at k; exact k
          · rw [decide_eq_true (by omega), Bool.true_and] at k
            (repeat (first | refine st_fa ?_ | refine st_sne ?_ | refine st_load1 ‹_› (.head _) rfl ?_))
            have tl : -1099511627776 ≤ r.value → r.value ≤ 1099511627776 → r.value = 0 → (decide (r.text = []) || writesM r.kind) = true → Q (B true) h1 := fun b1 b2 b3 b4 => by
              simpa [b1, b2, b3, b4] using k
            have td : -1099511627776 ≤ r.value → r.value ≤ 1099511627776 → r.value ≠ 0 → (decide (r.text = []) || writesM r.kind) = true → Q (B (decide (r.kind = 5))) h1 := fun b1 b2 b3 b4 => by
              simpa [b1, b2, b3, b4] using k
            have tn : ¬ (-1099511627776 ≤ r.value ∧ r.value ≤ 1099511627776) → (decide (r.text = []) || writesM r.kind) = true → Q (B false) h1 := fun b1 b4 => by
              rw [b4, decide_eq_false b1] at k; exact k
            have tw : ¬ r.text = [] → writesM r.kind = false → Q (B false) h1 := fun b1 b4 => by
              rw [b4, decide_eq_false b1] at k; exact k
            clear k
            refine st_if (fun a6 => ?_) (fun a6 => ?_) <;> simp only [za, zb, zc, zd, ze, zf, zg, zh, zi, u8i, zj, zk, zl] at a6
            · (repeat (first | refine st_fa ?_ | refine st_load1 ‹_› (.head _) rfl ?_))
              refine writes_sp ?_
              (repeat refine st_not ?_)
              refine st_if (fun a7 => ?_) (fun a7 => ?_) <;> simp only [za, zb, zc, zd, ze, zf, zg, zh, zi, u8i, zj, zk, zl] at a7
              · exact tw a6 a7
              · have b4 : (decide (r.text = []) || writesM r.kind) = true := by rw [a7, Bool.or_true]
                ((repeat (first | refine st_fa ?_ | refine st_geq ?_ | refine st_load1 ‹_› (.head _) rfl ?_)); (refine st_if (fun b1 => ?_) (fun b1 => ?_) <;> simp only [za, zb, zc, zd, ze, zf, zg, zh, zi, u8i, zj, zk, zl] at b1); ((repeat (first | refine st_fa ?_ | refine st_leq ?_ | refine st_load1 ‹_› (.head _) rfl ?_)); (refine st_if (fun b2 => ?_) (fun b2 => ?_) <;> simp only [za, zb, zc, zd, ze, zf, zg, zh, zi, u8i, zj, zk, zl] at b2); ((repeat (first | refine st_fa ?_ | refine st_eql ?_ | refine st_load1 ‹_› (.head _) rfl ?_)); (refine st_if (fun b3 => ?_) (fun b3 => ?_) <;> simp only [za, zb, zc, zd, ze, zf, zg, zh, zi, u8i, zj, zk, zl] at b3); exact tl b1 b2 b3 b4; ((repeat (first | refine st_fa ?_ | refine st_load1 ‹_› (.head _) rfl ?_)); refine defines_sp ?_; exact td b1 b2 b3 b4)); exact tn (by omega) b4); exact tn (by omega) b4)
            · have b4 : (decide (r.text = []) || writesM r.kind) = true := by rw [decide_eq_true a6, Bool.true_or]
              ((repeat (first | refine st_fa ?_ | refine st_geq ?_ | refine st_load1 ‹_› (.head _) rfl ?_)); (refine st_if (fun b1 => ?_) (fun b1 => ?_) <;> simp only [za, zb, zc, zd, ze, zf, zg, zh, zi, u8i, zj, zk, zl] at b1); ((repeat (first | refine st_fa ?_ | refine st_leq ?_ | refine st_load1 ‹_› (.head _) rfl ?_)); (refine st_if (fun b2 => ?_) (fun b2 => ?_) <;> simp only [za, zb, zc, zd, ze, zf, zg, zh, zi, u8i, zj, zk, zl] at b2); ((repeat (first | refine st_fa ?_ | refine st_eql ?_ | refine st_load1 ‹_› (.head _) rfl ?_)); (refine st_if (fun b3 => ?_) (fun b3 => ?_) <;> simp only [za, zb, zc, zd, ze, zf, zg, zh, zi, u8i, zj, zk, zl] at b3); exact tl b1 b2 b3 b4; ((repeat (first | refine st_fa ?_ | refine st_load1 ‹_› (.head _) rfl ?_)); refine defines_sp ?_; exact td b1 b2 b3 b4)); exact tn (by omega) b4); exact tn (by omega) b4)
end
end
end
section
noncomputable section
structure WkM where
  f : KL Str
  s : KL Int
section
variable [Tabs]
variable {h0 h : AHeap} {M : List Nat} {L R : Own} {K : AV → Prop} {Q : QT}
def WkS (h0 : AHeap) (M : List Nat) (h : AHeap) (i : Nat) (w : WkM) (R : Own) : Prop := ∃ jf js xf xs, MapS T w.f xf ∧ MapS I w.s xs ∧ St h0 M h ((i, true, .cells [.map jf, .map js]) :: (jf, true, xf) :: (js, true, xs) :: R)
theorem St.after (s : St h0 M h L) {h' : AHeap} (f : Fr [] h h') : St h0 M h' L :=
  ⟨s.fr.trans f (by simp), fun e he => f.get (s.at_ e he) (by simp), s.own, s.nd⟩
structure WkOk (w : WkM) : Prop where
  txt : ∀ x ∈ w.f, x.2.length ≤ 600
  fn : w.f.length ≤ 8
  sn : w.s.length ≤ 8
  fw : ∀ x ∈ w.f, isWord x.1 = true
  sw : ∀ x ∈ w.s, isWord x.1 = true
  sv : ∀ x ∈ w.s, -1099511627776 ≤ x.2 ∧ x.2 ≤ 1099511627776
end
end
end
section
noncomputable section
section
variable [Tabs]
variable {h0 h : AHeap} {M : List Nat} {L R : Own} {K : AV → Prop} {Q : QT}
abbrev nmE : Str → List AV := fun x => [T x]
theorem AccE.row {α : Type} {enc : α → List AV} {sz : Nat} {v : AV} {l : List α} {E : Own} (a : AccE sz v l.length (l.flatMap enc) E) (s : St h0 M h (E ++ L)) : Row enc sz h v l := a.rd s
end
end
end
section
noncomputable section
structure Ver where
  key : Str
  value : Str
  gone : Bool
  stamp : Int
structure Wr where
  key : Str
  value : Str
  gone : Bool
abbrev verE (v : Ver) : List AV := [T v.key, T v.value, B v.gone, I v.stamp]
def vrow (l : List Ver) : AV := .snap l.length (l.flatMap verE)
structure StM where
  pins : KM Int Int
  limit : Int
  now : Int
  keys : KL (List Ver)
def countM (m : StM) : Nat := (m.keys.map fun x => x.2.length).sum
section
variable [Tabs]
variable {h0 h : AHeap} {M : List Nat} {L R : Own} {K : AV → Prop} {Q : QT} {i : Nat} {m : StM}
abbrev stoC (jp jk : Nat) (m : StM) : List AV := [.map jp, I m.limit, I m.now, .map jk]
def StoS (h0 : AHeap) (M : List Nat) (h : AHeap) (i : Nat) (m : StM) (R : Own) : Prop := ∃ jp jk xp xk, MapS I m.pins xp ∧ MapS id (kmap vrow m.keys) xk ∧ St h0 M h ((i, true, .cells (stoC jp jk m)) :: (jp, true, xp) :: (jk, true, xk) :: R)
theorem vrow_row (l : List Ver) : Row verE 4 h (vrow l) l := Row.snap (enc := verE) (fun _ => rfl) l
theorem stoNew_sp {limit : Int} (s : St h0 M h R) (k : ∀ i h', StoS h0 M h' i ⟨[], limit, 0, []⟩ R → Q (.ptr i 0) h') : C fn_store_New [I limit] h Q := by
  refine store_New_ok _ _ _ ?_
  unfold store_New
  refine st_makeMap s fun jf h1 s1 => ?_
  refine st_makeMap s1 fun js h2 s2 => ?_
  refine st_build rfl ?_
  refine st_box s2 rfl fun i h3 s3 => ?_
  exact k i h3 ⟨jf, js, _, _, .nil I, .nil id, s3.perm (.cons _ (.swap _ _ _))⟩
theorem stoNow_sp (s : StoS h0 M h i m R) (k : Q (I m.now) h) : C fn_store_Store_Now [.ptr i 0] h Q := by
  obtain ⟨jp, jk, xp, xk, mp, mk, s⟩ := s
  refine store_Store_Now_ok _ _ _ ?_
  unfold store_Store_Now
  (repeat (first | refine st_nil ?_ | refine st_nilc ?_ | refine st_nilf ?_ | refine st_fa ?_ | refine st_fac ?_ | refine st_lenS ?_ | refine st_lenL1 ?_ | refine st_lenL2 ?_ | refine st_lenL3 ?_ | refine st_ext rfl ?_ | refine st_not ?_ | refine st_lss ?_ | refine st_leq ?_ | refine st_gtr ?_ | refine st_geq ?_ | refine st_eql ?_ | refine st_neq ?_ | refine st_seq ?_ | refine st_sne ?_ | refine st_slt ?_ | refine st_sgt ?_ | refine st_sge ?_ | refine st_add (by omega) ?_ | refine st_sub (by omega) ?_ | refine st_conv64 (by omega) ?_ | refine st_load1 ‹_› (by first | exact .head _ | exact .tail _ (.head _) | exact .tail _ (.tail _ (.head _)) | exact .tail _ (.tail _ (.tail _ (.head _))) | exact .tail _ (.tail _ (.tail _ (.tail _ (.head _)))) | exact .tail _ (.tail _ (.tail _ (.tail _ (.tail _ (.head _))))) | exact .tail _ (.tail _ (.tail _ (.tail _ (.tail _ (.tail _ (.head _))))))) rfl ?_ | refine st_load1c ?_ | refine st_loadA ‹_› (by first | exact .head _ | exact .tail _ (.head _) | exact .tail _ (.tail _ (.head _)) | exact .tail _ (.tail _ (.tail _ (.head _))) | exact .tail _ (.tail _ (.tail _ (.tail _ (.head _)))) | exact .tail _ (.tail _ (.tail _ (.tail _ (.tail _ (.head _))))) | exact .tail _ (.tail _ (.tail _ (.tail _ (.tail _ (.tail _ (.head _))))))) (nle rfl) ?_ | refine st_partA ?_ | refine st_part1 rfl ?_ | refine st_build rfl ?_ | refine st_buildS rfl rfl ?_ | refine st_iface ?_ | refine st_max ?_ | refine st_min ?_ | refine st_convs ?_))
  exact k
end
end
end
section
noncomputable section
theorem sub_sum {β : Type} (f : β → Nat) : ∀ (a b : List β), a.Nodup → (∀ x ∈ a, x ∈ b) → (a.map f).sum ≤ (b.map f).sum
  | [], b, _, _ => by simp
  | x :: r, b, nd, hs => by
    obtain ⟨s, t, rfl⟩ := List.append_of_mem (hs x (by simp))
    simp only [List.nodup_cons] at nd
    have := sub_sum f r (s ++ t) nd.2 fun y hy => by
      have := hs y (by simp [hy])
      simp only [List.mem_append, List.mem_cons] at this ⊢
      rcases this with h | h | h
      · exact .inl h
      · subst h; exact (nd.1 hy).elim
      · exact .inr h
    simp only [List.map_cons, List.sum_cons, List.map_append, List.sum_append_nat] at this ⊢
    omega
theorem sub_len {β : Type} {a b : List β} (nd : a.Nodup) (hs : ∀ x ∈ a, x ∈ b) : a.length ≤ b.length := by
  have := sub_sum (fun _ => 1) a b nd hs
  have e : ∀ l : List β, (l.map fun _ => 1).sum = l.length := fun l => by induction l with
    | nil => rfl
    | cons x l ih => simp only [List.map_cons, List.sum_cons, List.length_cons, ih]; omega
  rwa [e, e] at this
section
variable [Tabs]
variable {h0 h : AHeap} {M : List Nat} {L R : Own} {K : AV → Prop} {Q : QT} {i : Nat} {m : StM}
theorem total_sp (s : StoS h0 M h i m R) (hc : countM m < 1000000000) (q : ∀ h', StoS h0 M h' i m R → Q (I (countM m : Nat)) h') : C fn_store_Store_Count [.ptr i 0] h Q := by
  obtain ⟨jp, jk, xp, xk, mp, mk, s⟩ := s
  refine store_Store_Count_ok _ _ _ ?_
  unfold store_Store_Count
  show ACall Pg fn_store_Store_total [.ptr i 0, .fn (.func fn_store_length) [] []] h _
  refine store_Store_total_ok _ _ _ _ ?_
  unfold store_Store_total
  (repeat (first | refine st_nil ?_ | refine st_fa ?_ | refine st_load1 ‹_› (.head _) rfl ?_))
  have mk' := mk
  obtain ⟨es, n, rfl, r⟩ := mk'
  refine st_rangeMS s (s.get (.tail _ (.tail _ (.head _)))) fun it h1 s1 => ?_
  have hlen : ∀ x ∈ es, ∃ l, x.2.2 = vrow l := fun x hx => by
    have := (r.eq (x.1, x.2.2)).1 (List.mem_map.2 ⟨x, hx, rfl⟩)
    obtain ⟨y, hy, e⟩ := List.mem_map.1 this
    exact ⟨y.2, (congrArg Prod.snd e).symm⟩
  let len : AV → Nat := fun v => match v with | .snap n _ => n | _ => 0
  have htot : ∀ done : List (Str × Nat × AV), (∀ x ∈ done, x ∈ es) → (done.map (·.2.1)).Nodup → (∀ x ∈ es, x.2.1 ∈ done.map (·.2.1)) → (done.map fun x => len x.2.2).sum = countM m := fun done hd nd hall => by
    have hp := done_perm r hd nd hall
    have h1 := (hp.map fun x => len x.2.2).sum_nat
    rw [h1]
    have h2 := (r.perm.map fun x => len x.2).sum_nat
    rw [List.map_map] at h2
    have h2 : (es.map fun x => len x.2.2).sum = ((kmap vrow m.keys).map fun x => len x.2).sum := h2
    rw [h2]
    unfold kmap countM
    rw [List.map_map]; rfl
  refine st_loop (fun c vs h' => ∃ done : List (Str × Nat × AV), (∀ x ∈ done, x ∈ es) ∧ (done.map (·.2.1)).Nodup ∧ vs = [I ((done.map fun x => len x.2.2).sum : Nat)] ∧ St h0 M h' ((it, true, iterS jk n (done.map (·.2.1))) :: (i, true, .cells (stoC jp jk m)) :: (jp, true, xp) :: (jk, true, .amap (mE id es) n) :: R) ∧ c + done.length = es.length) es.length ⟨[], by simp, by simp, rfl, s1, by simp⟩ ?_
  rintro c vs h2 ⟨done, hd, nd, rfl, s2, hcl⟩
  unfold store_Store_total_l4
  refine st_nextMS s2 (s2.get (.tail _ (.tail _ (.tail _ (.head _))))) r (fun hall => ?_) fun x hx hn h3 s3 => ?_
  · refine st_ext rfl (st_if (fun h => by cases h) (fun _ => ?_))
    show Q (I ((done.map fun x => len x.2.2).sum : Nat)) h2
    rw [htot done hd nd hall]
    exact q _ ⟨jp, jk, xp, _, mp, mk, s2.drop1⟩
  · refine st_ext rfl (st_if (fun _ => ?_) (fun h => by cases h))
    refine st_entryMS s3 (.head _) (s3.get (.tail _ (.tail _ (.tail _ (.head _))))) r hx ?_
    refine st_ext rfl ?_
    obtain ⟨vl, hv⟩ := hlen x hx
    have hnd : ((done ++ [x]).map (·.2.1)).Nodup := by
      rw [List.map_append, List.nodup_append]
      exact ⟨nd, by simp, fun a ha b hb e => by simp at hb; subst hb; subst e; exact hn ha⟩
    have hsub : ∀ y ∈ done ++ [x], y ∈ es := fun y hy => by
      rcases List.mem_append.1 hy with h | h
      · exact hd y h
      · simp at h; subst h; exact hx
    have hnd2 : (done ++ [x]).Nodup := List.Pairwise.of_map _ (fun _ _ h e => h (by rw [e])) hnd
    have hlt : done.length < es.length := by have := sub_len hnd2 hsub; simp at this; omega
    have hle : (done.map fun x => len x.2.2).sum + vl.length ≤ countM m := by
      have h1 := sub_sum (fun x => len x.2.2) _ _ hnd2 hsub
      have h3 := htot es (fun x h => h) r.nb (fun x hx => List.mem_map_of_mem hx)
      rw [h3, List.map_append, List.sum_append_nat] at h1
      simp [hv, vrow, len] at h1
      simpa [len] using h1
    rw [show id x.2.2 = vrow vl from hv]
    show ACall Pg fn_store_length [vrow vl] h3 _
    refine store_length_ok _ _ _ ?_
    unfold store_length
    refine (vrow_row (h := h3) vl).len ?_
    refine st_add (by omega) ?_
    refine ⟨c - 1, by omega, done ++ [x], hsub, hnd, ?_, by rw [List.map_append]; exact s3, by simp; omega⟩
    rw [List.map_append, List.sum_append_nat]
    simp [hv, vrow, len]
end
end
end
section
noncomputable section
def wrK (now : Int) (ks : KL (List Ver)) (w : Wr) : KL (List Ver) := insK w.key ((lookK w.key ks).getD [] ++ [⟨w.key, w.value, w.gone, now⟩]) ks
def commitM (m : StM) (ws : List Wr) : StM := { m with now := m.now + 1, keys := ws.foldl (wrK (m.now + 1)) m.keys }
section
variable [Tabs]
variable {h0 h : AHeap} {M : List Nat} {L R : Own} {K : AV → Prop} {Q : QT} {i : Nat} {m : StM}
end
end
end
section
noncomputable section
section
variable [Tabs]
variable {h0 h : AHeap} {M : List Nat} {L R : Own} {K : AV → Prop} {Q : QT} {i : Nat} {m : StM}
structure KVOk : Prop where
  k : ∃ tm, KeysIs Pg fn_maps_Keys_map_string_store_version_string__store_version fn_maps_Keys_map_string_store_version_string__store_version_1 tm
  s : ∃ ks, SortedIs Pg fn_slices_Sorted_string fn_maps_Keys_map_string_store_version_string__store_version_1 ks
structure StoOk (m : StM) : Prop where
  n : m.keys.length ≤ 100000
  k : ∀ x ∈ m.keys, x.1.length ≤ 1000000
  c : countM m < 500000
end
end
end
section
noncomputable section
section
variable [Tabs]
variable {h0 h : AHeap} {M : List Nat} {L R : Own} {K : AV → Prop} {Q : QT} {i : Nat} {m : StM}
end
end
end
section
noncomputable section
section
variable [Tabs]
variable {h0 h : AHeap} {M : List Nat} {L R : Own} {K : AV → Prop} {Q : QT} {i : Nat} {m : StM}
end
end
end
section
noncomputable section
def joinM (l : List Str) : Str := l.flatMap fun x => x ++ [10]
def partsM (s : Str) : List Str := (splitB 10 s).dropLast
def sumL (l : List Str) : Nat := (l.map fun x => x.length + 1).sum
section
variable [Tabs]
variable {h0 h : AHeap} {M : List Nat} {L R : Own} {K : AV → Prop} {Q : QT}
end
end
end
section
noncomputable section
structure WkSo (w : WkM) : Prop where
  f : SoK w.f
  s : SoK w.s
theorem WkSo.nil : WkSo ⟨[], []⟩ := ⟨List.Pairwise.nil, List.Pairwise.nil⟩
theorem WkOk.nil : WkOk ⟨[], []⟩ := ⟨by simp, by simp, by simp, by simp, by simp, by simp⟩
section
variable [Tabs]
variable {h0 h : AHeap} {M : List Nat} {L R R' : Own} {K : AV → Prop} {KH : QT} {KS' : AHeap → Prop} {Q : QT} {i : Nat} {w : WkM}
theorem WkS.so (s : WkS h0 M h i w R) : WkSo w := by
  obtain ⟨jf, js, xf, xs, ⟨_, _, _, mf⟩, ⟨_, _, _, ms⟩, s⟩ := s
  exact ⟨mf.so, ms.so⟩
theorem WkS.rest (s : WkS h0 M h i w R) : St h0 M h R := by
  obtain ⟨jf, js, xf, xs, mf, ms, s⟩ := s
  exact s.drop1.drop1.drop1
theorem perm3 {a b c d : Nat × Bool × AObj} {R : Own} : (d :: a :: b :: c :: R).Perm (a :: b :: c :: d :: R) :=
  (List.Perm.swap _ _ _).trans (((List.Perm.swap _ _ _).trans ((List.Perm.swap _ _ _).cons _)).cons _)
theorem WkS.after (s : WkS h0 M h i w R) {h' : AHeap} (f : Fr [] h h') : WkS h0 M h' i w R := by
  obtain ⟨jf, js, xf, xs, mf, ms, s⟩ := s
  exact ⟨jf, js, xf, xs, mf, ms, s.after f⟩
theorem st_ptrNo {p o : Nat} (k : K (B false)) : qBinP .eql (.ptr p o) (.lit (.pointer none)) K := ⟨k⟩
theorem mod_cases {a n : Int} (ha : -9223372036854775808 ≤ a ∧ a ≤ 9223372036854775807) (hn : 0 < n) : (a.tmod n = a % n ∧ 0 ≤ a.tmod n) ∨ (a.tmod n = a % n - n ∧ a.tmod n < 0) := by
  have h0 := Int.emod_nonneg a (show n ≠ 0 by omega)
  have h4 := Int.emod_lt_of_pos a hn
  rw [Int.tmod_eq_emod]
  have hab : (n.natAbs : Int) = n := by omega
  split
  · exact .inl ⟨by omega, by omega⟩
  · right; rw [hab]; exact ⟨rfl, by omega⟩
end
end
end
section
noncomputable section
section
variable [Tabs]
variable {h0 h : AHeap} {M : List Nat} {L R : Own} {K : AV → Prop} {Q : QT}
def Known10 : Prop := ∀ (h : AHeap) (Q : QT), Q (B true) h → C fn_law10_known [] h Q
end
end
end
section
noncomputable section
theorem known_run [Tabs] : runG Pg tb5 sp10 100 fn_law10_known [] .leaf 0 (fun r t _ => chkR (B true) r t) = true := by kernel_rfl
theorem known10 [Tabs5] : Known10 := fun h Q q => closed_call Tabs5.tb sp10_ok (d := 100) (B true) rfl rfl known_run q
end
end
section
noncomputable section
def withM (l : List Str) (x : Str) : List Str := sortL (l ++ [x])
def AdjNe (l : List Str) : Prop := ∀ q (h : q + 1 < l.length), l[q]'(by omega) ≠ l[q + 1]
section
variable [Tabs]
variable {h0 h : AHeap} {M : List Nat} {L R : Own} {K : AV → Prop} {Q : QT}
end
end
end
section
noncomputable section
structure TxM where
  r : Rq
  tries : Int
  trying : Bool
  over : Bool
  at_ : Int
  todo : List Str
  got : KL (Option Str)
def getT (t : TxM) (k : Str) : Option Str := (lookK k t.got).getD none
def namesT (t : TxM) (k : Str) : List Str := partsM ((getT t k).getD [])
def mbE (o : Option Str) : AV := .agg [T (o.getD []), B o.isSome]
section
variable [Tabs]
variable {h0 h : AHeap} {M : List Nat} {L R R' : Own} {K : AV → Prop} {KH : QT} {KS' : AHeap → Prop} {Q : QT} {i : Nat} {m : StM}
theorem StoS.rest (s : StoS h0 M h i m R) : St h0 M h R := by
  obtain ⟨jp, jk, xp, xk, mp, mk, s⟩ := s
  exact s.drop1.drop1.drop1
theorem so_new {cs : List AV} (s : StoS h0 M h i m R) (k : ∀ p h', StoS h0 M h' i m ((p, true, .cells cs) :: R) → KH (.ptr p 0) h') : qNew cs h KH := by
  obtain ⟨jp, jk, xp, xk, mp, mk, s⟩ := s
  exact st_new s fun p h' s' => k p h' ⟨jp, jk, xp, xk, mp, mk, s'.perm perm3⟩
theorem so_box {v : AV} (s : StoS h0 M h i m R) (e : v.isTup = false) (k : ∀ p h', StoS h0 M h' i m ((p, true, .cells v.cells) :: R) → KH (.ptr p 0) h') : qBox v h KH := by
  obtain ⟨jp, jk, xp, xk, mp, mk, s⟩ := s
  exact st_box s e fun p h' s' => k p h' ⟨jp, jk, xp, xk, mp, mk, s'.perm perm3⟩
theorem so_makeMap (s : StoS h0 M h i m R) (k : ∀ p h', StoS h0 M h' i m ((p, true, .amap [] 0) :: R) → KH (.map p) h') : qMakeMap h KH := by
  obtain ⟨jp, jk, xp, xk, mp, mk, s⟩ := s
  exact st_makeMap s fun p h' s' => k p h' ⟨jp, jk, xp, xk, mp, mk, s'.perm perm3⟩
theorem so_store {p o n : Nat} {cs : List AV} {u : AV} (s : StoS h0 M h i m R) (e : Sub R (p, true, .cells cs) R' (p, true, .cells (splice cs o u.cells))) (e1 : u.isTup = false) (e2 : u.cells.length = n) (e3 : u.cells.all AV.one = true) (e4 : o + n ≤ cs.length)
    (k : ∀ h', StoS h0 M h' i m R' → KS' h') : qStore n (.ptr p o) u h KS' := by
  obtain ⟨jp, jk, xp, xk, mp, mk, s⟩ := s
  exact st_store s (.tail (.tail (.tail e))) e1 e2 e3 e4 fun h' s' => k h' ⟨jp, jk, xp, xk, mp, mk, s'⟩
theorem so_load1 {p o : Nat} {b : Bool} {cs : List AV} {a : AV} (s : StoS h0 M h i m R) (e : (p, b, .cells cs) ∈ R) (e2 : cs[o]? = some a) (k : K a) : qLoad1 (.ptr p o) h K := st_load1 s.rest e e2 k
theorem so_loadA {p o n : Nat} {b : Bool} {cs : List AV} (s : StoS h0 M h i m R) (e : (p, b, .cells cs) ∈ R) (e2 : o + n ≤ cs.length) (k : K (.agg ((cs.drop o).take n))) : qLoadA n (.ptr p o) h K := st_loadA s.rest e e2 k
theorem StoS.after (s : StoS h0 M h i m R) {h' : AHeap} (f : Fr [] h h') : StoS h0 M h' i m R := by
  obtain ⟨jp, jk, xp, xk, mp, mk, s⟩ := s
  exact ⟨jp, jk, xp, xk, mp, mk, s.after f⟩
theorem StoS.sub (s : StoS h0 M h i m R) (hs : R'.Sublist R) : StoS h0 M h i m R' := by
  obtain ⟨jp, jk, xp, xk, mp, mk, s⟩ := s
  exact ⟨jp, jk, xp, xk, mp, mk, s.sub (((hs.cons_cons _).cons_cons _).cons_cons _)⟩
theorem StoS.perm (s : StoS h0 M h i m R) (hs : R.Perm R') : StoS h0 M h i m R' := by
  obtain ⟨jp, jk, xp, xk, mp, mk, s⟩ := s
  exact ⟨jp, jk, xp, xk, mp, mk, s.perm (((hs.cons _).cons _).cons _)⟩
abbrev txC (i : Nat) (pb : Nat) (t : TxM) (td gt : AV) : List AV := [.ptr i 0, .ptr pb 0, I t.r.kind, T t.r.name, T t.r.text, I t.r.value, I t.tries, B t.trying, B t.over, I t.at_, td, gt]
def tdE (l : List Str) (v : AV) : Prop := v = .snap l.length (l.flatMap nmE) ∨ v = .full l.length (l.flatMap nmE)
theorem tdE.row {l : List Str} {v : AV} (e : tdE l v) : Row nmE 1 h v l := by
  rcases e with rfl | rfl
  · exact Row.snap (enc := nmE) (fun _ => rfl) l
  · exact Row.full (enc := nmE) (fun _ => rfl) l
inductive TxO (i : Nat) (pb : Nat) (p : Nat) (t : TxM) : Own → Prop where
  | no {td : AV} (e : tdE t.todo td) (hn : t.trying = false) (hg : t.got = []) : TxO i pb p t [(p, true, .cells (txC i pb t td (.lit (.map none))))]
  | on {td : AV} {jg : Nat} {xg : AObj} (e : tdE t.todo td) (mg : MapS mbE t.got xg) : TxO i pb p t [(p, true, .cells (txC i pb t td (.map jg))), (jg, true, xg)]
theorem txBegin_sp {pb : Nat} {r : Rq} (s : St h0 M h R) (q : ∀ p E h', TxO i pb p ⟨r, 0, false, false, 0, [], []⟩ E → St h0 M h' (E ++ R) → Q (.ptr p 0) h') : C fn_txn_Begin [.ptr i 0, .ptr pb 0, rqE r] h Q := by
  refine txn_Begin_ok _ _ _ _ _ ?_
  unfold txn_Begin
  refine st_box s rfl fun p0 h1 s1 => ?_
  refine st_loadA s1 (.head _) (nle rfl) ?_
  refine st_build (cs := txC i pb ⟨r, 0, false, false, 0, [], []⟩ (.full 0 []) (.lit (.map none))) rfl ?_
  refine st_box s1 rfl fun p h2 s2 => ?_
  exact q p _ h2 (.no (.inr rfl) rfl rfl) (s2.sub (((List.Sublist.refl _).cons _).cons_cons _))
theorem txTries_sp {pb : Nat} {p : Nat} {t : TxM} {E : Own} (o : TxO i pb p t E) (s : St h0 M h (E ++ R)) (q : Q (I t.tries) h) : C fn_txn_Txn_Tries [.ptr p 0] h Q := by
  refine txn_Txn_Tries_ok _ _ _ ?_
  unfold txn_Txn_Tries
  cases o with
  | no e hn hg => (repeat (first | refine st_nil ?_ | refine st_fa ?_ | refine st_load1 ‹_› (.head _) rfl ?_)); exact q
  | on e mg => (repeat (first | refine st_nil ?_ | refine st_fa ?_ | refine st_load1 ‹_› (.head _) rfl ?_)); exact q
end
end
end
section
noncomputable section
structure PinOk (m : StM) : Prop where
  b : ∀ k v, lookK k m.pins = some v → v < 1000000000 ∧ -1000000000 < v
section
variable [Tabs]
variable {h0 h : AHeap} {M : List Nat} {L R R' : Own} {K : AV → Prop} {KH : QT} {KS' : AHeap → Prop} {Q : QT} {i : Nat} {m : StM}
end
end
end
section
noncomputable section
def withoutM (l : List Str) (x : Str) : List Str := l.filter fun y => decide (y ≠ x)
def setT (t : TxM) (all of_ value : Str) : List Wr × Int :=
  if t.r.name ∈ namesT t all then ([⟨of_ ++ t.r.name, value, false⟩], 0)
  else if 8 ≤ (namesT t all).length then ([], 10)
  else ([⟨of_ ++ t.r.name, value, false⟩, ⟨all, joinM (withM (namesT t all) t.r.name), false⟩], 0)
def goneT (t : TxM) (all of_ : Str) : List Wr × Int :=
  if t.r.name ∈ namesT t all then ([⟨of_ ++ t.r.name, [], true⟩, ⟨all, joinM (withoutM (namesT t all) t.r.name), false⟩], 0) else ([], 9)
def writesT (t : TxM) : List Wr × Int :=
  if t.r.kind = 1 then setT t [100] [102] t.r.text
  else if t.r.kind = 2 then goneT t [100] [102]
  else if t.r.name ∈ namesT t [100] then (if 600 < ((getT t ([102] ++ t.r.name)).getD [] ++ t.r.text).length then ([], 10) else setT t [100] [102] ((getT t ([102] ++ t.r.name)).getD [] ++ t.r.text))
  else ([], 9)
section
variable [Tabs]
variable {h0 h : AHeap} {M : List Nat} {L R R' : Own} {K : AV → Prop} {KH : QT} {KS' : AHeap → Prop} {Q : QT} {i : Nat} {m : StM}
end
end
end
section
noncomputable section
structure DoneM where
  e : Int
  text : Str
  stamp : Int
  wrote : Bool
abbrev doneL (d : DoneM) : List AV := [I d.e, T d.text, .full 0 [], .full 0 [], I d.stamp, B d.wrote]
structure EndOk (t : TxM) (m : StM) : Prop where
  sto : StoOk m
  sto2 : StoOk (commitM m (writesT t).1)
  pin : PinOk m
  now : 0 ≤ m.now ∧ m.now < 1000000000
  val : ∀ k, ((getT t k).getD []).length < 90000
  nm : t.r.name.length < 100
  txt : t.r.text.length < 90000
  adj : t.r.name ∉ namesT t [100] → AdjNe (withM (namesT t [100]) t.r.name)
  sum : sumL (withM (namesT t [100]) t.r.name) < 1000000
  one : t.r.kind = 2 → t.r.name ∈ namesT t [100] → namesT t [100] = [t.r.name]
section
variable [Tabs]
variable {h0 h : AHeap} {M : List Nat} {L R R' : Own} {K : AV → Prop} {KH : QT} {KS' : AHeap → Prop} {Q : QT} {i : Nat} {m : StM}
theorem wtold_sp {pb p : Nat} {t : TxM} {td gt : AV} {d : DoneM} (s : StoS h0 M h i m ((p, true, .cells (txC i pb t td gt)) :: R))
    (q : ∀ h', StoS h0 M h' i m ((p, true, .cells (txC i pb { t with over := true } td gt)) :: R) → Q (.tup [.agg (doneL d), B true]) h') : C fn_txn_Txn_told [.ptr p 0, .agg (doneL d)] h Q := by
  refine txn_Txn_told_ok _ _ _ _ ?_
  unfold txn_Txn_told
  refine so_box s rfl fun p3 h1 s1 => ?_
  refine so_new s1 fun p4 h2 s2 => ?_
  refine st_nil (st_fa (so_store s2 (.tail (.tail .head)) rfl rfl rfl (nle rfl) fun h3 s3 => ?_))
  refine so_loadA s3 (.tail _ (.head _)) (nle rfl) ?_
  refine so_store s3 .head rfl rfl rfl (nle rfl) fun h4 s4 => ?_
  refine so_loadA s4 (.head _) (nle rfl) ?_
  exact q h4 (s4.sub (((List.Sublist.refl _).cons _).cons _))
end
end
end
section
noncomputable section
section
variable [Tabs]
variable {h0 h : AHeap} {M : List Nat} {L R R' : Own} {K : AV → Prop} {KH : QT} {KS' : AHeap → Prop} {Q : QT} {i : Nat} {m : StM}
abbrev zDone : List AV := [I 0, S ⟨#[]⟩, .full 0 [], .full 0 [], I 0, B false]
end
end
end
section
noncomputable section
section
variable [Tabs]
variable {h0 h : AHeap} {M : List Nat} {L R : Own} {K : AV → Prop} {Q : QT}
def fitB (i : Nat) (n : Nat) : Bool := (decide (97 ≤ n ∧ n ≤ 122) || decide (n = 95)) || (decide (0 < i) && pDigit n)
def dgB (i : Nat) (n : Nat) (d : Bool) : Bool := if 0 < i ∧ pDigit n = false then false else d
theorem r3_c3 {x : AV} {i n : Nat} {d e : Bool} (hi : i ≤ 12) (he : e = pDigit n) {nx : NT} (k : nx [x, B (dgB i n d), I ((i + 1 : Nat) : Int)] h) : ref3_Word_c3 [x, B d, I (i : Nat)] (B e) h nx := by
  unfold ref3_Word_c3
  unfold dgB at k
  subst he
  (repeat refine st_gtr ?_)
  refine st_if (fun h1 => ?_) (fun h1 => ?_) <;> simp only [za, zb, zc, zd, ze, zf, zg, zh, zi, u8i, zj, zk, zl] at h1
  · (repeat refine st_not ?_)
    unfold ref3_Word_c1
    cases hp : pDigit n
    · rw [if_pos ⟨by omega, hp⟩] at k
      unfold ref3_Word_b2 ref3_Word_j1
      exact st_add (by omega) k
    · rw [if_neg (by simp [hp])] at k
      unfold ref3_Word_b2 ref3_Word_j1
      exact st_add (by omega) k
  · rw [if_neg (by omega)] at k
    unfold ref3_Word_b2 ref3_Word_j1
    exact st_add (by omega) k
theorem r3_c4 {x : AV} {i n : Nat} {c : UInt8} {d e a : Bool} (hn : n = c.toNat) (hi : i ≤ 12) (he : e = pDigit n) (ha : a = !decide (97 ≤ n ∧ n ≤ 122)) {nx : NT}
    (k : if fitB i n then nx [x, B (dgB i n d), I ((i + 1 : Nat) : Int)] h else Q (B false) h) : ref3_Word_c4 (B a) (.lit (.int .u8 n)) [x, B d, I (i : Nat)] Q h (B e) nx := by
  unfold ref3_Word_c4
  subst ha
  unfold fitB at k
  by_cases h1 : 97 ≤ n ∧ n ≤ 122
  · rw [if_pos (by simp [h1])] at k
    rw [decide_eq_true h1]
    exact r3_c3 hi he k
  · rw [decide_eq_false h1]
    (repeat refine st_neq ?_)
    refine st_if (fun h2 => ?_) (fun h2 => ?_) <;> simp only [za, zb, zc, zd, ze, zf, zg, zh, zi, u8i, zj, zk, zl] at h2
    · (repeat refine st_eql ?_)
      refine st_if (fun h3 => ?_) (fun h3 => ?_) <;> simp only [za, zb, zc, zd, ze, zf, zg, zh, zi, u8i, zj, zk, zl] at h3
      · skip
        rw [if_neg (by simp [h1]; omega)] at k
        exact k
      · (repeat refine st_not ?_)
        subst he
        cases hp : pDigit n
        · rw [if_neg (by simp [h1, hp]; omega)] at k
          exact k
        · rw [if_pos (by simp [hp]; omega)] at k
          have := r3_c3 (x := x) (d := d) hi hp.symm k
          exact this
    · rw [if_pos (by simp; omega)] at k
      exact r3_c3 hi he k
theorem r3_l3 {x : AV} {s : Str} {i : Nat} {d : Bool} (hi : i < s.length) (hl : s.length ≤ 12) {nx : NT}
    (k : if fitB i s[i].toNat then nx [x, B (dgB i s[i].toNat d), I ((i + 1 : Nat) : Int)] h else Q (B false) h) : ref3_Word_l3 (T s) Q [x, B d, I (i : Nat)] h nx := by
  unfold ref3_Word_l3
  (repeat (first | refine st_lenS ?_ | refine st_lss ?_))
  refine st_if (fun h1 => ?_) (fun h1 => ?_) <;> simp only [za, zb, zc, zd, ze, zf, zg, zh, zi, u8i, zj, zk, zl] at h1
  · refine st_indexN hi ?_
    have hn : ∀ {e a : Bool}, e = pDigit s[i].toNat → a = !decide (97 ≤ s[i].toNat ∧ s[i].toNat ≤ 122) → ref3_Word_c4 (B a) (U8 s[i]) [x, B d, I (i : Nat)] Q h (B e) nx := fun he ha => r3_c4 rfl (by omega) he ha k
    have q1 : ∀ p q : Bool, (p = true ↔ q = true) → p = q := fun p q => Bool.eq_iff_iff.2
    refine st_geq ?_
    refine st_if (fun h2 => ?_) (fun h2 => ?_) <;> simp only [za, zb, zc, zd, ze, zf, zg, zh, zi, u8i, zj, zk, zl] at h2
    · refine st_leq (st_geq ?_)
      refine st_if (fun h3 => ?_) (fun h3 => ?_) <;> simp only [za, zb, zc, zd, ze, zf, zg, zh, zi, u8i, zj, zk, zl] at h3
      · refine st_leq (st_not ?_)
        exact hn (q1 _ _ (by simp [pDigit]; omega)) (q1 _ _ (by simp; omega))
      · refine st_not ?_
        exact hn (q1 _ _ (by simp [pDigit]; omega)) (q1 _ _ (by simp; omega))
    · refine st_geq ?_
      refine st_if (fun h3 => ?_) (fun h3 => ?_) <;> simp only [za, zb, zc, zd, ze, zf, zg, zh, zi, u8i, zj, zk, zl] at h3
      · refine st_leq (st_not ?_)
        exact hn (e := false) (q1 _ _ (by simp [pDigit]; omega)) (q1 _ _ (by simp; omega))
      · refine st_not ?_
        exact hn (e := false) (q1 _ _ (by simp [pDigit]; omega)) (q1 _ _ (by simp; omega))
  · omega
theorem r3_l3e {x : AV} {s : Str} {d : Bool} {nx : NT} (k : Q (B (!d)) h) : ref3_Word_l3 (T s) Q [x, B d, I (s.length : Nat)] h nx := by
  unfold ref3_Word_l3
  (repeat (first | refine st_lenS ?_ | refine st_lss ?_))
  refine st_if (fun h1 => ?_) (fun h1 => ?_) <;> simp only [za, zb, zc, zd, ze, zf, zg, zh, zi, u8i, zj, zk, zl] at h1
  · omega
  · (repeat refine st_not ?_)
    exact k
def r3F : Str → Nat → Bool → Bool
  | [], _, d => !d
  | c :: t, i, d => if fitB i c.toNat then r3F t (i + 1) (dgB i c.toNat d) else false
theorem r3F_in : ∀ (t : Str) (i : Nat) (d : Bool), 0 < i → r3F t i d = (t.all (fun c => pInner c.toNat) && !(d && t.all fun c => pDigit c.toNat))
  | [], i, d, _ => by simp [r3F]
  | c :: t, i, d, h => by
    unfold r3F
    have e : fitB i c.toNat = pInner c.toNat := by
      unfold fitB pInner pSmall pDigit
      rw [Bool.eq_iff_iff]; simp [h]; try omega
    rw [e, r3F_in t (i + 1) _ (by omega)]
    unfold dgB
    simp only [List.all_cons]
    cases pInner c.toNat <;> cases hp : pDigit c.toNat <;> simp [h, hp]
theorem r3F_word (c : UInt8) (t : Str) (hl : (c :: t).length ≤ 12) : r3F (c :: t) 0 (decide (c = 114) && decide (t.length > 0)) = isWord (c :: t) := by
  unfold r3F isWord
  rw [r3F_in t 1 _ (by omega), decide_eq_true hl]
  have e : fitB 0 c.toNat = (!pDigit c.toNat && pInner c.toNat) := by
    unfold fitB pInner pSmall pDigit
    rw [Bool.eq_iff_iff]; simp; try omega
  have e2 : dgB 0 c.toNat (decide (c = 114) && decide (t.length > 0)) = (decide (c = 114) && decide (t.length > 0)) := by unfold dgB; simp
  rw [e, e2]
  simp only [List.all_cons]
  cases t with
  | nil => cases pDigit c.toNat <;> cases pInner c.toNat <;> simp
  | cons b t => by_cases h : c = 114 <;> cases pDigit c.toNat <;> cases pInner c.toNat <;> simp [h]
theorem ref3Word_sp (s : Str) (hs : s.length < 4611686018427387904) (k : Q (B (isWord s)) h) : C fn_ref3_Word [T s] h Q := by
  refine ref3_Word_ok _ _ _ ?_
  unfold ref3_Word
  (repeat (first | refine st_lenS ?_ | refine st_lss ?_))
  refine st_if (fun h1 => ?_) (fun h1 => ?_) <;> simp only [za, zb, zc, zd, ze, zf, zg, zh, zi, u8i, zj, zk, zl] at h1
  · match s, h1 with
    | [], _ => exact k
    | c :: t, h1 => simp at h1; omega
  · (repeat (first | refine st_lenS ?_ | refine st_gtr ?_))
    refine st_if (fun h2 => ?_) (fun h2 => ?_) <;> simp only [za, zb, zc, zd, ze, zf, zg, zh, zi, u8i, zj, zk, zl] at h2
    · match s, h1 with
      | c :: t, _ =>
        have : isWord (c :: t) = false := by unfold isWord; rw [decide_eq_false (by omega)]; rfl
        rw [this] at k; exact k
    · match s, h1 with
      | c :: t, _ =>
        have hl : (c :: t).length ≤ 12 := by omega
        have go : ∀ d : Bool, d = (decide (c = 114) && decide (t.length > 0)) → Loop [B false, B d, I 0] h fun vs h nx => ref3_Word_l3 (T (c :: t)) Q vs h nx := fun d hd => by
          refine st_loop (fun n vs h' => ∃ (i : Nat) (d : Bool), vs = [B false, B d, I (i : Nat)] ∧ h' = h ∧ n + i = (c :: t).length ∧ r3F ((c :: t).drop i) i d = isWord (c :: t)) (c :: t).length ⟨0, d, rfl, rfl, rfl, by rw [hd]; exact r3F_word c t hl⟩ ?_
          rintro n vs h' ⟨i, d, rfl, rfl, hn, hr⟩
          by_cases hi : i < (c :: t).length
          · refine r3_l3 hi hl ?_
            rw [List.drop_eq_getElem_cons hi] at hr
            unfold r3F at hr
            split
            · rename_i hf
              rw [if_pos hf] at hr
              exact ⟨n - 1, by omega, i + 1, _, rfl, rfl, by omega, hr⟩
            · rename_i hf
              rw [if_neg hf] at hr
              rw [← hr] at k; exact k
          · obtain rfl : i = (c :: t).length := by omega
            rw [List.drop_length] at hr
            unfold r3F at hr
            rw [← hr] at k
            exact r3_l3e k
        refine st_indexN (i := 0) (by simp) ?_
        (repeat refine st_eql ?_)
        have e0 : (c :: t)[0].toNat = c.toNat := rfl
        have ec : c.toNat = 114 ↔ c = 114 := ⟨fun h => by rw [← UInt8.ofNat_toNat (x := c), h]; rfl, fun h => by rw [h]; rfl⟩
        refine st_if (fun h3 => ?_) (fun h3 => ?_) <;> simp only [za, zb, zc, zd, ze, zf, zg, zh, zi, u8i, zj, zk, zl] at h3
        · (repeat (first | refine st_lenS ?_ | refine st_gtr ?_))
          rw [e0] at h3
          have h4 : c = 114 := ec.1 (by omega)
          refine go _ ?_
          rw [decide_eq_true h4, Bool.true_and]
          rw [Bool.eq_iff_iff]; simp
          omega
        · rw [e0] at h3
          have h4 : ¬ c = 114 := fun h => h3 (by have := ec.2 h; omega)
          exact go _ (by rw [decide_eq_false h4, Bool.false_and])
theorem ref4Word_sp (s : Str) (hs : s.length < 4611686018427387904) (k : Q (B (isWord s)) h) : C fn_ref4_Word [T s] h Q := by
  refine ref4_Word_ok _ _ _ ?_
  unfold ref4_Word
  exact ref3Word_sp s hs k
theorem st_bne {a b : Bool} (k : K (B (a != b))) : qBinB .neq (B a) (B b) K := ⟨k⟩
theorem r9Right_sp (r : Rq) (hn : r.name.length < 4611686018427387904) (k : ∀ h', Fr [] h h' → Q (B (rightM r)) h') : C fn_ref9_Right [rqE r] h Q := by
  refine ref9_Right_ok _ _ _ ?_
  unfold ref9_Right
  refine st_box (St.start h) rfl fun p h1 s1 => ?_
  have k := k h1 s1.fr
  have kk : ∀ b, b = rightM r → Q (B b) h1 := fun b e => by rw [e]; exact k
  clear k
  let E : Prop := rightM r = (decide (r.text.length ≤ 600) && ((decide (r.text = []) || writesM r.kind) && (decide (-1099511627776 ≤ r.value ∧ r.value ≤ 1099511627776) && (decide (r.value = 0) || decide (r.kind = 5)))))
  have c2 : E → r.text.length ≤ 600 → (r.text = [] ∨ writesM r.kind = true) → ref9_Right_c2 (.ptr p 0) h1 Q := fun e b3 b4 => by
    have e : rightM r = (decide (-1099511627776 ≤ r.value ∧ r.value ≤ 1099511627776) && (decide (r.value = 0) || decide (r.kind = 5))) := by
      rw [show rightM r = _ from e, decide_eq_true b3]
      rcases b4 with b4 | b4 <;> simp [b4]
    rw [e] at kk
    unfold ref9_Right_c2
    (repeat (first | refine st_fa ?_ | refine st_neq ?_ | refine st_load1 ‹_› (.head _) rfl ?_))
    refine st_if (fun d1 => ?_) (fun d1 => ?_) <;> simp only [za, zb, zc, zd, ze, zf, zg, zh, zi, u8i, zj, zk, zl] at d1
    · (repeat (first | refine st_fa ?_ | refine st_eql ?_ | refine st_load1 ‹_› (.head _) rfl ?_))
      refine kk _ ?_
      rw [Bool.eq_iff_iff]; simp [d1]; omega
    · (repeat (first | refine st_fa ?_ | refine st_geq ?_ | refine st_load1 ‹_› (.head _) rfl ?_))
      refine st_if (fun d2 => ?_) (fun d2 => ?_) <;> simp only [za, zb, zc, zd, ze, zf, zg, zh, zi, u8i, zj, zk, zl] at d2
      · (repeat (first | refine st_fa ?_ | refine st_leq ?_ | refine st_load1 ‹_› (.head _) rfl ?_))
        refine kk _ ?_
        rw [Bool.eq_iff_iff]; simp [d1]; omega
      · refine kk _ ?_
        rw [eq_comm, ← Bool.not_eq_true]; simp; omega
  have c3 : E → ref9_Right_c3 (.ptr p 0) h1 Q := fun e => by
    have e6 : 600 < r.text.length → rightM r = false := fun b3 => by
      rw [show rightM r = _ from e, decide_eq_false (show ¬ r.text.length ≤ 600 by omega), Bool.false_and]
    have c1 : r.text.length ≤ 600 → ref9_Right_c1 (B (!writesM r.kind)) (.ptr p 0) h1 Q := fun b3 => by
      unfold ref9_Right_c1
      cases hw : writesM r.kind
      · (repeat (first | refine st_fa ?_ | refine st_sne ?_ | refine st_load1 ‹_› (.head _) rfl ?_))
        refine st_if (fun d3 => ?_) (fun d3 => ?_) <;> simp only [za, zb, zc, zd, ze, zf, zg, zh, zi, u8i, zj, zk, zl] at d3
        · refine kk _ ?_
          rw [show rightM r = _ from e, hw, decide_eq_false d3]; simp
        · exact c2 e b3 (.inl d3)
      · exact c2 e b3 (.inr hw)
    unfold ref9_Right_c3
    (repeat (first | refine st_fa ?_ | refine st_eql ?_ | refine st_load1 ‹_› (.head _) rfl ?_))
    refine st_if (fun d1 => ?_) (fun d1 => ?_) <;> simp only [za, zb, zc, zd, ze, zf, zg, zh, zi, u8i, zj, zk, zl] at d1
    · (repeat (first | refine st_fa ?_ | refine st_lenS ?_ | refine st_gtr ?_ | refine st_load1 ‹_› (.head _) rfl ?_))
      refine st_if (fun d2 => ?_) (fun d2 => ?_) <;> simp only [za, zb, zc, zd, ze, zf, zg, zh, zi, u8i, zj, zk, zl] at d2
      · exact kk _ (e6 (by omega)).symm
      · refine st_not ?_
        have : writesM r.kind = true := by unfold writesM; simp [d1]
        have hc := c1 (by omega)
        rw [this] at hc
        exact hc
    · (repeat (first | refine st_fa ?_ | refine st_lenS ?_ | refine st_gtr ?_ | refine st_eql ?_ | refine st_load1 ‹_› (.head _) rfl ?_))
      refine st_if (fun d2 => ?_) (fun d2 => ?_) <;> simp only [za, zb, zc, zd, ze, zf, zg, zh, zi, u8i, zj, zk, zl] at d2
      · exact kk _ (e6 (by omega)).symm
      · refine st_not ?_
        have : writesM r.kind = decide (r.kind = 3) := by unfold writesM; rw [decide_eq_false d1, Bool.false_or]
        have hc := c1 (by omega)
        rw [this] at hc
        exact hc
  (repeat (first | refine st_fa ?_ | refine st_lss ?_ | refine st_load1 ‹_› (.head _) rfl ?_))
  refine st_if (fun a1 => ?_) (fun a1 => ?_) <;> simp only [za, zb, zc, zd, ze, zf, zg, zh, zi, u8i, zj, zk, zl] at a1
  · exact kk _ (by unfold rightM; rw [if_pos (.inl a1)])
  · (repeat (first | refine st_fa ?_ | refine st_gtr ?_ | refine st_load1 ‹_› (.head _) rfl ?_))
    refine st_if (fun a2 => ?_) (fun a2 => ?_) <;> simp only [za, zb, zc, zd, ze, zf, zg, zh, zi, u8i, zj, zk, zl] at a2
    · exact kk _ (by unfold rightM; rw [if_pos (.inr a2)])
    · (repeat (first | refine st_fa ?_ | refine st_neq ?_ | refine st_load1 ‹_› (.head _) rfl ?_))
      refine ref4Word_sp _ hn ?_
      refine ⟨by (repeat refine st_load1 ‹_› (.head _) rfl ?_); rfl, st_bne ?_⟩
      by_cases h7 : r.kind = 7
      · have e7 : rightM r = decide (r.name = [] ∧ r.text = [] ∧ r.value = 0) := by unfold rightM; rw [if_neg (by omega), if_pos h7]
        cases hw : isWord r.name
        · rw [show (false != decide (r.kind ≠ 7)) = false by simp [h7]]
          (repeat (first | refine st_fa ?_ | refine st_eql ?_ | refine st_load1 ‹_› (.head _) rfl ?_))
          rw [decide_eq_true h7]
          (repeat (first | refine st_fa ?_ | refine st_sne ?_ | refine st_load1 ‹_› (.head _) rfl ?_))
          refine st_if (fun h8 => ?_) (fun h8 => ?_) <;> simp only [za, zb, zc, zd, ze, zf, zg, zh, zi, u8i, zj, zk, zl] at h8
          · exact kk _ (by rw [e7]; simp [h8])
          · refine c3 ?_
            show rightM r = _
            rw [e7, Bool.eq_iff_iff]
            have hw7 : writesM 7 = false := by decide
            simp [h8, hw7, h7]
            constructor
            · rintro ⟨h1, h2⟩; simp [h1, h2]
            · rintro ⟨_, h1, h2, h3⟩; exact ⟨h1, h3⟩
        · rw [show (true != decide (r.kind ≠ 7)) = true by simp [h7]]
          skip
          refine kk _ ?_
          rw [e7, eq_comm, decide_eq_false]
          rintro ⟨h8, _⟩
          rw [h8] at hw; simp [isWord] at hw
      · cases hw : isWord r.name
        · rw [show (false != decide (r.kind ≠ 7)) = true by simp [h7]]
          skip
          refine kk _ ?_
          unfold rightM
          rw [if_neg (by omega), if_neg h7, hw, Bool.false_and]
        · rw [show (true != decide (r.kind ≠ 7)) = false by simp [h7]]
          (repeat (first | refine st_fa ?_ | refine st_eql ?_ | refine st_load1 ‹_› (.head _) rfl ?_))
          rw [decide_eq_false h7]
          exact c3 (by show rightM r = _; unfold rightM; rw [if_neg (by omega), if_neg h7, hw, Bool.true_and])
end
end
end
section
noncomputable section
section
variable [Tabs]
variable {h0 h : AHeap} {M : List Nat} {L R R' : Own} {K : AV → Prop} {KH : QT} {KS' : AHeap → Prop} {Q : QT} {i : Nat} {m : StM}
theorem law10_within_sp {a n : Int} (hn : 0 < n) (hn2 : n ≤ 1000000000000000000) (ha : -9223372036854775808 ≤ a ∧ a ≤ 9223372036854775807) (k : Q (I (a % n)) h) : C fn_law10_within [I a, I n] h Q := by
  refine law10_within_ok _ _ _ _ ?_
  unfold law10_within
  refine st_rem (by omega) ?_
  have h0 := Int.emod_nonneg a (show n ≠ 0 by omega)
  have h4 := Int.emod_lt_of_pos a hn
  have h3 := mod_cases ha hn
  refine st_lss ?_
  refine st_if (fun hb => ?_) (fun hb => ?_) <;> simp only [za, zb, zc, zd, ze, zf, zg, zh, zi, u8i, zj, zk, zl] at hb
  · refine st_add (by omega) ?_
    rw [show a.tmod n + n = a % n by omega]
    exact k
  · rw [← show a.tmod n = a % n by omega] at k
    exact k
theorem soBegin {pb : Nat} {r : Rq} (s : StoS h0 M h i m R) (q : ∀ p E h', TxO i pb p ⟨r, 0, false, false, 0, [], []⟩ E → StoS h0 M h' i m (E ++ R) → Q (.ptr p 0) h') : C fn_txn_Begin [.ptr i 0, .ptr pb 0, rqE r] h Q := by
  obtain ⟨jp, jk, xp, xk, a, b, s⟩ := s
  refine txBegin_sp s fun p E h' o s' => q p E h' o ⟨jp, jk, xp, xk, a, b, s'.perm ?_⟩
  exact List.perm_append_comm_assoc E [_, _, _] R
theorem soTries {pb : Nat} {p : Nat} {t : TxM} {E : Own} (o : TxO i pb p t E) (s : StoS h0 M h i m (E ++ R)) (q : Q (I t.tries) h) : C fn_txn_Txn_Tries [.ptr p 0] h Q := by
  exact txTries_sp o s.rest q
theorem incrNew_sp (s : StoS h0 M h i m R) (q : ∀ j pb h', StoS h0 M h' i m ((pb, true, .cells [.map j, .full 0 [], I 0]) :: (j, true, .amap [] 0) :: R) → Q (.ptr pb 0) h') : C fn_incr_New [] h Q := by
  refine incr_New_ok _ _ ?_
  unfold incr_New
  refine so_makeMap s fun j h1 s1 => ?_
  refine st_build rfl ?_
  refine so_box s1 rfl fun pb h2 s2 => ?_
  exact q j pb h2 s2
theorem stepOver_sp {pb p : Nat} {t : TxM} {E : Own} (ho : t.over = true) (o : TxO i pb p t E) (s : StoS h0 M h i m (E ++ R)) (q : ∀ E' h', TxO i pb p t E' → StoS h0 M h' i m (E' ++ R) → Q (.tup [.agg zDone, B false]) h') : C fn_txn_Txn_Step [.ptr p 0] h Q := by
  refine txn_Txn_Step_ok _ _ _ ?_
  unfold txn_Txn_Step
  refine so_new s fun p2 h1 s1 => ?_
  obtain ⟨td, gt, E0, rfl⟩ : ∃ td gt E0, E = (p, true, .cells (txC i pb t td gt)) :: E0 := by
    cases o with
    | no e hn hg => exact ⟨_, _, _, rfl⟩
    | on e mg => exact ⟨_, _, _, rfl⟩
  refine st_nil (st_fa (so_load1 s1 (.tail _ (.head _)) rfl ?_))
  refine st_if (fun _ => ?_) (fun h => by rw [ho] at h; cases h)
  refine st_build (cs := zDone) rfl ?_
  refine so_store s1 .head rfl rfl rfl (nle rfl) fun h2 s2 => ?_
  refine so_loadA s2 (.head _) (nle rfl) ?_
  exact q _ h2 o (s2.sub ((List.Sublist.refl _).cons _))
theorem stepBad_sp {pb p : Nat} {t : TxM} {E : Own} (ho : t.over = false) (hr : rightM t.r = false) (hn : t.r.name.length < 1000) (o : TxO i pb p t E) (s : StoS h0 M h i m (E ++ R)) (q : ∀ E' h', TxO i pb p { t with over := true } E' → StoS h0 M h' i m (E' ++ R) → Q (.tup [.agg (doneL ⟨12, [], 0, false⟩), B true]) h') : C fn_txn_Txn_Step [.ptr p 0] h Q := by
  refine txn_Txn_Step_ok _ _ _ ?_
  unfold txn_Txn_Step
  refine so_new s fun p2 h1 s1 => ?_
  obtain ⟨td, gt, E0, rfl, hE⟩ : ∃ td gt E0, E = (p, true, .cells (txC i pb t td gt)) :: E0 ∧ (∀ t', t'.r = t.r → t'.todo = t.todo → t'.got = t.got → t'.trying = t.trying → TxO i pb p t' ((p, true, .cells (txC i pb t' td gt)) :: E0)) := by
    cases o with
    | no e hn hg => exact ⟨_, _, _, rfl, fun t' _ h2 h3 h4 => .no (by rw [h2]; exact e) (by rw [h4]; exact hn) (by rw [h3]; exact hg)⟩
    | on e mg => exact ⟨_, _, _, rfl, fun t' _ h2 h3 _ => .on (by rw [h2]; exact e) (by rw [h3]; exact mg)⟩
  refine st_nil (st_fa (so_load1 s1 (.tail _ (.head _)) rfl ?_))
  refine st_if (fun h => by rw [ho] at h; cases h) (fun _ => ?_)
  refine st_nil (st_fa (so_loadA s1 (.tail _ (.head _)) (nle rfl) ?_))
  refine wRight_sp t.r (by omega) fun h2 f2 => ?_
  have s2 := s1.after f2
  refine st_not ?_
  rw [hr]
  refine st_if (fun _ => ?_) (fun h => by cases h)
  refine st_build rfl (st_build (cs := doneL ⟨12, [], 0, false⟩) rfl ?_)
  have s2 := s2.perm (R' := (p, true, .cells (txC i pb t td gt)) :: (p2, true, .cells zDone) :: (E0 ++ R)) (.swap _ _ _)
  refine wtold_sp s2 fun h3 s3 => ?_
  refine st_ext rfl (st_ext rfl ?_)
  refine so_store s3 (.tail .head) rfl rfl rfl (nle rfl) fun h4 s4 => ?_
  refine so_loadA s4 (.tail _ (.head _)) (nle rfl) ?_
  exact q _ h4 (hE { t with over := true } rfl rfl rfl rfl) (s4.sub (((List.Sublist.refl _).cons _).cons_cons _))
theorem bad_end {pb p2 : Nat} {r : Rq} (s : StoS h0 M h i ⟨[], 100, 0, []⟩ R) (hp : (p2, true, .cells (rqL r)) ∈ R) (hr : rightM r = false) (hn : r.name.length < 1000) (k : ∀ h', Q (B true) h') : law10_TxnBad_j17 (.ptr pb 0) (.ptr i 0) (.ptr p2 0) h Q := by
  unfold law10_TxnBad_j17
  refine so_loadA s hp (nle rfl) ?_
  refine soBegin (r := r) s fun p E h o s => ?_
  refine st_ptrNo (st_if (fun h => by cases h) (fun _ => ?_))
  refine stepBad_sp rfl hr hn o s fun E h o s => ?_
  refine st_ext rfl (st_ext rfl ?_)
  refine so_new s fun p8 h s => ?_
  refine so_store s .head rfl rfl rfl (nle rfl) fun h s => ?_
  have s := s.perm (R' := E ++ ((p8, true, .cells (splice zDone 0 (doneL ⟨12, [], 0, false⟩))) :: R)) (List.perm_middle.symm)
  refine stepOver_sp rfl o s fun E h o s => ?_
  refine st_ext rfl (st_ext rfl ?_)
  refine so_new s fun p10 h s => ?_
  refine so_store s .head rfl rfl rfl (nle rfl) fun h s => ?_
  have s := s.sub ((List.Sublist.refl _).cons _)
  have m8 : (p8, true, AObj.cells (splice zDone 0 (doneL ⟨12, [], 0, false⟩))) ∈ E ++ ((p8, true, .cells (splice zDone 0 (doneL ⟨12, [], 0, false⟩))) :: R) := by simp
  refine st_if (fun _ => ?_) (fun h => by cases h)
  (repeat (first | refine st_fa ?_ | refine st_eql ?_ | refine st_not ?_ | refine st_if (fun _ => ?_) (fun h => by simp at h; done)))
  refine so_load1 s m8 rfl ?_
  (repeat (first | refine st_fa ?_ | refine st_eql ?_ | refine st_not ?_ | refine st_if (fun _ => ?_) (fun h => by simp at h; done)))
  refine so_load1 s m8 rfl ?_
  (repeat (first | refine st_fa ?_ | refine st_eql ?_ | refine st_not ?_ | refine st_if (fun _ => ?_) (fun h => by simp at h; done)))
  refine so_load1 s m8 rfl ?_
  (repeat (first | refine st_fa ?_ | refine st_eql ?_ | refine st_not ?_ | refine st_if (fun _ => ?_) (fun h => by simp at h; done)))
  refine soTries o s ?_
  (repeat (first | refine st_fa ?_ | refine st_eql ?_ | refine st_not ?_ | refine st_if (fun _ => ?_) (fun h => by simp at h; done)))
  refine stoNow_sp s ?_
  (repeat (first | refine st_fa ?_ | refine st_eql ?_ | refine st_not ?_ | refine st_if (fun _ => ?_) (fun h => by simp at h; done)))
  refine total_sp s (by decide) fun h s => ?_
  (repeat (first | refine st_fa ?_ | refine st_eql ?_ | refine st_not ?_ | refine st_if (fun _ => ?_) (fun h => by simp at h; done)))
  exact k _
theorem bad_law (hk : Known10) {r : Rq} {n : Int} (hn : -9223372036854775808 ≤ n ∧ n ≤ 9223372036854775807) (k : ∀ h', Q (B true) h') : C fn_law10_TxnBad [rqE r, I n] h Q := by
  refine law10_TxnBad_ok _ _ _ _ ?_
  unfold law10_TxnBad
  refine st_box (St.start h) rfl fun p2 h s => ?_
  refine hk _ _ ?_
  (repeat (first | refine st_fa ?_ | refine st_lenS ?_ | refine st_not ?_ | refine st_gtr ?_ | refine st_load1 ‹_› (.head _) rfl ?_))
  refine st_if (fun b1 => ?_) (fun b1 => ?_) <;> simp only [za, zb, zc, zd, ze, zf, zg, zh, zi, u8i, zj, zk, zl] at b1
  · exact k _
  · (repeat (first | refine st_fa ?_ | refine st_lenS ?_ | refine st_gtr ?_ | refine st_load1 ‹_› (.head _) rfl ?_))
    refine st_if (fun b2 => ?_) (fun b2 => ?_) <;> simp only [za, zb, zc, zd, ze, zf, zg, zh, zi, u8i, zj, zk, zl] at b2
    · exact k _
    · refine stoNew_sp s fun i h s => ?_
      refine incrNew_sp s fun j pb h s => ?_
      refine st_ptrNo (st_if (fun h => by cases h) (fun _ => ?_))
      refine st_ptrNo (st_if (fun h => by cases h) (fun _ => ?_))
      refine so_loadA s (.tail _ (.tail _ (.head _))) (nle rfl) ?_
      refine r9Right_sp r (by omega) fun h f => ?_
      have s := s.after f
      refine st_if (fun h1 => ?_) (fun h1 => ?_)
      · refine law10_within_sp (by decide) (by decide) hn ?_
        refine st_add (by omega) ?_
        refine st_fa ?_
        refine so_store s (.tail (.tail .head)) rfl rfl rfl (nle rfl) fun h s => ?_
        refine bad_end (r := ⟨9 + n % 5, r.name, r.text, r.value⟩) s (.tail _ (.tail _ (.head _))) ?_ (show r.name.length < 1000 by omega) k
        unfold rightM
        rw [if_pos (by simp; omega)]
      · exact bad_end s (.tail _ (.tail _ (.head _))) h1 (by omega) k
end
end
end
section
noncomputable section
variable [Tabs5]
theorem bad_card_law {ka xa : Int} {na ta : Str} {n : Int} (wk : -9223372036854775808 ≤ ka ∧ ka ≤ 9223372036854775807) (wx : -9223372036854775808 ≤ xa ∧ xa ≤ 9223372036854775807) (hn : -9223372036854775808 ≤ n ∧ n ≤ 9223372036854775807) {h : AHeap} {Q : QT} (k : ∀ h', Q (B true) h') : C fn_law10_TxnBad [.agg [I ka, T na, T ta, I xa], I n] h Q :=
  bad_law (r := ⟨ka, na, ta, xa⟩) known10 hn k
end
end
end Go.Proofs.YtamfimhaimaeiaaGreatDoor.AL
