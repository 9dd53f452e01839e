import Derived.Test.YtamfimhaimaeiaaGreatDoorAI3
import Derived.Laws.RangeString
import Derived.Laws.RangeAny
import Derived.Test.YtamfimhaimaeiaaGreatDoorRTtoAI2
import Derived.Test.YtamfimhaimaeiaaGreatDoorF9
import Derived.Test.YtamfimhaimaeiaaGreatDoorSB
import Derived.KernelRfl
set_option linter.all false
set_option autoImplicit true
set_option relaxedAutoImplicit true
set_option maxRecDepth 100000
namespace Go.Proofs.YtamfimhaimaeiaaGreatDoor.AL
section
noncomputable section
variable [Tabs]
end
end
section
noncomputable section
variable [Tabs]
theorem takeWhile_self {p : UInt8 → Bool} : ∀ {l : Str}, l.takeWhile p = l ↔ ∀ x ∈ l, p x = true
  | [] => by simp
  | a :: l => by
    cases h : p a with
    | true => rw [List.takeWhile_cons_of_pos h]; simp [h, takeWhile_self (l := l)]
    | false => rw [List.takeWhile_cons_of_neg (by simp [h])]; simp [h]
theorem takeWhile_all {p : UInt8 → Bool} {l : Str} (h : ∀ j (hj : j < l.length), p l[j] = true) : l.takeWhile p = l := by
  rw [takeWhile_self]
  intro x hx
  obtain ⟨j, hj, rfl⟩ := List.getElem_of_mem hx
  exact h j hj
theorem takeWhile_cut {p : UInt8 → Bool} {l : Str} {k : Nat} (hk : k < l.length) (h : ∀ j (hj : j < k), p (l[j]'(by omega)) = true) (hn : p l[k] = false) : l.takeWhile p = l.take k := by
  conv => lhs; rw [← List.take_append_drop k l]
  rw [List.takeWhile_append_of_pos, List.drop_eq_getElem_cons hk, List.takeWhile_cons_of_neg (by simp [hn]), List.append_nil]
  intro x hx
  obtain ⟨j, hj, rfl⟩ := List.getElem_of_mem hx
  rw [List.length_take] at hj
  rw [List.getElem_take]
  exact h j (by omega)
def pSmall (c : Nat) : Bool := (decide (97 ≤ c) && decide (c ≤ 122)) || decide (c = 95)
def pDigit (c : Nat) : Bool := decide (48 ≤ c) && decide (c ≤ 57)
def pInner (c : Nat) : Bool := pSmall c || pDigit c
theorem dcast {a b : Nat} : decide ((a : Int) ≤ (b : Int)) = decide (a ≤ b) := by rw [Bool.eq_iff_iff, decide_eq_true_eq, decide_eq_true_eq]; omega
theorem deqc {a b : Nat} : decide ((a : Int) = (b : Int)) = decide (a = b) := by rw [Bool.eq_iff_iff, decide_eq_true_eq, decide_eq_true_eq]; omega
def isWord (s : Str) : Bool := match s with
  | [] => false
  | c :: t => decide (s.length ≤ 12) && (!pDigit c.toNat && (s.all (fun c => pInner c.toNat) && (decide (c ≠ 114) || (t.isEmpty || !(t.all fun c => pDigit c.toNat)))))
end
end
section
noncomputable section
variable [Tabs]
inductive Ex where
  | none
  | num (n : Nat)
  | name (s : Str)
  | here
  | neg (e : Ex)
  | bin (k : Nat) (a b : Ex)
  deriving DecidableEq
def encE : Ex → List AV
  | .none => [I 0, I 0, T [], .full 0 []]
  | .num n => [I 1, I (n : Nat), T [], .full 0 []]
  | .name s => [I 2, I 0, T s, .full 0 []]
  | .here => [I 3, I 0, T [], .full 0 []]
  | .neg e => [I 4, I 0, T [], .full 1 (encE e)]
  | .bin k a b => [I (k : Nat), I 0, T [], .full 2 (encE a ++ encE b)]
abbrev pO (l : Str) (d : Nat) (b : Bool) : AObj := .cells [T l, I (d : Nat), B b]
abbrev blk (l : Str) : Str := dropB 32 l
section
variable {i d : Nat} {l : Str} {h : AHeap} {Q : QT}
end
structure PRes (i D : Nat) (m : Option (Ex × Str)) (h : AHeap) (Q : QT) : Prop where
  good : ∀ x l' h', m = some (x, l') → Fr [i] h h' → h'[i]? = some (pO l' D false) → Q (.agg (encE x)) h'
  bad : ∀ cs l' h', m = none → Fr [i] h h' → h'[i]? = some (pO l' D true) → cs.length = 4 → cs.all AV.one = true → Q (.agg cs) h'
theorem PRes.fr {i D : Nat} {m : Option (Ex × Str)} {h h1 : AHeap} {Q : QT} (r : PRes i D m h Q) (f : Fr [i] h h1) : PRes i D m h1 Q :=
  ⟨fun x l' h' e f' => r.good x l' h' e (f.trans f' (by simp)), fun cs l' h' e f' => r.bad cs l' h' e (f.trans f' (by simp))⟩
end
end
section
noncomputable section
variable [Tabs]
section
variable {i D : Nat} {l : Str} {h : AHeap} {Q : QT}
end
end
end
section
noncomputable section
variable [Tabs]
section
variable {i D : Nat} {l : Str} {h : AHeap} {Q : QT}
end
end
end
section
noncomputable section
variable [Tabs]
section
variable {h : AHeap} {Q : QT}
end
end
end
section
noncomputable section
variable [Tabs]
end
end
section
noncomputable section
variable [Tabs]
def TestsB (fv : AV) (p : UInt8 → Bool) : Prop := ∀ (c : UInt8) (h : AHeap) (Q : QT), Q (B (p c)) h → CV fv [U8 c] h Q
section
variable {h : AHeap} {Q : QT}
def frontN (p : UInt8 → Bool) (l : Str) : Nat := (l.takeWhile p).length
theorem frontN_eq {p : UInt8 → Bool} {l : Str} : frontN p l = l.length ↔ l.all p = true := by
  unfold frontN
  constructor
  · intro h
    have : l.takeWhile p = l := (List.takeWhile_sublist p).eq_of_length h
    rw [List.all_eq_true]
    exact takeWhile_self.1 this
  · intro h
    rw [List.all_eq_true] at h
    rw [takeWhile_self.2 h]
theorem front_sp {fv : AV} {p : UInt8 → Bool} (ht : TestsB fv p) (l : Str) (hl : l.length < 4611686018427387904) (k : Q (I (frontN p l : Nat)) h) : C fn_line_front [T l, fv] h Q := by
  refine line_front_ok _ _ _ _ ?_
  unfold line_front
  refine st_loop (fun n vs h' => h' = h ∧ ∃ i : Nat, vs = [I (i : Nat)] ∧ n + i = l.length ∧ ∀ j (hj : j < l.length), j < i → p l[j] = true) l.length ⟨rfl, 0, rfl, by omega, fun j _ hj => by omega⟩ ?_
  rintro n vs h' ⟨rfl, i, rfl, hn, ha⟩
  unfold line_front_l2
  (repeat (first | refine st_lenS ?_ | refine st_lss ?_))
  refine st_if (fun hb => ?_) (fun hb => ?_) <;> simp only [za, zb, zc, zd, ze, zf, zg, zh, zi, u8i, zj, zk, zl] at hb
  · have hi : i < l.length := hb
    refine st_indexN hi ?_
    refine ht l[i] _ _ ?_
    cases hp : p l[i] with
    | true =>
      refine st_if (fun _ => ?_) (fun h => by cases h)
      (repeat refine st_add (by omega) ?_)
      refine ⟨n - 1, by omega, rfl, i + 1, rfl, by omega, fun j hj hj2 => ?_⟩
      rcases Nat.lt_or_eq_of_le (Nat.le_of_lt_succ hj2) with h1 | h1
      · exact ha j hj h1
      · subst h1; exact hp
    | false =>
      refine st_if (fun h => by cases h) (fun _ => ?_)
      have : frontN p l = i := by
        unfold frontN
        rw [takeWhile_cut hi (fun j hj => ha j (by omega) hj) hp]; simp; omega
      rw [this] at k; exact k
  · have : frontN p l = i := by
      unfold frontN
      rw [takeWhile_all fun j hj => ha j hj (by omega)]; omega
    rw [this] at k; exact k
abbrev bDigit (c : UInt8) : Bool := pDigit c.toNat
abbrev bInner (c : UInt8) : Bool := pInner c.toNat
theorem ldigit_sp (c : UInt8) (k : Q (B (bDigit c)) h) : C fn_line_digit [U8 c] h Q := by
  refine line_digit_ok _ _ _ ?_
  unfold line_digit
  have e1 : decide ((48 : Int) ≤ c.toNat) = decide (48 ≤ c.toNat) := dcast (a := 48)
  have e2 : decide ((c.toNat : Int) ≤ 57) = decide (c.toNat ≤ 57) := dcast (b := 57)
  unfold bDigit pDigit at k
  refine st_geq ?_
  rw [e1]
  cases h1 : decide (48 ≤ c.toNat) with
  | true =>
    refine st_if (fun _ => ?_) (fun h => by cases h)
    refine st_leq ?_
    rw [h1, Bool.true_and] at k
    rw [e2]; exact k
  | false =>
    refine st_if (fun h => by cases h) (fun _ => ?_)
    rw [h1, Bool.false_and] at k; exact k
theorem linner_sp (c : UInt8) (k : Q (B (bInner c)) h) : C fn_line_inner [U8 c] h Q := by
  refine line_inner_ok _ _ _ ?_
  unfold line_inner
  have e1 : decide ((97 : Int) ≤ c.toNat) = decide (97 ≤ c.toNat) := dcast (a := 97)
  have e2 : decide ((c.toNat : Int) ≤ 122) = decide (c.toNat ≤ 122) := dcast (b := 122)
  have e3 : decide ((c.toNat : Int) = 95) = decide (c.toNat = 95) := deqc (b := 95)
  unfold bInner pInner pSmall at k
  have tail : ∀ (h' : h = h), (Q (B (decide (c.toNat = 95) || pDigit c.toNat)) h) → qBin .eql (U8 c) (.lit (.int .u8 95)) fun t11 => ifB t11 (Q (B true) h) (C fn_line_digit [U8 c] h fun t15 h0 => Q t15 h0) := by
    intro _ k
    refine st_eql ?_
    rw [e3]
    cases h3 : decide (c.toNat = 95) with
    | true =>
      refine st_if (fun _ => ?_) (fun h => by cases h)
      rw [h3, Bool.true_or] at k; exact k
    | false =>
      refine st_if (fun h => by cases h) (fun _ => ?_)
      rw [h3, Bool.false_or] at k
      exact ldigit_sp c k
  refine st_geq ?_
  rw [e1]
  cases h1 : decide (97 ≤ c.toNat) with
  | true =>
    refine st_if (fun _ => ?_) (fun h => by cases h)
    rw [h1, Bool.true_and] at k
    refine st_leq ?_
    rw [e2]
    cases h2 : decide (c.toNat ≤ 122) with
    | true =>
      refine st_if (fun _ => ?_) (fun h => by cases h)
      rw [h2, Bool.true_or, Bool.true_or] at k; exact k
    | false =>
      refine st_if (fun h => by cases h) (fun _ => ?_)
      rw [h2, Bool.false_or] at k
      exact tail rfl k
  | false =>
    refine st_if (fun h => by cases h) (fun _ => ?_)
    rw [h1, Bool.false_and, Bool.false_or] at k
    exact tail rfl k
theorem tInner : TestsB (.fn (.func fn_line_inner) [] []) bInner := fun c h Q k => linner_sp c k
theorem tDigit : TestsB (.fn (.func fn_line_digit) [] []) bDigit := fun c h Q k => ldigit_sp c k
theorem bneq_front {p : UInt8 → Bool} {l : Str} : decide (((frontN p l : Nat) : Int) ≠ ((l.length : Nat) : Int)) = !(l.all p) := by
  rw [Bool.eq_iff_iff, decide_eq_true_eq, Bool.not_eq_true', ← Bool.not_eq_true, ← frontN_eq]; omega
theorem Word_sp (s : Str) (hs : s.length < 4611686018427387904) (k : Q (B (isWord s)) h) : C fn_line_Word [T s] h Q := by
  refine line_Word_ok _ _ _ ?_
  unfold line_Word
  cases s with
  | nil => (repeat refine st_seq ?_); exact k
  | cons c t =>
  dsimp only [isWord] at k
  (repeat (first | refine st_lenS ?_ | refine st_gtr ?_ | refine st_seq ?_))
  refine st_if (fun hl => ?_) (fun hl => ?_) <;> simp only [za, zb, zc, zd, ze, zf, zg, zh, zi, u8i, zj, zk, zl] at hl
  · have e : decide ((c :: t).length ≤ 12) = false := by simp at hl ⊢; omega
    rw [e, Bool.false_and] at k
    exact k
  have e : decide ((c :: t).length ≤ 12) = true := by simp at hl ⊢; omega
  rw [e, Bool.true_and] at k
  refine st_index (by omega) (by simp) ?_
  refine ldigit_sp c ?_
  cases h2 : bDigit c with
  | true =>
    refine st_if (fun _ => ?_) (fun h => by cases h)
    rw [show pDigit c.toNat = true from h2] at k
    exact k
  | false =>
  refine st_if (fun h => by cases h) (fun _ => ?_)
  rw [show pDigit c.toNat = false from h2] at k
  simp only [Bool.not_false, Bool.true_and] at k
  refine front_sp tInner _ hs ?_
  refine st_lenS ?_
  refine st_neq ?_
  rw [bneq_front]
  cases h3 : (c :: t).all bInner with
  | false =>
    refine st_if (fun _ => ?_) (fun h => by cases h)
    rw [show ((c :: t).all fun c => pInner c.toNat) = false from h3, Bool.false_and] at k
    exact k
  | true =>
  refine st_if (fun h => by cases h) (fun _ => ?_)
  rw [show ((c :: t).all fun c => pInner c.toNat) = true from h3, Bool.true_and] at k
  refine st_index (by omega) (by simp) ?_
  refine st_neq ?_
  have e4 : decide ((((c :: t)[Int.toNat 0].toNat : Nat) : Int) ≠ 114) = decide (c ≠ 114) := by
    rw [Bool.eq_iff_iff]; simp [← UInt8.toNat_inj]; omega
  rw [e4]
  cases h4 : decide (c ≠ 114) with
  | true =>
    refine st_if (fun _ => ?_) (fun h => by cases h)
    rw [h4, Bool.true_or] at k
    exact k
  | false =>
  refine st_if (fun h => by cases h) (fun _ => ?_)
  rw [h4, Bool.false_or] at k
  (repeat (first | refine st_lenS ?_ | refine st_eql ?_))
  cases t with
  | nil => refine st_if (fun _ => ?_) (fun hb => (by exfalso; first | (simp at hb; done) | (simp at hb; omega) | (revert hb; decide) | omega)); exact k
  | cons d t =>
  refine st_if (fun h => by simp at h; omega) (fun _ => ?_)
  refine st_cutr (by omega) (by simp; omega) ?_
  rw [show ((c :: d :: t).drop (Int.toNat 1)) = d :: t from rfl]
  refine front_sp tDigit (d :: t) (by simp at hs ⊢; omega) ?_
  refine st_lenS ?_
  refine st_sub (by simp at hs ⊢; omega) ?_
  refine st_neq ?_
  rw [show (((c :: d :: t).length : Nat) : Int) - 1 = (((d :: t).length : Nat) : Int) by simp, bneq_front]
  exact k
end
end
end
section
noncomputable section
structure Rq where
  kind : Int
  name : Str
  text : Str
  value : Int
abbrev rqL (r : Rq) : List AV := [I r.kind, T r.name, T r.text, I r.value]
abbrev rqE (r : Rq) : AV := .agg (rqL r)
abbrev reL (e : Int) (t : Str) : List AV := [I e, T t, .full 0 [], .full 0 []]
abbrev reE (e : Int) (t : Str) : AV := .agg (reL e t)
def writesM (k : Int) : Bool := decide (k = 1) || decide (k = 3)
def rightM (r : Rq) : Bool :=
  if r.kind < 1 ∨ 7 < r.kind then false
  else if r.kind = 7 then decide (r.name = [] ∧ r.text = [] ∧ r.value = 0)
  else isWord r.name && (decide (r.text.length ≤ 600) && ((decide (r.text = []) || writesM r.kind) && (decide (-1099511627776 ≤ r.value ∧ r.value ≤ 1099511627776) && (decide (r.value = 0) || decide (r.kind = 5)))))
section
variable [Tabs]
variable {h0 h : AHeap} {M : List Nat} {L R : Own} {K : AV → Prop} {Q : QT}
theorem st_eqS {op : BinOp} {ds : List TypeDesc} {xs ys : List AV} {b : Bool} (e : eqCells ds xs ys = some b) (k : nilK op b K) : qEqS op ds (.agg xs) (.agg ys) K := ⟨by simp only [pEqS, e]; exact k⟩
theorem writes_sp {n : Int} (k : Q (B (writesM n)) h) : C fn_work_writes [I n] h Q := by
  refine work_writes_ok _ _ _ ?_
  unfold work_writes
  unfold writesM at k
  refine st_eql ?_
  refine st_if (fun h1 => ?_) (fun h1 => ?_) <;> simp only [za, zb, zc, zd, ze, zf, zg, zh, zi, u8i, zj, zk, zl] at h1
  · rw [decide_eq_true h1] at k; exact k
  · rw [decide_eq_false h1, Bool.false_or] at k
    (repeat refine st_eql ?_)
    exact k
theorem defines_sp {n : Int} (k : Q (B (decide (n = 5))) h) : C fn_work_defines [I n] h Q := by
  refine work_defines_ok _ _ _ ?_
  unfold work_defines
  (repeat refine st_eql ?_)
  exact k
theorem eqRq (a b c d : Int) (n m t u : Str) : eqCells [.int .i64, .string, .string, .int .i64] [I a, T n, T t, I c] [I b, T m, T u, I d] = some (decide (a = b) && (decide (n = m) && (decide (t = u) && (decide (c = d) && true)))) := by
  have hs : ∀ x y : Str, ((⟨⟨x⟩⟩ : ByteArray) == ⟨⟨y⟩⟩) = decide (x = y) := fun x y => by
    rw [Bool.eq_iff_iff, decide_eq_true_eq]
    show ((⟨x⟩ : Array UInt8) == ⟨y⟩) = true ↔ _
    simp
  simp only [eqCells, sEqK, if_true, hs]
  rfl
theorem wRight_sp (r : Rq) (hn : r.name.length < 4611686018427387904) (k : ∀ h', Fr [] h h' → Q (B (rightM r)) h') : C fn_work_Right [rqE r] h Q := by
  refine work_Right_ok _ _ _ ?_
  unfold work_Right
  refine st_box (St.start h) rfl fun p h1 s1 => ?_
  have k := k h1 s1.fr
  unfold rightM at k
  (repeat (first | refine st_fa ?_ | refine st_lss ?_ | refine st_load1 ‹_› (.head _) rfl ?_))
  refine st_if (fun a1 => ?_) (fun a1 => ?_) <;> simp only [za, zb, zc, zd, ze, zf, zg, zh, zi, u8i, zj, zk, zl] at a1
  · rw [if_pos (.inl a1)] at k; exact k
  · (repeat (first | refine st_fa ?_ | refine st_gtr ?_ | refine st_load1 ‹_› (.head _) rfl ?_))
    refine st_if (fun a2 => ?_) (fun a2 => ?_) <;> simp only [za, zb, zc, zd, ze, zf, zg, zh, zi, u8i, zj, zk, zl] at a2
    · rw [if_pos (.inr a2)] at k; exact k
    · rw [if_neg (by omega)] at k
      (repeat (first | refine st_fa ?_ | refine st_eql ?_ | refine st_load1 ‹_› (.head _) rfl ?_))
      refine st_if (fun a3 => ?_) (fun a3 => ?_) <;> simp only [za, zb, zc, zd, ze, zf, zg, zh, zi, u8i, zj, zk, zl] at a3
      · rw [if_pos a3] at k
        refine st_loadA s1 (.head _) (nle rfl) (st_build rfl ?_)
        refine st_eqS (eqRq _ _ _ _ _ _ _ _) ?_
        simp only [nilK]
        have : (decide (r.kind = 7) && (decide (r.name = []) && (decide (r.text = []) && (decide (r.value = 0) && true)))) = decide (r.name = [] ∧ r.text = [] ∧ r.value = 0) := by
          rw [Bool.eq_iff_iff]; simp [a3]
        rw [this]; exact k
      · rw [if_neg a3] at k
        (repeat (first | refine st_fa ?_ | refine st_load1 ‹_› (.head _) rfl ?_))
        refine Word_sp _ hn ?_
        (repeat refine st_not ?_)
        refine st_if (fun a4 => ?_) (fun a4 => ?_) <;> simp only [za, zb, zc, zd, ze, zf, zg, zh, zi, u8i, zj, zk, zl] at a4
        · rw [a4, Bool.false_and] at k; exact k
        · rw [a4, Bool.true_and] at k
          (repeat (first | refine st_fa ?_ | refine st_lenS ?_ | refine st_gtr ?_ | refine st_load1 ‹_› (.head _) rfl ?_))
          refine st_if (fun a5 => ?_) (fun a5 => ?_) <;> simp only [za, zb, zc, zd, ze, zf, zg, zh, zi, u8i, zj, zk, zl] at a5
          · rw [decide_eq_false (by omega), Bool.false_and] at k; exact k
          · rw [decide_eq_true (by omega), Bool.true_and] at k
            (repeat (first | refine st_fa ?_ | refine st_sne ?_ | refine st_load1 ‹_› (.head _) rfl ?_))
            have tl : -1099511627776 ≤ r.value → r.value ≤ 1099511627776 → r.value = 0 → (decide (r.text = []) || writesM r.kind) = true → Q (B true) h1 := fun b1 b2 b3 b4 => by
              simpa [b1, b2, b3, b4] using k
            have td : -1099511627776 ≤ r.value → r.value ≤ 1099511627776 → r.value ≠ 0 → (decide (r.text = []) || writesM r.kind) = true → Q (B (decide (r.kind = 5))) h1 := fun b1 b2 b3 b4 => by
              simpa [b1, b2, b3, b4] using k
            have tn : ¬ (-1099511627776 ≤ r.value ∧ r.value ≤ 1099511627776) → (decide (r.text = []) || writesM r.kind) = true → Q (B false) h1 := fun b1 b4 => by
              rw [b4, decide_eq_false b1] at k; exact k
            have tw : ¬ r.text = [] → writesM r.kind = false → Q (B false) h1 := fun b1 b4 => by
              rw [b4, decide_eq_false b1] at k; exact k
            clear k
            refine st_if (fun a6 => ?_) (fun a6 => ?_) <;> simp only [za, zb, zc, zd, ze, zf, zg, zh, zi, u8i, zj, zk, zl] at a6
            · (repeat (first | refine st_fa ?_ | refine st_load1 ‹_› (.head _) rfl ?_))
              refine writes_sp ?_
              (repeat refine st_not ?_)
              refine st_if (fun a7 => ?_) (fun a7 => ?_) <;> simp only [za, zb, zc, zd, ze, zf, zg, zh, zi, u8i, zj, zk, zl] at a7
              · exact tw a6 a7
              · have b4 : (decide (r.text = []) || writesM r.kind) = true := by rw [a7, Bool.or_true]
                ((repeat (first | refine st_fa ?_ | refine st_geq ?_ | refine st_load1 ‹_› (.head _) rfl ?_)); (refine st_if (fun b1 => ?_) (fun b1 => ?_) <;> simp only [za, zb, zc, zd, ze, zf, zg, zh, zi, u8i, zj, zk, zl] at b1); ((repeat (first | refine st_fa ?_ | refine st_leq ?_ | refine st_load1 ‹_› (.head _) rfl ?_)); (refine st_if (fun b2 => ?_) (fun b2 => ?_) <;> simp only [za, zb, zc, zd, ze, zf, zg, zh, zi, u8i, zj, zk, zl] at b2); ((repeat (first | refine st_fa ?_ | refine st_eql ?_ | refine st_load1 ‹_› (.head _) rfl ?_)); (refine st_if (fun b3 => ?_) (fun b3 => ?_) <;> simp only [za, zb, zc, zd, ze, zf, zg, zh, zi, u8i, zj, zk, zl] at b3); exact tl b1 b2 b3 b4; ((repeat (first | refine st_fa ?_ | refine st_load1 ‹_› (.head _) rfl ?_)); refine defines_sp ?_; exact td b1 b2 b3 b4)); exact tn (by omega) b4); exact tn (by omega) b4)
            · have b4 : (decide (r.text = []) || writesM r.kind) = true := by rw [decide_eq_true a6, Bool.true_or]
              ((repeat (first | refine st_fa ?_ | refine st_geq ?_ | refine st_load1 ‹_› (.head _) rfl ?_)); (refine st_if (fun b1 => ?_) (fun b1 => ?_) <;> simp only [za, zb, zc, zd, ze, zf, zg, zh, zi, u8i, zj, zk, zl] at b1); ((repeat (first | refine st_fa ?_ | refine st_leq ?_ | refine st_load1 ‹_› (.head _) rfl ?_)); (refine st_if (fun b2 => ?_) (fun b2 => ?_) <;> simp only [za, zb, zc, zd, ze, zf, zg, zh, zi, u8i, zj, zk, zl] at b2); ((repeat (first | refine st_fa ?_ | refine st_eql ?_ | refine st_load1 ‹_› (.head _) rfl ?_)); (refine st_if (fun b3 => ?_) (fun b3 => ?_) <;> simp only [za, zb, zc, zd, ze, zf, zg, zh, zi, u8i, zj, zk, zl] at b3); exact tl b1 b2 b3 b4; ((repeat (first | refine st_fa ?_ | refine st_load1 ‹_› (.head _) rfl ?_)); refine defines_sp ?_; exact td b1 b2 b3 b4)); exact tn (by omega) b4); exact tn (by omega) b4)
end
end
end
section
noncomputable section
structure WkM where
  f : KL Str
  s : KL Int
section
variable [Tabs]
variable {h0 h : AHeap} {M : List Nat} {L R : Own} {K : AV → Prop} {Q : QT}
def WkS (h0 : AHeap) (M : List Nat) (h : AHeap) (i : Nat) (w : WkM) (R : Own) : Prop := ∃ jf js xf xs, MapS T w.f xf ∧ MapS I w.s xs ∧ St h0 M h ((i, true, .cells [.map jf, .map js]) :: (jf, true, xf) :: (js, true, xs) :: R)
theorem St.after (s : St h0 M h L) {h' : AHeap} (f : Fr [] h h') : St h0 M h' L :=
  ⟨s.fr.trans f (by simp), fun e he => f.get (s.at_ e he) (by simp), s.own, s.nd⟩
structure WkOk (w : WkM) : Prop where
  txt : ∀ x ∈ w.f, x.2.length ≤ 600
  fn : w.f.length ≤ 8
  sn : w.s.length ≤ 8
  fw : ∀ x ∈ w.f, isWord x.1 = true
  sw : ∀ x ∈ w.s, isWord x.1 = true
  sv : ∀ x ∈ w.s, -1099511627776 ≤ x.2 ∧ x.2 ≤ 1099511627776
end
end
end
section
noncomputable section
section
variable [Tabs]
variable {h0 h : AHeap} {M : List Nat} {L R : Own} {K : AV → Prop} {Q : QT}
abbrev nmE : Str → List AV := fun x => [T x]
theorem eachKeys {α : Type} {enc : α → AV} {l : KL α} {f g f' : FuncId} {tm ks : TypeId} (hK : KeysIs Pg f g tm) (hS : SortedIs Pg f' g ks) {j : Nat} {b : Bool} {o : AObj} (s : St h0 M h L) (e : (j, b, o) ∈ L) (m : MapS enc l o) (hl : l.length ≤ 1000000) (hk : ∀ x ∈ l, x.1.length ≤ 1000000)
    {K2 : QT} (k : ∀ v E h', AccE 1 v (l.map (·.1)).length ((l.map (·.1)).flatMap nmE) E → St h0 M h' (E ++ L) → K2 v h') : C f [.map j] h fun t9 h1 => C f' [t9] h1 fun t10 h2 => K2 t10 h2 := by
  refine keys_sp hK (s.get e) ?_
  have s1 := s.push (.keys j)
  refine sorted_sp hS (s1.get (.head _)) (s1.get (.tail _ e)) m hl hk (fun h0 => ?_) fun h0 => ?_
  · subst h0
    exact k _ [] _ (.none 1) s1.drop1
  · have s2 := s1.push (.cells (l.map fun x => strAV x.1))
    refine k _ [((h ++ [AObj.keys j]).length, true, .cells (l.map fun x : List UInt8 × α => strAV x.1))] _ (.inr ⟨by simp [flat_len nmE 1 (fun _ => rfl)], _, by rw [List.length_map], ?_⟩) (s2.sub (((List.Sublist.refl _).cons _).cons_cons _))
    have : (l.map fun x => strAV x.1) = (l.map (·.1)).flatMap nmE := by
      rw [List.flatMap_map]
      induction l with
      | nil => rfl
      | cons a l ih => simp only [List.map_cons, List.flatMap_cons, List.singleton_append]; congr 1; exact List.map_eq_flatMap
    rw [this]
theorem AccE.row {α : Type} {enc : α → List AV} {sz : Nat} {v : AV} {l : List α} {E : Own} (a : AccE sz v l.length (l.flatMap enc) E) (s : St h0 M h (E ++ L)) : Row enc sz h v l := a.rd s
end
end
end
section
noncomputable section
structure Ver where
  key : Str
  value : Str
  gone : Bool
  stamp : Int
structure Wr where
  key : Str
  value : Str
  gone : Bool
abbrev wrE (w : Wr) : List AV := [T w.key, T w.value, B w.gone]
abbrev verE (v : Ver) : List AV := [T v.key, T v.value, B v.gone, I v.stamp]
def vrow (l : List Ver) : AV := .snap l.length (l.flatMap verE)
structure StM where
  pins : KM Int Int
  limit : Int
  now : Int
  keys : KL (List Ver)
def newestF : List Ver → Int → Nat → Int
  | _, _, 0 => -1
  | l, at_, i + 1 => if (l[i]?.elim 0 (·.stamp)) > at_ then newestF l at_ i else i
def newestV (l : List Ver) (at_ : Int) : Int := newestF l at_ l.length
def rowK (m : StM) (k : Str) : List Ver := (lookK k m.keys).getD []
def readV (l : List Ver) (at_ : Int) : Option Str :=
  match newestV l at_ with
  | .ofNat i => (match l[i]? with | some v => if v.gone then none else some v.value | none => none)
  | _ => none
def readM (m : StM) (k : Str) (at_ : Int) : Option Str := readV (rowK m k) at_
def changedV (l : List Ver) (since : Int) : Bool := match l.getLast? with | some v => decide (since < v.stamp) | none => false
def changedM (m : StM) (k : Str) (since : Int) : Bool := changedV (rowK m k) since
def countM (m : StM) : Nat := (m.keys.map fun x => x.2.length).sum
section
variable [Tabs]
variable {h0 h : AHeap} {M : List Nat} {L R : Own} {K : AV → Prop} {Q : QT} {i : Nat} {m : StM}
abbrev stoC (jp jk : Nat) (m : StM) : List AV := [.map jp, I m.limit, I m.now, .map jk]
def StoS (h0 : AHeap) (M : List Nat) (h : AHeap) (i : Nat) (m : StM) (R : Own) : Prop := ∃ jp jk xp xk, MapS I m.pins xp ∧ MapS id (kmap vrow m.keys) xk ∧ St h0 M h ((i, true, .cells (stoC jp jk m)) :: (jp, true, xp) :: (jk, true, xk) :: R)
theorem vrow_row (l : List Ver) : Row verE 4 h (vrow l) l := Row.snap (enc := verE) (fun _ => rfl) l
theorem rowK_row {k : Str} : Row verE 4 h (((lookK k (kmap vrow m.keys)).map id).getD (.full 0 [])) (rowK m k) := by
  unfold rowK
  rw [lookK_kmap]
  cases lookK k m.keys with
  | none => exact Row.nil
  | some l => exact vrow_row l
theorem stoNew_sp {limit : Int} (s : St h0 M h R) (k : ∀ i h', StoS h0 M h' i ⟨[], limit, 0, []⟩ R → Q (.ptr i 0) h') : C fn_store_New [I limit] h Q := by
  refine store_New_ok _ _ _ ?_
  unfold store_New
  refine st_makeMap s fun jf h1 s1 => ?_
  refine st_makeMap s1 fun js h2 s2 => ?_
  refine st_build rfl ?_
  refine st_box s2 rfl fun i h3 s3 => ?_
  exact k i h3 ⟨jf, js, _, _, .nil I, .nil id, s3.perm (.cons _ (.swap _ _ _))⟩
theorem stoNow_sp (s : StoS h0 M h i m R) (k : Q (I m.now) h) : C fn_store_Store_Now [.ptr i 0] h Q := by
  obtain ⟨jp, jk, xp, xk, mp, mk, s⟩ := s
  refine store_Store_Now_ok _ _ _ ?_
  unfold store_Store_Now
  (repeat (first | refine st_nil ?_ | refine st_fa ?_ | refine st_load1 ‹_› (.head _) rfl ?_))
  exact k
theorem newestF_le (l : List Ver) (a : Int) : ∀ n, newestF l a n < n ∧ -1 ≤ newestF l a n
  | 0 => by simp [newestF]
  | n + 1 => by
    unfold newestF
    have := newestF_le l a n
    split <;> omega
theorem newest_sp {k : Str} {at_ : Int} (hl : (rowK m k).length < 1000000) (s : StoS h0 M h i m R) (q : Q (I (newestV (rowK m k) at_)) h) : C fn_store_Store_newest [.ptr i 0, T k, I at_] h Q := by
  obtain ⟨jp, jk, xp, xk, mp, mk, s⟩ := s
  refine store_Store_newest_ok _ _ _ _ _ ?_
  unfold store_Store_newest
  (repeat (first | refine st_nil ?_ | refine st_fa ?_ | refine st_load1 ‹_› (.head _) rfl ?_))
  refine st_lookS0 (s.get (.tail _ (.tail _ (.head _)))) mk ?_
  have r := rowK_row (h := h) (m := m) (k := k)
  generalize ((lookK k (kmap vrow m.keys)).map id).getD (.full 0 []) = v at r ⊢
  generalize rowK m k = l at hl r q ⊢
  refine r.len ?_
  refine st_sub (by omega) ?_
  unfold newestV at q
  refine st_loop (fun n vs h' => ∃ p : Nat, vs = [I ((p : Nat) - 1)] ∧ n = p ∧ p ≤ l.length ∧ h' = h ∧ Q (I (newestF l at_ p)) h) l.length ⟨l.length, rfl, rfl, Nat.le_refl _, rfl, q⟩ ?_
  rintro n vs h1 ⟨p, rfl, rfl, hp, rfl, q⟩
  unfold store_Store_newest_l1
  refine st_geq ?_
  refine st_if (fun hc => ?_) (fun hc => ?_) <;> simp only [za, zb, zc, zd, ze, zf, zg, zh, zi, u8i, zj, zk, zl] at hc
  · obtain ⟨p, rfl⟩ : ∃ p', n = p' + 1 := ⟨n - 1, by omega⟩
    have hpl : p < l.length := by omega
    rw [show ((p + 1 : Nat) : Int) - 1 = ((p : Nat) : Int) by omega]
    refine r.idx (fun _ => rfl) hpl fun pp t => ?_
    refine st_pfa t (nle rfl) fun p2 t2 => ?_
    refine st_pload1 t2 (st_gtr ?_)
    unfold newestF at q
    rw [List.getElem?_eq_getElem hpl] at q
    refine st_if (fun hb => ?_) (fun hb => ?_) <;> simp only [za, zb, zc, zd, ze, zf, zg, zh, zi, u8i, zj, zk, zl] at hb
    · rw [if_pos (by exact hb)] at q
      refine st_sub (by omega) ?_
      exact ⟨p, by omega, p, rfl, rfl, by omega, rfl, q⟩
    · rw [if_neg (by show ¬ (l[p].stamp > at_); omega)] at q
      exact q
  · obtain rfl : n = 0 := by omega
    exact q
theorem stoRead_sp {k : Str} {at_ : Int} (hl : (rowK m k).length < 1000000) (s : StoS h0 M h i m R) (q : Q (.tup [T ((readM m k at_).getD []), B (readM m k at_).isSome]) h) : C fn_store_Store_Read [.ptr i 0, T k, I at_] h Q := by
  refine store_Store_Read_ok _ _ _ _ _ ?_
  unfold store_Store_Read
  refine newest_sp hl s ?_
  obtain ⟨jp, jk, xp, xk, mp, mk, s⟩ := s
  have hn := newestF_le (rowK m k) at_ (rowK m k).length
  unfold readM readV newestV at q
  unfold newestV
  have r := rowK_row (h := h) (m := m) (k := k)
  refine st_lss ?_
  refine st_if (fun hb => ?_) (fun hb => ?_) <;> simp only [za, zb, zc, zd, ze, zf, zg, zh, zi, u8i, zj, zk, zl] at hb
  · obtain hm : newestF (rowK m k) at_ (rowK m k).length = -1 := by omega
    rw [hm] at q
    exact q
  · obtain ⟨p, hp⟩ := Int.eq_ofNat_of_zero_le hb
    rw [hp] at hn q ⊢
    have hpl : p < (rowK m k).length := by omega
    have q : Q (.tup [T ((match (rowK m k)[p]? with | some v => if v.gone then none else some v.value | none => none).getD []), B (match (rowK m k)[p]? with | some v => if v.gone then none else some v.value | none => none).isSome]) h := q
    rw [List.getElem?_eq_getElem hpl] at q
    simp only at q
    (repeat (first | refine st_nil ?_ | refine st_fa ?_ | refine st_load1 ‹_› (.head _) rfl ?_))
    refine st_lookS0 (s.get (.tail _ (.tail _ (.head _)))) mk ?_
    refine r.idx (fun _ => rfl) hpl fun pp t => ?_
    refine st_pfa t (nle rfl) fun p2 t2 => ?_
    refine st_pfa t2 (nle rfl) fun p2 t2 => ?_
    refine st_pload1 t2 ?_
    refine st_if (fun hg => ?_) (fun hg => ?_)
    · rw [if_pos hg] at q; exact q
    · rw [if_neg (by rw [hg]; simp)] at q
      (repeat (first | refine st_nil ?_ | refine st_fa ?_ | refine st_load1 ‹_› (.head _) rfl ?_))
      refine st_lookS0 (s.get (.tail _ (.tail _ (.head _)))) mk ?_
      refine r.idx (fun _ => rfl) hpl fun pp t => ?_
      refine st_pfa t (nle rfl) fun p2 t2 => ?_
      refine st_pfa t2 (nle rfl) fun p2 t2 => ?_
      refine st_pload1 t2 ?_
      exact q
theorem stoChanged_sp {k : Str} {at_ : Int} (hl : (rowK m k).length < 1000000) (s : StoS h0 M h i m R) (q : Q (B (changedM m k at_)) h) : C fn_store_Store_Changed [.ptr i 0, T k, I at_] h Q := by
  obtain ⟨jp, jk, xp, xk, mp, mk, s⟩ := s
  refine store_Store_Changed_ok _ _ _ _ _ ?_
  unfold store_Store_Changed
  (repeat (first | refine st_nil ?_ | refine st_fa ?_ | refine st_load1 ‹_› (.head _) rfl ?_))
  refine st_lookS0 (s.get (.tail _ (.tail _ (.head _)))) mk ?_
  have r := rowK_row (h := h) (m := m) (k := k)
  unfold changedM changedV at q
  refine r.len ?_
  refine st_gtr ?_
  refine st_if (fun hb => ?_) (fun hb => ?_) <;> simp only [za, zb, zc, zd, ze, zf, zg, zh, zi, u8i, zj, zk, zl] at hb
  · refine r.len (st_sub (by omega) ?_)
    rw [show (((rowK m k).length : Nat) : Int) - 1 = (((rowK m k).length - 1 : Nat) : Int) by omega]
    refine r.idx (fun _ => rfl) (by omega) fun pp t => ?_
    refine st_pfa t (nle rfl) fun p2 t2 => ?_
    refine st_pload1 t2 (st_gtr ?_)
    rw [List.getLast?_eq_getElem?, List.getElem?_eq_getElem (by omega)] at q
    exact q
  · have : rowK m k = [] := List.length_eq_zero_iff.1 (by omega)
    rw [this] at q
    exact q
end
end
end
section
noncomputable section
def pinM (m : StM) : StM := { m with pins := insK m.now ((lookK m.now m.pins).getD 0 + 1) m.pins }
def unpinM (m : StM) (at_ : Int) : StM :=
  let p := insK at_ ((lookK at_ m.pins).getD 0 - 1) m.pins
  { m with pins := if (lookK at_ m.pins).getD 0 - 1 ≤ 0 then delK at_ p else p }
def leastL (now : Int) (l : List Int) : Int := l.foldl min now
def leastM (m : StM) : Int := leastL m.now (m.pins.map (·.1))
theorem leastL_le : ∀ (l : List Int) (now : Int), leastL now l ≤ now ∧ (∀ k ∈ l, leastL now l ≤ k) ∧ (leastL now l = now ∨ leastL now l ∈ l)
  | [], now => by simp [leastL]
  | a :: l, now => by
    obtain ⟨h1, h2, h3⟩ := leastL_le l (min now a)
    show leastL (min now a) l ≤ now ∧ (∀ k ∈ a :: l, leastL (min now a) l ≤ k) ∧ (leastL (min now a) l = now ∨ leastL (min now a) l ∈ a :: l)
    refine ⟨by omega, fun k hk => ?_, ?_⟩
    · rcases List.mem_cons.1 hk with rfl | hk
      · omega
      · exact h2 k hk
    · rcases h3 with h | h
      · rw [h]
        rcases Int.le_total now a with h | h
        · exact .inl (by omega)
        · exact .inr (by rw [show min now a = a by omega]; simp)
      · exact .inr (List.mem_cons_of_mem _ h)
theorem leastL_perm {a b : List Int} (p : a.Perm b) (now : Int) : leastL now a = leastL now b := by
  obtain ⟨a1, a2, a3⟩ := leastL_le a now
  obtain ⟨b1, b2, b3⟩ := leastL_le b now
  have h1 : leastL now a ≤ leastL now b := by
    rcases b3 with h | h
    · omega
    · exact a2 _ (p.mem_iff.2 h)
  have h2 : leastL now b ≤ leastL now a := by
    rcases a3 with h | h
    · omega
    · exact b2 _ (p.mem_iff.1 h)
  omega
theorem sub_sum {β : Type} (f : β → Nat) : ∀ (a b : List β), a.Nodup → (∀ x ∈ a, x ∈ b) → (a.map f).sum ≤ (b.map f).sum
  | [], b, _, _ => by simp
  | x :: r, b, nd, hs => by
    obtain ⟨s, t, rfl⟩ := List.append_of_mem (hs x (by simp))
    simp only [List.nodup_cons] at nd
    have := sub_sum f r (s ++ t) nd.2 fun y hy => by
      have := hs y (by simp [hy])
      simp only [List.mem_append, List.mem_cons] at this ⊢
      rcases this with h | h | h
      · exact .inl h
      · subst h; exact (nd.1 hy).elim
      · exact .inr h
    simp only [List.map_cons, List.sum_cons, List.map_append, List.sum_append_nat] at this ⊢
    omega
theorem sub_len {β : Type} {a b : List β} (nd : a.Nodup) (hs : ∀ x ∈ a, x ∈ b) : a.length ≤ b.length := by
  have := sub_sum (fun _ => 1) a b nd hs
  have e : ∀ l : List β, (l.map fun _ => 1).sum = l.length := fun l => by induction l with
    | nil => rfl
    | cons x l ih => simp only [List.map_cons, List.sum_cons, List.length_cons, ih]; omega
  rwa [e, e] at this
section
variable [Tabs]
variable {h0 h : AHeap} {M : List Nat} {L R : Own} {K : AV → Prop} {Q : QT} {i : Nat} {m : StM}
theorem least_sp {j : Nat} {o : AObj} {l : KM Int Int} {now : Int} (e : h[j]? = some o) (mp : MapS I l o) (q : ∀ h', Fr [] h h' → Q (I (leastL now (l.map (·.1)))) h') : C fn_store_pins_least [.map j, I now] h Q := by
  obtain ⟨es, n, rfl, r⟩ := mp
  refine store_pins_least_ok _ _ _ _ ?_
  unfold store_pins_least
  refine st_rangeMS (St.startr e) e fun it h1 s1 => ?_
  refine st_loop (fun c vs h' => ∃ done : List (Int × Nat × Int), (∀ x ∈ done, x ∈ es) ∧ (done.map (·.2.1)).Nodup ∧ vs = [I (leastL now (done.map (·.1)))] ∧ St h [] h' ((it, true, iterS j n (done.map (·.2.1))) :: [(j, false, .amap (mE I es) n)]) ∧ c + done.length = es.length) es.length ⟨[], by simp, by simp, rfl, s1, by simp⟩ ?_
  rintro c vs h2 ⟨done, hd, nd, rfl, s2, hc⟩
  unfold store_pins_least_l3
  refine st_nextMS s2 (s2.get (.tail _ (.head _))) r (fun hall => ?_) fun x hx hn h3 s3 => ?_
  · refine st_ext rfl (st_if (fun h => by cases h) (fun _ => ?_))
    have hp := done_perm r hd nd hall
    have : leastL now (done.map (·.1)) = leastL now (l.map (·.1)) := leastL_perm (by
      have h1 := hp.map (·.1)
      have h2 := r.perm.map (·.1)
      rw [List.map_map] at h2
      exact h1.trans h2) now
    show Q (I (leastL now (done.map (·.1)))) h2
    rw [this]
    exact q _ s2.fr
  · refine st_ext rfl (st_if (fun _ => ?_) (fun h => by cases h))
    refine st_entryMS s3 (.head _) (s3.get (.tail _ (.head _))) r hx ?_
    refine st_ext rfl (st_min ?_)
    have hlt : done.length < es.length := by
      have h1 : ((done ++ [x]).map (·.2.1)).Nodup := by
        rw [List.map_append, List.nodup_append]
        exact ⟨nd, by simp, fun a ha b hb e => by simp at hb; subst hb; subst e; exact hn ha⟩
      have := sub_len (a := done ++ [x]) (b := es) (List.Pairwise.of_map _ (fun _ _ h e => h (by rw [e])) h1) fun y hy => by
        rcases List.mem_append.1 hy with h | h
        · exact hd y h
        · simp at h; subst h; exact hx
      simp at this; omega
    refine ⟨c - 1, by omega, done ++ [x], fun y hy => ?_, ?_, ?_, ?_, ?_⟩
    · rcases List.mem_append.1 hy with h | h
      · exact hd y h
      · simp at h; subst h; exact hx
    · rw [List.map_append, List.nodup_append]
      exact ⟨nd, by simp, fun a ha b hb e => by simp at hb; subst hb; subst e; exact hn ha⟩
    · show [I (min (leastL now (done.map (·.1))) x.1)] = _
      rw [List.map_append]; unfold leastL; rw [List.foldl_append]; rfl
    · rw [List.map_append]; exact s3
    · simp; omega
theorem total_sp (s : StoS h0 M h i m R) (hc : countM m < 1000000000) (q : ∀ h', StoS h0 M h' i m R → Q (I (countM m : Nat)) h') : C fn_store_Store_Count [.ptr i 0] h Q := by
  obtain ⟨jp, jk, xp, xk, mp, mk, s⟩ := s
  refine store_Store_Count_ok _ _ _ ?_
  unfold store_Store_Count
  show ACall Pg fn_store_Store_total [.ptr i 0, .fn (.func fn_store_length) [] []] h _
  refine store_Store_total_ok _ _ _ _ ?_
  unfold store_Store_total
  (repeat (first | refine st_nil ?_ | refine st_fa ?_ | refine st_load1 ‹_› (.head _) rfl ?_))
  have mk' := mk
  obtain ⟨es, n, rfl, r⟩ := mk'
  refine st_rangeMS s (s.get (.tail _ (.tail _ (.head _)))) fun it h1 s1 => ?_
  have hlen : ∀ x ∈ es, ∃ l, x.2.2 = vrow l := fun x hx => by
    have := (r.eq (x.1, x.2.2)).1 (List.mem_map.2 ⟨x, hx, rfl⟩)
    obtain ⟨y, hy, e⟩ := List.mem_map.1 this
    exact ⟨y.2, (congrArg Prod.snd e).symm⟩
  let len : AV → Nat := fun v => match v with | .snap n _ => n | _ => 0
  have htot : ∀ done : List (Str × Nat × AV), (∀ x ∈ done, x ∈ es) → (done.map (·.2.1)).Nodup → (∀ x ∈ es, x.2.1 ∈ done.map (·.2.1)) → (done.map fun x => len x.2.2).sum = countM m := fun done hd nd hall => by
    have hp := done_perm r hd nd hall
    have h1 := (hp.map fun x => len x.2.2).sum_nat
    rw [h1]
    have h2 := (r.perm.map fun x => len x.2).sum_nat
    rw [List.map_map] at h2
    have h2 : (es.map fun x => len x.2.2).sum = ((kmap vrow m.keys).map fun x => len x.2).sum := h2
    rw [h2]
    unfold kmap countM
    rw [List.map_map]; rfl
  refine st_loop (fun c vs h' => ∃ done : List (Str × Nat × AV), (∀ x ∈ done, x ∈ es) ∧ (done.map (·.2.1)).Nodup ∧ vs = [I ((done.map fun x => len x.2.2).sum : Nat)] ∧ St h0 M h' ((it, true, iterS jk n (done.map (·.2.1))) :: (i, true, .cells (stoC jp jk m)) :: (jp, true, xp) :: (jk, true, .amap (mE id es) n) :: R) ∧ c + done.length = es.length) es.length ⟨[], by simp, by simp, rfl, s1, by simp⟩ ?_
  rintro c vs h2 ⟨done, hd, nd, rfl, s2, hcl⟩
  unfold store_Store_total_l4
  refine st_nextMS s2 (s2.get (.tail _ (.tail _ (.tail _ (.head _))))) r (fun hall => ?_) fun x hx hn h3 s3 => ?_
  · refine st_ext rfl (st_if (fun h => by cases h) (fun _ => ?_))
    show Q (I ((done.map fun x => len x.2.2).sum : Nat)) h2
    rw [htot done hd nd hall]
    exact q _ ⟨jp, jk, xp, _, mp, mk, s2.drop1⟩
  · refine st_ext rfl (st_if (fun _ => ?_) (fun h => by cases h))
    refine st_entryMS s3 (.head _) (s3.get (.tail _ (.tail _ (.tail _ (.head _))))) r hx ?_
    refine st_ext rfl ?_
    obtain ⟨vl, hv⟩ := hlen x hx
    have hnd : ((done ++ [x]).map (·.2.1)).Nodup := by
      rw [List.map_append, List.nodup_append]
      exact ⟨nd, by simp, fun a ha b hb e => by simp at hb; subst hb; subst e; exact hn ha⟩
    have hsub : ∀ y ∈ done ++ [x], y ∈ es := fun y hy => by
      rcases List.mem_append.1 hy with h | h
      · exact hd y h
      · simp at h; subst h; exact hx
    have hnd2 : (done ++ [x]).Nodup := List.Pairwise.of_map _ (fun _ _ h e => h (by rw [e])) hnd
    have hlt : done.length < es.length := by have := sub_len hnd2 hsub; simp at this; omega
    have hle : (done.map fun x => len x.2.2).sum + vl.length ≤ countM m := by
      have h1 := sub_sum (fun x => len x.2.2) _ _ hnd2 hsub
      have h3 := htot es (fun x h => h) r.nb (fun x hx => List.mem_map_of_mem hx)
      rw [h3, List.map_append, List.sum_append_nat] at h1
      simp [hv, vrow, len] at h1
      simpa [len] using h1
    rw [show id x.2.2 = vrow vl from hv]
    show ACall Pg fn_store_length [vrow vl] h3 _
    refine store_length_ok _ _ _ ?_
    unfold store_length
    refine (vrow_row (h := h3) vl).len ?_
    refine st_add (by omega) ?_
    refine ⟨c - 1, by omega, done ++ [x], hsub, hnd, ?_, by rw [List.map_append]; exact s3, by simp; omega⟩
    rw [List.map_append, List.sum_append_nat]
    simp [hv, vrow, len]
theorem pin_sp (s : StoS h0 M h i m R) (hp : ∀ v, lookK m.now m.pins = some v → v < 1000000000 ∧ -1000000000 < v) (q : ∀ h', StoS h0 M h' i (pinM m) R → Q (I m.now) h') : C fn_store_Store_Pin [.ptr i 0] h Q := by
  obtain ⟨jp, jk, xp, xk, mp, mk, s⟩ := s
  refine store_Store_Pin_ok _ _ _ ?_
  unfold store_Store_Pin
  (repeat (first | refine st_nil ?_ | refine st_fa ?_ | refine st_load1 ‹_› (.head _) rfl ?_))
  refine st_lookI0 (s.get (.tail _ (.head _))) mp ?_
  have he : ((lookK m.now m.pins).map I).getD (I 0) = I ((lookK m.now m.pins).getD 0) := by cases lookK m.now m.pins <;> rfl
  have hb : -1000000000 < (lookK m.now m.pins).getD 0 ∧ (lookK m.now m.pins).getD 0 < 1000000000 := by
    cases hh : lookK m.now m.pins with
    | none => simp
    | some v => have := hp v hh; simp; omega
  rw [he]
  refine st_add (by omega) ?_
  refine st_putI s (.tail _ (.head _)) mp fun o' mp' st => ?_
  have s := st (.tail .head)
  (repeat (first | refine st_nil ?_ | refine st_fa ?_ | refine st_load1 ‹_› (.head _) rfl ?_))
  exact q _ ⟨jp, jk, _, _, mp', mk, s⟩
theorem unpin_sp {at_ : Int} (s : StoS h0 M h i m R) (hp : ∀ v, lookK at_ m.pins = some v → v < 1000000000 ∧ -1000000000 < v) (q : ∀ h', StoS h0 M h' i (unpinM m at_) R → Q (.tup []) h') : C fn_store_Store_Unpin [.ptr i 0, I at_] h Q := by
  obtain ⟨jp, jk, xp, xk, mp, mk, s⟩ := s
  refine store_Store_Unpin_ok _ _ _ _ ?_
  unfold store_Store_Unpin
  (repeat (first | refine st_nil ?_ | refine st_fa ?_ | refine st_load1 ‹_› (.head _) rfl ?_))
  refine st_lookI0 (s.get (.tail _ (.head _))) mp ?_
  have he : ((lookK at_ m.pins).map I).getD (I 0) = I ((lookK at_ m.pins).getD 0) := by cases lookK at_ m.pins <;> rfl
  have hb : -1000000000 < (lookK at_ m.pins).getD 0 ∧ (lookK at_ m.pins).getD 0 < 1000000000 := by
    cases hh : lookK at_ m.pins with
    | none => simp
    | some v => have := hp v hh; simp; omega
  rw [he]
  refine st_sub (by omega) ?_
  unfold unpinM at q
  refine st_putI s (.tail _ (.head _)) mp fun o' mp' st => ?_
  have s := st (.tail .head)
  (repeat (first | refine st_nil ?_ | refine st_fa ?_ | refine st_load1 ‹_› (.head _) rfl ?_))
  refine st_lookI0 (s.get (.tail _ (.head _))) mp' ?_
  rw [lookK_insK mp.so, if_pos rfl]
  refine st_leq ?_
  refine st_if (fun hc => ?_) (fun hc => ?_) <;> simp only [decide_eq_true_eq, decide_eq_false_iff_not] at hc
  · simp only [if_pos hc] at q
    (repeat (first | refine st_nil ?_ | refine st_fa ?_ | refine st_load1 ‹_› (.head _) rfl ?_))
    refine st_delI s (.tail _ (.head _)) mp' fun o2 h2 mp2 st => ?_
    exact q _ ⟨jp, jk, _, _, mp2, mk, st (.tail .head)⟩
  · simp only [if_neg hc] at q
    exact q _ ⟨jp, jk, _, _, mp', mk, s⟩
end
end
end
section
noncomputable section
def lead (at_ : Int) : List Ver → Nat
  | [] => 0
  | v :: l => if v.stamp ≤ at_ then lead at_ l + 1 else 0
def goneN (l : List Ver) (at_ : Int) : Nat := if 0 < lead at_ l ∧ (l[lead at_ l - 1]?.elim true (·.gone)) = false then lead at_ l - 1 else lead at_ l
theorem lead_le (a : Int) : ∀ l : List Ver, lead a l ≤ l.length
  | [] => Nat.le_refl _
  | v :: l => by have := lead_le a l; unfold lead; split <;> simp <;> omega
theorem goneN_le (l : List Ver) (a : Int) : goneN l a ≤ l.length := by have := lead_le a l; unfold goneN; split <;> omega
def dropG (at_ : Int) (l : List Ver) : List Ver := l.drop (goneN l at_)
def cleanK (at_ : Int) (l : KL (List Ver)) : KL (List Ver) := (kmap (dropG at_) l).filter fun x => !x.2.isEmpty
def cleanM (m : StM) : StM := { m with keys := cleanK (leastM m) m.keys }
def wrK (now : Int) (ks : KL (List Ver)) (w : Wr) : KL (List Ver) := insK w.key ((lookK w.key ks).getD [] ++ [⟨w.key, w.value, w.gone, now⟩]) ks
def commitM (m : StM) (ws : List Wr) : StM := { m with now := m.now + 1, keys := ws.foldl (wrK (m.now + 1)) m.keys }
theorem insK_mid {α : Type} {k : Str} {v w : α} : ∀ {A B : KL α}, SoK (A ++ (k, w) :: B) → insK k v (A ++ (k, w) :: B) = A ++ (k, v) :: B
  | [], B, _ => by show (if k = k then _ else _) = _; rw [if_pos rfl]; rfl
  | (a, u) :: A, B, s => by
    obtain ⟨s1, s2⟩ := List.pairwise_cons.1 s
    have h := s1 (k, w) (by simp)
    show (if k = a then _ else if Ky.lt k a then _ else _) = _
    rw [if_neg (fun e => lt_ne h e.symm), if_neg (fun e => Ky.irr _ (Ky.trans (h : Ky.lt a k) e)), show insK k v (A.append ((k, w) :: B)) = A ++ (k, v) :: B from insK_mid s2]; rfl
theorem delK_mid {α : Type} {k : Str} {w : α} {A B : KL α} (s : SoK (A ++ (k, w) :: B)) : delK k (A ++ (k, w) :: B) = A ++ B := by
  have nd := s.nd
  rw [List.map_append, List.map_cons, List.nodup_append] at nd
  obtain ⟨n1, n2, n3⟩ := nd
  simp only [List.nodup_cons] at n2
  unfold delK
  rw [List.filter_append, List.filter_cons, if_neg (by simp)]
  rw [List.filter_eq_self.2 fun x hx => ?_, List.filter_eq_self.2 fun x hx => ?_]
  · simp only [decide_eq_true_eq]; intro e; exact n2.1 (e ▸ List.mem_map_of_mem hx)
  · simp only [decide_eq_true_eq]; intro e; exact n3 _ (List.mem_map_of_mem hx) k (by simp) e
theorem lookK_mid {α : Type} {k : Str} {w : α} {A B : KL α} (s : SoK (A ++ (k, w) :: B)) : lookK k (A ++ (k, w) :: B) = some w := (lookK_mem s.nd).2 (by simp)
section
variable [Tabs]
variable {h0 h : AHeap} {M : List Nat} {L R : Own} {K : AV → Prop} {Q : QT} {i : Nat} {m : StM}
theorem st_cutrV {l : List Ver} {n : Nat} (hn : n ≤ l.length) (k : K (vrow (l.drop n))) : qSliceL 4 (vrow l) (some (I (n : Nat))) none K := ⟨by
  unfold vrow pSliceL
  simp only [optI, asI]
  refine ⟨by omega, ?_⟩
  have e : vrow (l.drop n) = .snap (((l.length : Nat) : Int).toNat - ((n : Nat) : Int).toNat) (((l.flatMap verE).drop (((n : Nat) : Int).toNat * 4)).take ((((l.length : Nat) : Int).toNat - ((n : Nat) : Int).toNat) * 4)) := by
    unfold vrow
    have hd : ∀ (n : Nat) (l : List Ver), n ≤ l.length → (l.flatMap verE).drop (n * 4) = (l.drop n).flatMap verE := by
      intro n
      induction n with
      | zero => intro l _; simp
      | succ n ih =>
        intro l hl
        cases l with
        | nil => simp at hl
        | cons v l => rw [List.flatMap_cons, show (n + 1) * 4 = n * 4 + 4 by omega, ← List.drop_drop]; rw [List.drop_drop, Nat.add_comm, ← List.drop_drop]; exact ih l (by simpa using hl)
    rw [Int.toNat_natCast, Int.toNat_natCast, hd n l hn, List.length_drop]
    congr 1
    rw [List.take_of_length_le]
    rw [flat_len verE 4 (fun _ => rfl), List.length_drop]; omega
  rw [← e]; exact k⟩
theorem gone_sp {l : List Ver} {at_ : Int} (hl : l.length < 1000000000) (q : Q (I (goneN l at_ : Nat)) h) : C fn_store_gone [vrow l, I at_] h Q := by
  refine store_gone_ok _ _ _ _ ?_
  unfold store_gone
  have r := vrow_row (h := h) l
  have hle := lead_le at_ l
  have fin : ∀ p, p = lead at_ l → qBin .gtr (I (p : Nat)) (I 0) fun t22 => ifB t22 (qBin .sub (I (p : Nat)) (I 1) fun t26 => qIndexAddr 4 (vrow l) t26 fun t27 => qFieldAddr 0 t27 fun t28 => qFieldAddr 2 t28 fun t29 => qLoad1 t29 h fun t30 => qUn .not t30 fun t31 => ifB t31 (qBin .sub (I (p : Nat)) (I 1) fun t34 => Q t34 h) (Q (I (p : Nat)) h)) (Q (I (p : Nat)) h) := fun p hp => by
    subst hp
    unfold goneN at q
    refine st_gtr ?_
    refine st_if (fun hb => ?_) (fun hb => ?_) <;> simp only [za, zb, zc, zd, ze, zf, zg, zh, zi, u8i, zj, zk, zl] at hb
    · have hp1 : lead at_ l - 1 < l.length := by omega
      refine st_sub (by omega) ?_
      rw [show ((lead at_ l : Nat) : Int) - 1 = ((lead at_ l - 1 : Nat) : Int) by omega]
      refine r.idx (fun _ => rfl) hp1 fun pp t => ?_
      refine st_pfa t (nle rfl) fun p2 t2 => ?_
      refine st_pfa t2 (nle rfl) fun p2 t2 => ?_
      refine st_pload1 t2 (st_not ?_)
      rw [List.getElem?_eq_getElem hp1] at q
      refine st_if (fun hg => ?_) (fun hg => ?_)
      · rw [if_pos ⟨by omega, by simpa using hg⟩] at q
        refine st_sub (by omega) ?_
        rw [show ((lead at_ l : Nat) : Int) - 1 = ((lead at_ l - 1 : Nat) : Int) by omega]
        exact q
      · rw [if_neg (fun h => by simp at hg; have := h.2; simp at this; rw [hg] at this; cases this)] at q
        exact q
    · rw [if_neg (fun h => by omega)] at q
      exact q
  have hpre : ∀ p, p ≤ lead at_ l → ∀ (hp : p < l.length), (l[p].stamp ≤ at_ ↔ p < lead at_ l) := by
    intro p
    clear fin r q hle hl
    induction l generalizing p with
    | nil => intro _ hp; simp at hp
    | cons v l ih =>
      intro h1 hp
      unfold lead at h1 ⊢
      by_cases hv : v.stamp ≤ at_
      · rw [if_pos hv] at h1 ⊢
        cases p with
        | zero => simp [hv]
        | succ p => simpa using ih p (by omega) (by simpa using hp)
      · rw [if_neg hv] at h1 ⊢
        obtain rfl : p = 0 := by omega
        simp [hv]
  refine st_loop (fun n vs h' => ∃ p : Nat, vs = [I (p : Nat)] ∧ n + p = l.length ∧ p ≤ lead at_ l ∧ h' = h) l.length ⟨0, rfl, rfl, by omega, rfl⟩ ?_
  rintro n vs h1 ⟨p, rfl, hn, hp, rfl⟩
  unfold store_gone_l3
  refine r.len (st_lss ?_)
  refine st_if (fun hb => ?_) (fun hb => ?_) <;> simp only [za, zb, zc, zd, ze, zf, zg, zh, zi, u8i, zj, zk, zl] at hb
  · have hpl : p < l.length := by omega
    refine r.idx (fun _ => rfl) hpl fun pp t => ?_
    refine st_pfa t (nle rfl) fun p2 t2 => ?_
    refine st_pload1 t2 (st_leq ?_)
    refine st_if (fun hc => ?_) (fun hc => ?_) <;> simp only [za, zb, zc, zd, ze, zf, zg, zh, zi, u8i, zj, zk, zl] at hc
    · refine st_add (by omega) ?_
      exact ⟨n - 1, by omega, p + 1, rfl, by omega, by have := (hpre p hp hpl).1 hc; omega, rfl⟩
    · have : p = lead at_ l := by
        rcases Nat.lt_or_ge p (lead at_ l) with h | h
        · have := (hpre p hp hpl).2 h; omega
        · omega
      exact fin p this
  · exact fin p (by omega)
theorem clone_version_sp {n : Nat} {cs : List AV} (hb : n * 48 ≤ 1099511627776) {v : AV} {h : AHeap} (r : Rd h 4 v n cs) {Q : QT} (k : ∀ h', Fr [] h h' → Q (.snap n cs) h') : C fn_slices_Clone__store_version_store_version [v] h Q := by
  refine ACall.conv ?_
  refine slices_Clone__store_version_store_version_ok _ _ _ ?_
  unfold slices_Clone__store_version_store_version
  have hl := r.len
  refine st_isNilS r (fun h0 => ?_) ?_
  · refine st_if (fun _ => ?_) (fun hb => by cases hb)
    subst h0
    have : cs = [] := by simpa using hl
    subst this
    exact conv_full (k _ (Fr.refl _ _))
  · refine st_if (fun hb => by cases hb) (fun _ => ?_)
    refine st_buildS rfl rfl ?_
    refine st_app0 (St.start h) r hb (fun h0 => ?_) fun i h1 hn s => ?_
    · subst h0
      have : cs = [] := by simpa using hl
      subst this
      exact conv_full (k _ (Fr.refl _ _))
    · exact conv_sl (s.get (.head _)) hl (k _ (s.kill .head).fr)
theorem cloneO_version_sp {n : Nat} {cs : List AV} (hb : n * 48 ≤ 1099511627776) {v : AV} (s : St h0 M h L) (r : Rd h 4 v n cs) (k : ∀ v' E h', AccE 4 v' n cs E → St h0 M h' (E ++ L) → Q v' h') : C fn_slices_Clone__store_version_store_version [v] h Q := by
  refine slices_Clone__store_version_store_version_ok _ _ _ ?_
  unfold slices_Clone__store_version_store_version
  have hl := r.len
  refine st_isNilS r (fun h0 => ?_) ?_
  · refine st_if (fun _ => ?_) (fun hb => by cases hb)
    subst h0
    have : cs = [] := by simpa using hl
    subst this
    exact k _ [] _ (.none 4) s
  · refine st_if (fun hb => by cases hb) (fun _ => ?_)
    refine st_buildS rfl rfl ?_
    refine st_app0 s r hb (fun h0 => ?_) fun i h1 hn s => ?_
    · subst h0
      have : cs = [] := by simpa using hl
      subst this
      exact k _ [] _ (.none 4) s
    · exact k _ [(i, true, .cells cs)] _ (.inr ⟨hl, i, rfl, rfl⟩) s
end
end
end
section
noncomputable section
section
variable [Tabs]
variable {h0 h : AHeap} {M : List Nat} {L R : Own} {K : AV → Prop} {Q : QT} {i : Nat} {m : StM}
structure KVOk : Prop where
  k : ∃ tm, KeysIs Pg fn_maps_Keys_map_string_store_version_string__store_version fn_maps_Keys_map_string_store_version_string__store_version_1 tm
  s : ∃ ks, SortedIs Pg fn_slices_Sorted_string fn_maps_Keys_map_string_store_version_string__store_version_1 ks
theorem Sub.appL {L L' : Own} {e e' : Nat × Bool × AObj} (s : Sub L e L' e') : ∀ E : Own, Sub (E ++ L) e (E ++ L') e'
  | [] => s
  | _ :: E => .tail (s.appL E)
structure StoOk (m : StM) : Prop where
  n : m.keys.length ≤ 100000
  k : ∀ x ∈ m.keys, x.1.length ≤ 1000000
  c : countM m < 500000
theorem count_mem {l : KL (List Ver)} {x : Str × List Ver} (h : x ∈ l) : x.2.length ≤ (l.map fun x => x.2.length).sum := by
  obtain ⟨s, t, rfl⟩ := List.append_of_mem h
  simp only [List.map_append, List.map_cons, List.sum_append_nat, List.sum_cons]; omega
theorem rowK_len {k : Str} : (rowK m k).length ≤ countM m := by
  unfold rowK
  cases hl : lookK k m.keys with
  | none => simp
  | some l =>
    have : (k, l) ∈ m.keys := by
      have hg : ∀ {ks : KL (List Ver)}, lookK k ks = some l → (k, l) ∈ ks := by
        intro ks
        induction ks with
        | nil => intro h; cases h
        | cons a r ih =>
          intro h
          have h : (if k = a.1 then some a.2 else lookK k r) = some l := h
          split at h
          · rename_i e; cases h; subst e; simp
          · exact List.mem_cons_of_mem _ (ih h)
      exact hg hl
    exact count_mem this
def cleanQ (at_ : Int) (q : Nat) (l : KL (List Ver)) : KL (List Ver) := cleanK at_ (l.take q) ++ l.drop q
theorem cleanK_so {at_ : Int} {l : KL (List Ver)} (s : SoK l) : SoK (cleanK at_ l) := (kmap_so s).filter _
theorem cleanK_mem {at_ : Int} {l : KL (List Ver)} {x : Str × List Ver} (h : x ∈ cleanK at_ l) : ∃ y ∈ l, y.1 = x.1 := by
  obtain ⟨y, hy, rfl⟩ := List.mem_map.1 (List.mem_filter.1 h).1
  exact ⟨y, hy, rfl⟩
theorem so_app {α : Type} {A B : KL α} : SoK (A ++ B) ↔ SoK A ∧ SoK B ∧ ∀ a ∈ A, ∀ b ∈ B, Ky.lt a.1 b.1 := List.pairwise_append
theorem clean_sp (hks : KVOk) (ok : StoOk m) (s : StoS h0 M h i m R) (q : ∀ n h', StoS h0 M h' i (cleanM m) R → Q (I n) h') : C fn_store_Store_Clean [.ptr i 0] h Q := by
  obtain ⟨jp, jk, xp, xk, mp, mk, s⟩ := s
  refine store_Store_Clean_ok _ _ _ ?_
  unfold store_Store_Clean
  (repeat (first | refine st_nil ?_ | refine st_fa ?_ | refine st_load1 ‹_› (.head _) rfl ?_))
  refine least_sp (s.get (.tail _ (.head _))) mp fun h1 f1 => ?_
  have s := s.after f1
  (repeat (first | refine st_nil ?_ | refine st_fa ?_ | refine st_load1 ‹_› (.head _) rfl ?_))
  obtain ⟨tm, hK⟩ := hks.k
  obtain ⟨ks, hS⟩ := hks.s
  refine eachKeys hK hS s (.tail _ (.tail _ (.head _))) mk (by rw [kmap_len]; have := ok.n; omega) (fun x hx => by
    obtain ⟨y, hy, rfl⟩ := List.mem_map.1 hx; exact ok.k y hy) fun v EK h2 av s => ?_
  have hmap : (kmap vrow m.keys).map (·.1) = m.keys.map (·.1) := by unfold kmap; rw [List.map_map]; rfl
  rw [hmap] at av
  refine (av.row s).len ?_
  rw [List.length_map]
  have hls : leastL m.now (m.pins.map (·.1)) = leastM m := rfl
  rw [hls]
  unfold cleanM at q
  generalize leastM m = at_ at q ⊢
  have so : SoK m.keys := by have := mk.so; unfold SoK kmap at this; rw [List.pairwise_map] at this; exact this
  refine st_loop (fun n vs h' => ∃ (p : Nat) (out : Nat) (xk : AObj), vs = [I (out : Nat), I (p : Nat)] ∧ n + p = m.keys.length ∧ out ≤ ((m.keys.take p).map fun x => x.2.length).sum ∧ MapS id (kmap vrow (cleanQ at_ p m.keys)) xk ∧ St h0 M h' (EK ++ ((i, true, .cells (stoC jp jk m)) :: (jp, true, xp) :: (jk, true, xk) :: R))) m.keys.length ⟨0, 0, xk, rfl, by omega, by simp, by simpa [cleanQ, cleanK, kmap] using mk, s⟩ ?_
  rintro n vs h3 ⟨p, out, xk, rfl, hn, hout, mk, s⟩
  unfold store_Store_Clean_l10
  refine st_lss ?_
  refine st_if (fun hb => ?_) (fun hb => ?_) <;> simp only [za, zb, zc, zd, ze, zf, zg, zh, zi, u8i, zj, zk, zl] at hb
  · have hp : p < m.keys.length := by omega
    have hq0 : cleanQ at_ p m.keys = cleanK at_ (m.keys.take p) ++ m.keys[p] :: m.keys.drop (p + 1) := by unfold cleanQ; rw [List.drop_eq_getElem_cons hp]
    have hq1 : cleanQ at_ (p + 1) m.keys = cleanK at_ (m.keys.take p) ++ (if (dropG at_ m.keys[p].2).isEmpty then [] else [(m.keys[p].1, dropG at_ m.keys[p].2)]) ++ m.keys.drop (p + 1) := by
      unfold cleanQ
      rw [List.take_succ_eq_append_getElem hp]
      unfold cleanK kmap
      rw [List.map_append, List.filter_append]
      congr 2
      simp only [List.map_cons, List.map_nil, List.filter_cons, List.filter_nil]
      cases (dropG at_ m.keys[p].2).isEmpty <;> rfl
    have soq : SoK (cleanQ at_ p m.keys) := by
      have h1 : SoK (m.keys.take p ++ m.keys.drop p) := by rw [List.take_append_drop]; exact so
      rw [so_app] at h1
      unfold cleanQ
      rw [so_app]
      refine ⟨cleanK_so h1.1, h1.2.1, fun a ha b hb => ?_⟩
      obtain ⟨y, hy, e⟩ := cleanK_mem ha
      rw [← e]; exact h1.2.2 y hy b hb
    rw [hq0] at soq mk
    have hkr : ∃ k row, m.keys[p] = (k, row) := ⟨_, _, rfl⟩
    obtain ⟨k, row, hkr⟩ := hkr
    have hx : (m.keys.map (·.1))[p]'(by simpa using hp) = k := by rw [List.getElem_map, hkr]
    have hrow : row.length ≤ countM m := by have := count_mem (l := m.keys) (x := (k, row)) (hkr ▸ List.getElem_mem hp); exact this
    have hcm := ok.c
    have hkn := ok.n
    have hgl := goneN_le row at_
    rw [hkr] at soq mk hq0 hq1
    refine (av.row s).idx (fun _ => rfl) (j := p) (by simpa using hp) fun pp t => ?_
    refine st_pload1 t ?_
    rw [hx]
    have mL : ∀ e ∈ ((i, true, AObj.cells (stoC jp jk m)) :: (jp, true, xp) :: (jk, true, xk) :: R), e ∈ EK ++ ((i, true, AObj.cells (stoC jp jk m)) :: (jp, true, xp) :: (jk, true, xk) :: R) := fun e he => List.mem_append_right _ he
    have hm : kmap vrow (cleanK at_ (m.keys.take p) ++ (k, row) :: m.keys.drop (p + 1)) = kmap vrow (cleanK at_ (m.keys.take p)) ++ (k, vrow row) :: kmap vrow (m.keys.drop (p + 1)) := by unfold kmap; rw [List.map_append]; rfl
    have soq2 := kmap_so (f := vrow) soq
    rw [hm] at mk soq2
    refine st_nil (st_fa (st_load1 s (mL _ (.head _)) rfl ?_))
    refine st_lookS0 (s.get (mL _ (.tail _ (.tail _ (.head _))))) mk ?_
    rw [lookK_mid soq2]
    refine gone_sp (by omega) ?_
    have hsum : ((m.keys.take (p + 1)).map fun x => x.2.length).sum = ((m.keys.take p).map fun x => x.2.length).sum + row.length := by
      rw [List.take_succ_eq_append_getElem hp, List.map_append, List.sum_append_nat, hkr]; simp
    have hsum2 : ((m.keys.take (p + 1)).map fun x => x.2.length).sum ≤ countM m := by
      unfold countM
      conv => rhs; rw [← List.take_append_drop (p + 1) m.keys]
      rw [List.map_append, List.sum_append_nat]; omega
    refine st_add (by omega) ?_
    refine st_nil (st_fa (st_load1 s (mL _ (.head _)) rfl ?_))
    refine st_nil (st_fa (st_load1 s (mL _ (.head _)) rfl ?_))
    refine st_lookS0 (s.get (mL _ (.tail _ (.tail _ (.head _))))) mk ?_
    rw [lookK_mid soq2]
    refine st_cutrV hgl ?_
    refine clone_version_sp (n := (row.drop (goneN row at_)).length) (by rw [List.length_drop]; omega) (vrow_row _) fun h4 f4 => ?_
    have s := s.after f4
    refine ⟨st_load1 s (mL _ (.head _)) rfl rfl, ?_⟩
    have hv : AV.snap (row.drop (goneN row at_)).length ((row.drop (goneN row at_)).flatMap verE) = id (vrow (dropG at_ row)) := rfl
    rw [hv]
    refine st_putS s (mL _ (.tail _ (.tail _ (.head _)))) mk fun o' mk2 st => ?_
    rw [insK_mid soq2] at mk2
    have s := st (L' := EK ++ ((i, true, AObj.cells (stoC jp jk m)) :: (jp, true, xp) :: (jk, true, o') :: R)) (Sub.appL (.tail (.tail .head)) EK)
    have soq3 : SoK (kmap vrow (cleanK at_ (m.keys.take p)) ++ (k, vrow (dropG at_ row)) :: kmap vrow (m.keys.drop (p + 1))) := mk2.so
    have mL : ∀ e ∈ ((i, true, AObj.cells (stoC jp jk m)) :: (jp, true, xp) :: (jk, true, o') :: R), e ∈ EK ++ ((i, true, AObj.cells (stoC jp jk m)) :: (jp, true, xp) :: (jk, true, o') :: R) := fun e he => List.mem_append_right _ he
    refine st_nil (st_fa (st_load1 s (mL _ (.head _)) rfl ?_))
    refine st_lookS0 (s.get (mL _ (.tail _ (.tail _ (.head _))))) mk2 ?_
    rw [show lookK k _ = some (vrow (dropG at_ row)) from lookK_mid soq3]
    refine (vrow_row (h := h4) (dropG at_ row)).len (st_eql ?_)
    have hdl : (dropG at_ row).length = row.length - goneN row at_ := List.length_drop
    refine st_if (fun he => ?_) (fun he => ?_) <;> simp only [za, zb, zc, zd, ze, zf, zg, zh, zi, u8i, zj, zk, zl] at he
    · have hemp : (dropG at_ row).isEmpty = true := by rw [List.isEmpty_iff, ← List.length_eq_zero_iff]; omega
      rw [if_pos hemp] at hq1
      refine st_nil (st_fa (st_load1 s (mL _ (.head _)) rfl ?_))
      refine st_delS s (mL _ (.tail _ (.tail _ (.head _)))) mk2 fun o3 h5 mk3 st => ?_
      rw [delK_mid soq3] at mk3
      have s := st (L' := EK ++ ((i, true, AObj.cells (stoC jp jk m)) :: (jp, true, xp) :: (jk, true, o3) :: R)) (Sub.appL (.tail (.tail .head)) EK)
      unfold store_Store_Clean_b9 store_Store_Clean_j8
      refine st_add (by omega) ?_
      refine ⟨n - 1, by omega, p + 1, out + goneN row at_, o3, rfl, by omega, by rw [hsum]; omega, ?_, s⟩
      rw [hq1]
      unfold kmap at mk3 ⊢
      simpa using mk3
    · have hemp : (dropG at_ row).isEmpty = false := by rw [List.isEmpty_eq_false_iff, ← List.length_pos_iff]; omega
      rw [if_neg (by rw [hemp]; simp)] at hq1
      unfold store_Store_Clean_b9 store_Store_Clean_j8
      refine st_add (by omega) ?_
      refine ⟨n - 1, by omega, p + 1, out + goneN row at_, o', rfl, by omega, by rw [hsum]; omega, ?_, s⟩
      rw [hq1]
      unfold kmap at mk2 ⊢
      simpa using mk2
  · have hpe : p = m.keys.length := by
      have hpl : n + p = m.keys.length := hn
      omega
    subst hpe
    refine q _ _ ⟨jp, jk, xp, xk, mp, ?_, av.rest s⟩
    unfold cleanQ at mk
    rw [List.take_length, List.drop_length, List.append_nil] at mk
    exact mk
end
end
end
section
noncomputable section
section
variable [Tabs]
variable {h0 h : AHeap} {M : List Nat} {L R : Own} {K : AV → Prop} {Q : QT} {i : Nat} {m : StM}
theorem fz_vrow (j : Nat) (cs : List AV) (l : List Ver) : fz j cs (vrow l) = vrow l := by
  unfold vrow
  simp only [fz]
  congr 1
  induction l with
  | nil => rfl
  | cons v l ih => simp only [List.flatMap_cons, verE, List.cons_append, List.nil_append, fzL, fz, ih]
theorem fz_kmap (j : Nat) (cs : List AV) (ks : KL (List Ver)) : kmap (fz j cs) (kmap vrow ks) = kmap vrow ks := by
  rw [kmap_kmap]; exact kmap_congr fun x _ => fz_vrow j cs x.2
theorem fz_ins {j n : Nat} {cs : List AV} {k : Str} {l : List Ver} {ks : KL (List Ver)} (hc : cs = l.flatMap verE) (hn : n = l.length) : kmap (fz j cs) (insK k (.sl j 0 n 4) (kmap vrow ks)) = kmap vrow (insK k l ks) := by
  rw [← insK_kmap, fz_kmap, ← insK_kmap]
  congr 1
  subst hc hn
  simp only [fz]
  rw [if_pos ⟨trivial, by rw [flat_len verE 4 (fun _ => rfl)]; omega⟩, List.drop_zero, List.take_of_length_le (by rw [flat_len verE 4 (fun _ => rfl)]; omega)]
  rfl
abbrev sto3 (i jp jk : Nat) (m : StM) (xp xk : AObj) : Own := [(i, true, .cells (stoC jp jk m)), (jp, true, xp), (jk, true, xk)]
theorem round_sp {m1 : StM} {w : Wr} {jp jk : Nat} {xp xk xk2 : AObj} {ks ks2 : KL AV} {l : List Ver} {L L2 : Own} {next : NT} {p : Nat} {ws : List Wr} (mk : MapS id ks xk) (mk2 : MapS id ks2 xk2) (hl : lookK w.key ks = some (vrow l) ∨ (lookK w.key ks = none ∧ l = []))
    (hll : l.length < 1000000) (hp : ws[p]? = some w) (hwl : ws.length < 1000000) (s : St h0 M h (sto3 i jp jk m1 xp xk ++ L))
    (k : ∀ j cs xk' h', cs = (l ++ [(⟨w.key, w.value, w.gone, m1.now⟩ : Ver)]).flatMap verE → MapS id (insK w.key (.sl j 0 (l.length + 1) 4) ks2) xk' → St h0 M h' ((j, true, .cells cs) :: (sto3 i jp jk m1 xp xk' ++ L2)) → next [I ((p : Nat) + 1)] h')
    (cl : ∀ (v : AV) (q7 : Nat) (o7 : AObj) (h2 : AHeap), St h0 M h2 ((q7, true, o7) :: (sto3 i jp jk m1 xp xk ++ L)) → ∀ (K2 : QT), Rd h2 4 v l.length (l.flatMap verE) → (∀ v' E h3, AccE 4 v' l.length (l.flatMap verE) E → St h0 M h3 (E ++ ((q7, true, o7) :: (sto3 i jp jk m1 xp xk2 ++ L2))) → K2 v' h3) → C fn_slices_Clone__store_version_store_version [v] h2 K2) :
    store_Store_Commit_l8 (I (ws.length : Nat)) (.snap ws.length (ws.flatMap wrE)) (.ptr i 0) Q [I (p : Nat)] h next := by
  have hpl : p < ws.length := (List.getElem?_eq_some_iff.1 hp).1
  have hpw : ws[p] = w := (List.getElem?_eq_some_iff.1 hp).2
  unfold store_Store_Commit_l8
  refine st_lss (st_if (fun _ => ?_) (fun h => by exfalso; simp at h; omega))
  refine (Row.snap (h := h) (enc := wrE) (sz := 3) (fun _ => rfl) ws).idx (fun _ => rfl) hpl fun pp t => ?_
  refine st_ploadAll t rfl ?_
  rw [hpw]
  refine st_new s fun q7 h3 s3 => ?_
  refine st_store s3 .head rfl rfl rfl (nle rfl) fun h4 s4 => ?_
  (repeat (first | refine st_nil ?_ | refine st_fa ?_ | refine st_load1 ‹_› (by first | exact .head _ | exact .tail _ (.head _)) rfl ?_))
  refine st_lookS0 (s4.get (.tail _ (.tail _ (.tail _ (.head _))))) mk ?_
  have rr : Rd h4 4 (((lookK w.key ks).map id).getD (.full 0 [])) l.length (l.flatMap verE) := by
    rcases hl with hl | ⟨hl, rfl⟩
    · rw [hl]; exact vrow_row l
    · rw [hl]; exact ⟨rfl, by simp [aElems]⟩
  generalize ((lookK w.key ks).map id).getD (.full 0 []) = v at rr ⊢
  (repeat (first | refine st_nil ?_ | refine st_fa ?_ | refine st_load1 ‹_› (by first | exact .head _ | exact .tail _ (.head _)) rfl ?_ | refine st_loadA ‹_› (.head _) (nle rfl) ?_ | refine st_build rfl ?_ | refine st_buildS rfl rfl ?_))
  refine cl v q7 _ h4 s4 _ rr fun v' E h5 a s5 => ?_
  refine ⟨st_load1 s5 (List.mem_append_right _ (.tail _ (.head _))) rfl rfl, st_loadA s5 (List.mem_append_right _ (.head _)) (nle rfl) rfl, st_load1 s5 (List.mem_append_right _ (.head _)) rfl rfl, st_load1 s5 (List.mem_append_right _ (.tail _ (.head _))) rfl rfl, ?_⟩
  refine a.app (m := 1) (xs := verE ⟨w.key, w.value, w.gone, m1.now⟩) s5 (Rd.full rfl) rfl (by omega) fun v2 E2 h6 a2 s6 => ?_
  refine ⟨st_load1 s6 (List.mem_append_right _ (.head _)) rfl rfl, st_load1 s6 (List.mem_append_right _ (.tail _ (.head _))) rfl rfl, ?_⟩
  rcases a2 with ⟨h0, _⟩ | ⟨hlen, j, rfl, rfl⟩
  · omega
  · refine st_putS (v := AV.sl j 0 (l.length + 1) 4) (enc := id) s6 (List.mem_append_right _ (.tail _ (.tail _ (.tail _ (.head _))))) mk2 fun o' mk' st => ?_
    have s7 := st (.tail (.tail (.tail (.tail .head))))
    refine st_add (by omega) ?_
    refine k j _ o' _ ?_ mk' (s7.sub (by exact (((List.Sublist.refl _).cons _).cons_cons _)))
    rw [List.flatMap_append]; simp
end
end
end
section
noncomputable section
section
variable [Tabs]
variable {h0 h : AHeap} {M : List Nat} {L R : Own} {K : AV → Prop} {Q : QT} {i : Nat} {m : StM}
theorem lookKv (k : Str) (ks : KL (List Ver)) : lookK k (kmap vrow ks) = some (vrow ((lookK k ks).getD [])) ∨ (lookK k (kmap vrow ks) = none ∧ (lookK k ks).getD [] = []) := by
  rw [lookK_kmap]
  cases lookK k ks with
  | none => exact .inr ⟨rfl, rfl⟩
  | some l => exact .inl rfl
theorem cl_plain {jp jk : Nat} {m1 : StM} {xp xk : AObj} {L : Own} {l : List Ver} (hl : l.length < 1000000) (v : AV) (q7 : Nat) (o7 : AObj) (h2 : AHeap) (s : St h0 M h2 ((q7, true, o7) :: (sto3 i jp jk m1 xp xk ++ L))) (K2 : QT) (r : Rd h2 4 v l.length (l.flatMap verE)) (k : ∀ v' E h3, AccE 4 v' l.length (l.flatMap verE) E → St h0 M h3 (E ++ ((q7, true, o7) :: (sto3 i jp jk m1 xp xk ++ L))) → K2 v' h3) : C fn_slices_Clone__store_version_store_version [v] h2 K2 :=
  cloneO_version_sp (by omega) s r k
theorem fz_acc {sz n j : Nat} {v : AV} {cs ds : List AV} {E : Own} (a : AccE sz v n cs E) (hn : ∀ e ∈ E, e.1 ≠ j) : fz j ds v = v := by
  rcases a with ⟨_, _, rfl, _⟩ | ⟨_, p, rfl, rfl⟩
  · rfl
  · have : p ≠ j := hn (p, true, .cells cs) (by simp)
    simp only [fz, if_neg (fun h : p = j ∧ _ => this h.1)]
theorem cl_frz {jp jk j : Nat} {m1 : StM} {xp xk : AObj} {cs : List AV} {l : List Ver} (hl : l.length < 1000000) (v : AV) (q7 : Nat) (o7 : AObj) (h2 : AHeap) (s : St h0 M h2 ((q7, true, o7) :: (sto3 i jp jk m1 xp xk ++ ((j, true, .cells cs) :: R)))) (K2 : QT) (r : Rd h2 4 v l.length (l.flatMap verE)) (k : ∀ v' E h3, AccE 4 v' l.length (l.flatMap verE) E → St h0 M h3 (E ++ ((q7, true, o7) :: (sto3 i jp jk m1 xp (fzO j cs xk) ++ R))) → K2 v' h3) : C fn_slices_Clone__store_version_store_version [v] h2 K2 := by
  refine ACall.convI ?_
  refine cloneO_version_sp (by omega) s r fun v' E h3 a s3 => ?_
  have hEj : ∀ e ∈ E, e.1 ≠ j := fun e he hj => by
    have nd := s3.nd
    rw [List.map_append, List.nodup_append] at nd
    exact nd.2.2 e.1 (List.mem_map_of_mem he) j (by simp) hj
  have p : (E ++ ((q7, true, o7) :: (sto3 i jp jk m1 xp xk ++ ((j, true, .cells cs) :: R)))).Perm ((j, true, .cells cs) :: (E ++ ((q7, true, o7) :: (sto3 i jp jk m1 xp xk ++ R)))) := by
    have e1 : E ++ ((q7, true, o7) :: (sto3 i jp jk m1 xp xk ++ ((j, true, AObj.cells cs) :: R))) = (E ++ ((q7, true, o7) :: sto3 i jp jk m1 xp xk)) ++ (j, true, .cells cs) :: R := by simp
    have e2 : E ++ ((q7, true, o7) :: (sto3 i jp jk m1 xp xk ++ R)) = (E ++ ((q7, true, o7) :: sto3 i jp jk m1 xp xk)) ++ R := by simp
    rw [e1, e2]; exact List.perm_middle
  have s4 := s3.perm p
  have u : Sub (E ++ ((q7, true, o7) :: (sto3 i jp jk m1 xp xk ++ R))) (jk, true, xk) (E ++ ((q7, true, o7) :: (sto3 i jp jk m1 xp (fzO j cs xk) ++ R))) (jk, true, fzO j cs xk) := Sub.appL (.tail (.tail (.tail .head))) E
  obtain ⟨hne, s5⟩ := s4.frzIn .head u
  refine ⟨_, _, .frzIn j cs (s4.get (.head _)) jk xk (s4.get (.tail _ (u.mem))) hne (.refl _ _), ?_⟩
  rw [fz_acc a hEj]
  exact k v' E _ a s5
theorem commit_no_sp {ws : List Wr} (ok : StoOk m) (hw : ws.length < 1000000) (s : StoS h0 M h i m R) (hf : m.limit < countM m + ws.length) (q : ∀ h', StoS h0 M h' i m R → Q (.tup [I 0, I 13]) h') : C fn_store_Store_Commit [.ptr i 0, .snap ws.length (ws.flatMap wrE)] h Q := by
  refine store_Store_Commit_ok _ _ _ _ ?_
  unfold store_Store_Commit
  refine st_lenL1 ?_
  have s' := s
  obtain ⟨jp, jk, xp, xk, mp, mk, s0⟩ := s'
  have hc := ok.c
  refine st_nil (st_fa (st_load1 s0 (.head _) rfl ?_))
  refine total_sp s (by omega) fun h1 s1 => ?_
  have s1' := s1
  obtain ⟨jp, jk, xp, xk, mp, mk, s2⟩ := s1'
  refine ⟨st_load1 s2 (.head _) rfl rfl, ?_⟩
  refine st_add (by omega) (st_gtr ?_)
  refine st_if (fun _ => ?_) (fun h => by exfalso; simp at h; omega)
  exact q _ s1
theorem end_sp {ws : List Wr} {jp jk j : Nat} {m1 : StM} {xp xk : AObj} {cs : List AV} {ks : KL (List Ver)} {next : NT} {p : Int} (hp : p = (ws.length : Nat)) (s : St h0 M h ((j, true, .cells cs) :: (sto3 i jp jk m1 xp xk ++ R))) (mp : MapS I m1.pins xp) (mk : MapS id (kmap (fz j cs) ks') xk') (hk : fzO j cs xk = xk') (he : kmap (fz j cs) ks' = kmap vrow ks)
    (q : ∀ h', StoS h0 M h' i { m1 with keys := ks } R → Q (.tup [I m1.now, I 0]) h') : store_Store_Commit_l8 (I (ws.length : Nat)) (.snap ws.length (ws.flatMap wrE)) (.ptr i 0) (fun r h' => ∃ r2 h2, ConvI r h' r2 h2 ∧ Q r2 h2) [I p] h next := by
  subst hp
  unfold store_Store_Commit_l8
  refine st_lss (st_if (fun h => by exfalso; simp at h) (fun _ => ?_))
  (repeat (first | refine st_nil ?_ | refine st_fa ?_ | refine st_load1 ‹_› (by first | exact .head _ | exact .tail _ (.head _)) rfl ?_))
  have u : Sub (sto3 i jp jk m1 xp xk ++ R) (jk, true, xk) (sto3 i jp jk m1 xp (fzO j cs xk) ++ R) (jk, true, fzO j cs xk) := .tail (.tail .head)
  obtain ⟨hne, s5⟩ := s.frzIn .head u
  refine ⟨_, _, .frzIn j cs (s.get (.head _)) jk xk (s.get (.tail _ (u.mem))) hne (.refl _ _), ?_⟩
  simp only [fz, fzL]
  rw [he] at mk
  rw [hk] at s5 ⊢
  exact q _ ⟨jp, jk, xp, xk', mp, mk, s5⟩
theorem commit_sp {a : Wr} {bs : List Wr} (hbs : bs = [] ∨ ∃ b, bs = [b] ∧ b.key ≠ a.key) (ok : StoOk m) (hn : 0 ≤ m.now ∧ m.now < 1000000000) (s : StoS h0 M h i m R) (hf : (countM m : Int) + (a :: bs).length ≤ m.limit) (q : ∀ h', StoS h0 M h' i (commitM m (a :: bs)) R → Q (.tup [I (m.now + 1), I 0]) h') : C fn_store_Store_Commit [.ptr i 0, .snap (a :: bs).length ((a :: bs).flatMap wrE)] h Q := by
  refine ACall.convI ?_
  have hwl : (a :: bs).length ≤ 2 := by rcases hbs with rfl | ⟨b, rfl, _⟩ <;> simp
  generalize hws : a :: bs = ws at hwl hf q ⊢
  refine store_Store_Commit_ok _ _ _ _ ?_
  unfold store_Store_Commit
  refine st_lenL1 ?_
  have s' := s
  obtain ⟨jp, jk, xp, xk, mp, mk, s0⟩ := s'
  have hc := ok.c
  refine st_nil (st_fa (st_load1 s0 (.head _) rfl ?_))
  refine total_sp s (by omega) fun h1 s1 => ?_
  obtain ⟨jp, jk, xp, xk, mp, mk, s2⟩ := s1
  refine ⟨st_load1 s2 (.head _) rfl rfl, ?_⟩
  refine st_add (by omega) (st_gtr ?_)
  refine st_if (fun h => by exfalso; simp at h; omega) (fun _ => ?_)
  (repeat (first | refine st_nil ?_ | refine st_fa ?_ | refine st_add (by omega) ?_ | refine st_load1 ‹_› (.head _) rfl ?_))
  refine st_store s2 (.head) rfl rfl rfl (nle rfl) fun h3 s3 => ?_
  refine st_lenL1 ?_
  let m1 : StM := { m with now := m.now + 1 }
  have hso : SoK m.keys := by have := mk.so; unfold SoK kmap at this; rw [List.pairwise_map] at this; exact this
  have hrl : ∀ k, ((lookK k m.keys).getD []).length ≤ countM m := fun k => rowK_len (m := m) (k := k)
  have ha := hrl a.key
  have s3 : St h0 M h3 (sto3 i jp jk m1 xp xk ++ R) := s3
  have ea : ∀ j, kmap (fz j (((lookK a.key m.keys).getD [] ++ [(⟨a.key, a.value, a.gone, m1.now⟩ : Ver)]).flatMap verE)) (insK a.key (.sl j 0 (((lookK a.key m.keys).getD []).length + 1) 4) (kmap vrow m.keys)) = kmap vrow (wrK m1.now m.keys a) := fun j => fz_ins rfl (by simp)
  refine st_loopX 100 (lx_go ?_)
  have hp0 : ws[0]? = some a := by rw [← hws]; rfl
  refine round_sp (m1 := m1) (w := a) (p := 0) (L := R) (L2 := R) mk mk (lookKv a.key m.keys) (by omega) hp0 (by omega) s3 (fun j cs xk1 h4 hcs mk1 s4 => ?_) (cl_plain (by omega))
  refine lx_next (lx_go ?_)
  subst hcs
  rcases hbs with rfl | ⟨b, rfl, hab⟩
  · refine end_sp (m1 := m1) (ks := wrK m1.now m.keys a) (by rw [← hws]; rfl) s4 mp (mk1.fz j _) rfl (ea j) fun h5 s5 => ?_
    refine q h5 ?_
    rw [← hws]; exact s5
  · have hp1 : ws[1]? = some b := by rw [← hws]; rfl
    have hb := hrl b.key
    have hlb : (lookK b.key (wrK m1.now m.keys a)).getD [] = (lookK b.key m.keys).getD [] := by
      unfold wrK; rw [lookK_insK hso, if_neg hab]
    have hkv : lookK b.key (insK a.key (.sl j 0 (((lookK a.key m.keys).getD []).length + 1) 4) (kmap vrow m.keys)) = some (vrow ((lookK b.key m.keys).getD [])) ∨ (lookK b.key (insK a.key (.sl j 0 (((lookK a.key m.keys).getD []).length + 1) 4) (kmap vrow m.keys)) = none ∧ (lookK b.key m.keys).getD [] = []) := by
      rw [lookK_insK (kmap_so hso), if_neg hab]; exact lookKv b.key m.keys
    have mkf := mk1.fz j (((lookK a.key m.keys).getD [] ++ [(⟨a.key, a.value, a.gone, m1.now⟩ : Ver)]).flatMap verE)
    rw [ea j] at mkf
    have s4 := s4.perm (L' := sto3 i jp jk m1 xp xk1 ++ (j, true, AObj.cells (((lookK a.key m.keys).getD [] ++ [(⟨a.key, a.value, a.gone, m1.now⟩ : Ver)]).flatMap verE)) :: R) List.perm_middle.symm
    refine round_sp (m1 := m1) (w := b) (p := 1) (L2 := R) mk1 mkf hkv (by omega) hp1 (by omega) s4 (fun j2 cs2 xk2 h5 hcs2 mk2 s5 => ?_) (cl_frz (by omega))
    refine lx_next (lx_go ?_)
    have eb : kmap (fz j2 cs2) (insK b.key (.sl j2 0 (((lookK b.key m.keys).getD []).length + 1) 4) (kmap vrow (wrK m1.now m.keys a))) = kmap vrow (wrK m1.now (wrK m1.now m.keys a) b) := by
      subst hcs2
      have := fz_ins (j := j2) (k := b.key) (ks := wrK m1.now m.keys a) (l := (lookK b.key m.keys).getD [] ++ [(⟨b.key, b.value, b.gone, m1.now⟩ : Ver)]) rfl (show ((lookK b.key m.keys).getD []).length + 1 = _ by simp)
      rw [this]
      unfold wrK at hlb ⊢
      rw [hlb]
    refine end_sp (m1 := m1) (ks := wrK m1.now (wrK m1.now m.keys a) b) (by rw [← hws]; rfl) s5 mp (mk2.fz j2 _) rfl eb fun h6 s6 => ?_
    refine q h6 ?_
    rw [← hws]; exact s6
end
end
end
section
noncomputable section
def joinM (l : List Str) : Str := l.flatMap fun x => x ++ [10]
def partsM (s : Str) : List Str := (splitB 10 s).dropLast
theorem joinM_snoc (l : List Str) (x : Str) : joinM (l ++ [x]) = joinM l ++ (x ++ [10]) := by unfold joinM; rw [List.flatMap_append]; simp
def sumL (l : List Str) : Nat := (l.map fun x => x.length + 1).sum
theorem joinM_len (l : List Str) : (joinM l).length = sumL l := by
  unfold joinM sumL
  induction l with
  | nil => rfl
  | cons x l ih => simp only [List.flatMap_cons, List.length_append, List.map_cons, List.sum_cons, ih, List.length_singleton]
theorem sumL_take (l : List Str) (q : Nat) : sumL (l.take q) ≤ sumL l := by
  conv => rhs; rw [← List.take_append_drop q l]
  unfold sumL; rw [List.map_append, List.sum_append_nat]; omega
section
variable [Tabs]
variable {h0 h : AHeap} {M : List Nat} {L R : Own} {K : AV → Prop} {Q : QT}
theorem wjoin_sp {l : List Str} {v : AV} (hl : l.length < 1000000000) (hs : sumL l < 1000000000) (r : Row nmE 1 h v l) (q : Q (T (joinM l)) h) : C fn_txn_Join [v] h Q := by
  refine txn_Join_ok _ _ _ ?_
  unfold txn_Join
  refine r.len ?_
  refine st_loop (fun n vs h' => ∃ p : Nat, vs = [T (joinM (l.take p)), I (p : Nat)] ∧ n + p = l.length ∧ h' = h) l.length ⟨0, rfl, rfl, rfl⟩ ?_
  rintro n vs h1 ⟨p, rfl, hn, rfl⟩
  unfold txn_Join_l1
  refine st_lss ?_
  refine st_if (fun hb => ?_) (fun hb => ?_) <;> simp only [za, zb, zc, zd, ze, zf, zg, zh, zi, u8i, zj, zk, zl] at hb
  · have hp : p < l.length := by omega
    have h2 := sumL_take l (p + 1)
    rw [List.take_succ_eq_append_getElem hp] at h2
    have h3 : sumL (l.take p ++ [l[p]]) = sumL (l.take p) + (l[p].length + 1) := by unfold sumL; rw [List.map_append, List.sum_append_nat]; simp
    have h4 := joinM_len (l.take p)
    refine r.idx (fun _ => rfl) hp fun pp t => ?_
    refine st_pload1 t (st_cat (by simp; omega) (st_cat (by simp; omega) (st_add (by omega) ?_)))
    exact ⟨n - 1, by omega, p + 1, by rw [List.take_succ_eq_append_getElem hp, joinM_snoc]; rfl, by omega, rfl⟩
  · rw [List.take_of_length_le (by omega)]; exact q
theorem take_flat {α : Type} (enc : α → AV) (l : List α) (n : Nat) : (l.flatMap fun x => [enc x]).take n = (l.take n).flatMap fun x => [enc x] := by
  induction l generalizing n with
  | nil => simp
  | cons a l ih => cases n with
    | zero => rfl
    | succ n => simp [ih n]
theorem wparts_sp (hI : IndexOk) {s : Str} (hs : s.length < 1000000000) (q : ∀ h', Fr [] h h' → Q (.snap (partsM s).length ((partsM s).flatMap nmE)) h') : C fn_txn_Parts [T s] h Q := by
  refine txn_Parts_ok _ _ _ ?_
  unfold txn_Parts
  refine split_sp hI 10 s (by omega) fun h1 f1 => ?_
  have hc : s.count 10 ≤ s.length := List.count_le_length
  have hl := splitB_len 10 s
  refine st_lenL1 (st_sub (by omega) ?_)
  have e : ((splitB 10 s).length : Int) - 1 = ((partsM s).length : Nat) := by unfold partsM; rw [List.length_dropLast]; omega
  rw [e]
  have ht : partsM s = (splitB 10 s).take (partsM s).length := by unfold partsM; rw [List.length_dropLast, List.dropLast_eq_take]
  refine ⟨?_⟩
  simp only [pSliceL, optI, asI]
  have hpl : (partsM s).length = (splitB 10 s).length - 1 := by unfold partsM; rw [List.length_dropLast]
  refine ⟨by omega, ?_⟩
  simp only [Int.toNat_natCast, Int.toNat_zero, Nat.zero_mul, List.drop_zero, Nat.sub_zero, Nat.mul_one]
  rw [take_flat (fun x => T x) (splitB 10 s), ← ht]
  exact clone_string_sp (by omega) (Rd.snap (flat_len nmE 1 (fun _ => rfl) _)) fun h2 f2 => q h2 (f1.trans f2 (by simp))
end
end
end
section
noncomputable section
structure WkSo (w : WkM) : Prop where
  f : SoK w.f
  s : SoK w.s
theorem WkSo.nil : WkSo ⟨[], []⟩ := ⟨List.Pairwise.nil, List.Pairwise.nil⟩
theorem WkOk.nil : WkOk ⟨[], []⟩ := ⟨by simp, by simp, by simp, by simp, by simp, by simp⟩
section
variable [Tabs]
variable {h0 h : AHeap} {M : List Nat} {L R R' : Own} {K : AV → Prop} {KH : QT} {KS' : AHeap → Prop} {Q : QT} {i : Nat} {w : WkM}
theorem WkS.so (s : WkS h0 M h i w R) : WkSo w := by
  obtain ⟨jf, js, xf, xs, ⟨_, _, _, mf⟩, ⟨_, _, _, ms⟩, s⟩ := s
  exact ⟨mf.so, ms.so⟩
theorem WkS.rest (s : WkS h0 M h i w R) : St h0 M h R := by
  obtain ⟨jf, js, xf, xs, mf, ms, s⟩ := s
  exact s.drop1.drop1.drop1
theorem perm3 {a b c d : Nat × Bool × AObj} {R : Own} : (d :: a :: b :: c :: R).Perm (a :: b :: c :: d :: R) :=
  (List.Perm.swap _ _ _).trans (((List.Perm.swap _ _ _).trans ((List.Perm.swap _ _ _).cons _)).cons _)
theorem WkS.after (s : WkS h0 M h i w R) {h' : AHeap} (f : Fr [] h h') : WkS h0 M h' i w R := by
  obtain ⟨jf, js, xf, xs, mf, ms, s⟩ := s
  exact ⟨jf, js, xf, xs, mf, ms, s.after f⟩
theorem st_ptrNo {p o : Nat} (k : K (B false)) : qBinP .eql (.ptr p o) (.lit (.pointer none)) K := ⟨k⟩
theorem mod_cases {a n : Int} (ha : -9223372036854775808 ≤ a ∧ a ≤ 9223372036854775807) (hn : 0 < n) : (a.tmod n = a % n ∧ 0 ≤ a.tmod n) ∨ (a.tmod n = a % n - n ∧ a.tmod n < 0) := by
  have h0 := Int.emod_nonneg a (show n ≠ 0 by omega)
  have h4 := Int.emod_lt_of_pos a hn
  rw [Int.tmod_eq_emod]
  have hab : (n.natAbs : Int) = n := by omega
  split
  · exact .inl ⟨by omega, by omega⟩
  · right; rw [hab]; exact ⟨rfl, by omega⟩
end
end
end
section
noncomputable section
section
variable [Tabs]
variable {h0 h : AHeap} {M : List Nat} {L R : Own} {K : AV → Prop} {Q : QT}
def Known10 : Prop := ∀ (h : AHeap) (Q : QT), Q (B true) h → C fn_law10_known [] h Q
abbrev intE : Int → List AV := fun x => [I x]
end
end
end
section
noncomputable section
theorem known_run [Tabs] : runG Pg tb5 sp10 100 fn_law10_known [] .leaf 0 (fun r t _ => chkR (B true) r t) = true := by kernel_rfl
theorem known10 [Tabs5] : Known10 := fun h Q q => closed_call Tabs5.tb sp10_ok (d := 100) (B true) rfl rfl known_run q
end
end
section
noncomputable section
open Go.RowKit
variable [Tabs5]
theorem indexOk : IndexOk := fun s sub h Q hs q => by
  have hI := indexIs
  refine ⟨hI.1, fun G w vs si r => ?_⟩
  obtain ⟨x, y, hx, ha, hb⟩ := r.two
  simp only [Rep] at ha hb
  obtain ⟨rfl, _⟩ := ha
  obtain ⟨rfl, _⟩ := hb
  obtain ⟨m, hm⟩ := Tabs5.m0 _ si.tab
  subst hx
  refine (hI.2 ⟨⟨s⟩⟩ ⟨⟨sub⟩⟩ m w hs (si.frz _ _ _ hm)).mono fun e w' ⟨he, hw⟩ => ?_
  subst hw
  exact ⟨I (Lib.index s sub), _, h, G, he, by simp [Rep, Value.oneCell'], q, si, Evo.refl _ _ _⟩
end
end
end Go.Proofs.YtamfimhaimaeiaaGreatDoor.AL
