import Derived.Test.YtochldeokjifkaaGreatDoorAI3
import Derived.Laws.RangeString
import Derived.Laws.RangeAny
import Derived.Test.YtochldeokjifkaaGreatDoorMP1toAI2
import Derived.Test.YtochldeokjifkaaGreatDoorF9
import Derived.Test.YtochldeokjifkaaGreatDoorSPK
import Derived.Test.YtochldeokjifkaaGreatDoorAL32toAL34
set_option linter.all false
set_option autoImplicit true
set_option relaxedAutoImplicit true
set_option maxRecDepth 100000
namespace Go.Proofs.YtochldeokjifkaaGreatDoor.AL
section
noncomputable section
variable [Tabs]
end
end
section
noncomputable section
variable [Tabs]
theorem takeWhile_self {p : UInt8 → Bool} : ∀ {l : Str}, l.takeWhile p = l ↔ ∀ x ∈ l, p x = true
  | [] => by simp
  | a :: l => by
    cases h : p a with
    | true => rw [List.takeWhile_cons_of_pos h]; simp [h, takeWhile_self (l := l)]
    | false => rw [List.takeWhile_cons_of_neg (by simp [h])]; simp [h]
theorem takeWhile_all {p : UInt8 → Bool} {l : Str} (h : ∀ j (hj : j < l.length), p l[j] = true) : l.takeWhile p = l := by
  rw [takeWhile_self]
  intro x hx
  obtain ⟨j, hj, rfl⟩ := List.getElem_of_mem hx
  exact h j hj
theorem takeWhile_cut {p : UInt8 → Bool} {l : Str} {k : Nat} (hk : k < l.length) (h : ∀ j (hj : j < k), p (l[j]'(by omega)) = true) (hn : p l[k] = false) : l.takeWhile p = l.take k := by
  conv => lhs; rw [← List.take_append_drop k l]
  rw [List.takeWhile_append_of_pos, List.drop_eq_getElem_cons hk, List.takeWhile_cons_of_neg (by simp [hn]), List.append_nil]
  intro x hx
  obtain ⟨j, hj, rfl⟩ := List.getElem_of_mem hx
  rw [List.length_take] at hj
  rw [List.getElem_take]
  exact h j (by omega)
def pSmall (c : Nat) : Bool := (decide (97 ≤ c) && decide (c ≤ 122)) || decide (c = 95)
def pDigit (c : Nat) : Bool := decide (48 ≤ c) && decide (c ≤ 57)
def pInner (c : Nat) : Bool := pSmall c || pDigit c
theorem dcast {a b : Nat} : decide ((a : Int) ≤ (b : Int)) = decide (a ≤ b) := by rw [Bool.eq_iff_iff, decide_eq_true_eq, decide_eq_true_eq]; omega
theorem deqc {a b : Nat} : decide ((a : Int) = (b : Int)) = decide (a = b) := by rw [Bool.eq_iff_iff, decide_eq_true_eq, decide_eq_true_eq]; omega
def isWord (s : Str) : Bool := match s with
  | [] => false
  | c :: t => decide (s.length ≤ 12) && (!pDigit c.toNat && (s.all (fun c => pInner c.toNat) && (decide (c ≠ 114) || (t.isEmpty || !(t.all fun c => pDigit c.toNat)))))
end
end
section
noncomputable section
variable [Tabs]
inductive Ex where
  | none
  | num (n : Nat)
  | name (s : Str)
  | here
  | neg (e : Ex)
  | bin (k : Nat) (a b : Ex)
  deriving DecidableEq
def encE : Ex → List AV
  | .none => [I 0, I 0, T [], .full 0 []]
  | .num n => [I 1, I (n : Nat), T [], .full 0 []]
  | .name s => [I 2, I 0, T s, .full 0 []]
  | .here => [I 3, I 0, T [], .full 0 []]
  | .neg e => [I 4, I 0, T [], .full 1 (encE e)]
  | .bin k a b => [I (k : Nat), I 0, T [], .full 2 (encE a ++ encE b)]
abbrev pO (l : Str) (d : Nat) (b : Bool) : AObj := .cells [T l, I (d : Nat), B b]
abbrev blk (l : Str) : Str := dropB 32 l
section
variable {i d : Nat} {l : Str} {h : AHeap} {Q : QT}
end
structure PRes (i D : Nat) (m : Option (Ex × Str)) (h : AHeap) (Q : QT) : Prop where
  good : ∀ x l' h', m = some (x, l') → Fr [i] h h' → h'[i]? = some (pO l' D false) → Q (.agg (encE x)) h'
  bad : ∀ cs l' h', m = none → Fr [i] h h' → h'[i]? = some (pO l' D true) → cs.length = 4 → cs.all AV.one = true → Q (.agg cs) h'
theorem PRes.fr {i D : Nat} {m : Option (Ex × Str)} {h h1 : AHeap} {Q : QT} (r : PRes i D m h Q) (f : Fr [i] h h1) : PRes i D m h1 Q :=
  ⟨fun x l' h' e f' => r.good x l' h' e (f.trans f' (by simp)), fun cs l' h' e f' => r.bad cs l' h' e (f.trans f' (by simp))⟩
end
end
section
noncomputable section
variable [Tabs]
section
variable {i D : Nat} {l : Str} {h : AHeap} {Q : QT}
end
end
end
section
noncomputable section
variable [Tabs]
section
variable {i D : Nat} {l : Str} {h : AHeap} {Q : QT}
end
end
end
section
noncomputable section
variable [Tabs]
section
variable {h : AHeap} {Q : QT}
end
end
end
section
noncomputable section
variable [Tabs]
end
end
section
noncomputable section
variable [Tabs]
def TestsB (fv : AV) (p : UInt8 → Bool) : Prop := ∀ (c : UInt8) (h : AHeap) (Q : QT), Q (B (p c)) h → CV fv [U8 c] h Q
section
variable {h : AHeap} {Q : QT}
def frontN (p : UInt8 → Bool) (l : Str) : Nat := (l.takeWhile p).length
theorem frontN_eq {p : UInt8 → Bool} {l : Str} : frontN p l = l.length ↔ l.all p = true := by
  unfold frontN
  constructor
  · intro h
    have : l.takeWhile p = l := (List.takeWhile_sublist p).eq_of_length h
    rw [List.all_eq_true]
    exact takeWhile_self.1 this
  · intro h
    rw [List.all_eq_true] at h
    rw [takeWhile_self.2 h]
theorem front_sp {fv : AV} {p : UInt8 → Bool} (ht : TestsB fv p) (l : Str) (hl : l.length < 4611686018427387904) (k : Q (I (frontN p l : Nat)) h) : C fn_line_front [T l, fv] h Q := by
  refine line_front_ok _ _ _ _ ?_
  unfold line_front
  refine st_loop (fun n vs h' => h' = h ∧ ∃ i : Nat, vs = [I (i : Nat)] ∧ n + i = l.length ∧ ∀ j (hj : j < l.length), j < i → p l[j] = true) l.length ⟨rfl, 0, rfl, by omega, fun j _ hj => by omega⟩ ?_
  rintro n vs h' ⟨rfl, i, rfl, hn, ha⟩
  unfold line_front_l2
  (repeat (first | refine st_lenS ?_ | refine st_lss ?_))
  refine st_if (fun hb => ?_) (fun hb => ?_) <;> simp only [za, zb, zc, zd, ze, zf, zg, zh, zi, u8i, zj, zk, zl] at hb
  · have hi : i < l.length := hb
    refine st_indexN hi ?_
    refine ht l[i] _ _ ?_
    cases hp : p l[i] with
    | true =>
      refine st_if (fun _ => ?_) (fun h => by cases h)
      (repeat refine st_add (by omega) ?_)
      refine ⟨n - 1, by omega, rfl, i + 1, rfl, by omega, fun j hj hj2 => ?_⟩
      rcases Nat.lt_or_eq_of_le (Nat.le_of_lt_succ hj2) with h1 | h1
      · exact ha j hj h1
      · subst h1; exact hp
    | false =>
      refine st_if (fun h => by cases h) (fun _ => ?_)
      have : frontN p l = i := by
        unfold frontN
        rw [takeWhile_cut hi (fun j hj => ha j (by omega) hj) hp]; simp; omega
      rw [this] at k; exact k
  · have : frontN p l = i := by
      unfold frontN
      rw [takeWhile_all fun j hj => ha j hj (by omega)]; omega
    rw [this] at k; exact k
abbrev bDigit (c : UInt8) : Bool := pDigit c.toNat
abbrev bInner (c : UInt8) : Bool := pInner c.toNat
theorem ldigit_sp (c : UInt8) (k : Q (B (bDigit c)) h) : C fn_line_digit [U8 c] h Q := by
  refine line_digit_ok _ _ _ ?_
  unfold line_digit
  have e1 : decide ((48 : Int) ≤ c.toNat) = decide (48 ≤ c.toNat) := dcast (a := 48)
  have e2 : decide ((c.toNat : Int) ≤ 57) = decide (c.toNat ≤ 57) := dcast (b := 57)
  unfold bDigit pDigit at k
  refine st_geq ?_
  rw [e1]
  cases h1 : decide (48 ≤ c.toNat) with
  | true =>
    refine st_if (fun _ => ?_) (fun h => by cases h)
    refine st_leq ?_
    rw [h1, Bool.true_and] at k
    rw [e2]; exact k
  | false =>
    refine st_if (fun h => by cases h) (fun _ => ?_)
    rw [h1, Bool.false_and] at k; exact k
theorem linner_sp (c : UInt8) (k : Q (B (bInner c)) h) : C fn_line_inner [U8 c] h Q := by
  refine line_inner_ok _ _ _ ?_
  unfold line_inner
  have e1 : decide ((97 : Int) ≤ c.toNat) = decide (97 ≤ c.toNat) := dcast (a := 97)
  have e2 : decide ((c.toNat : Int) ≤ 122) = decide (c.toNat ≤ 122) := dcast (b := 122)
  have e3 : decide ((c.toNat : Int) = 95) = decide (c.toNat = 95) := deqc (b := 95)
  unfold bInner pInner pSmall at k
  have tail : ∀ (h' : h = h), (Q (B (decide (c.toNat = 95) || pDigit c.toNat)) h) → qBin .eql (U8 c) (.lit (.int .u8 95)) fun t11 => ifB t11 (Q (B true) h) (C fn_line_digit [U8 c] h fun t15 h0 => Q t15 h0) := by
    intro _ k
    refine st_eql ?_
    rw [e3]
    cases h3 : decide (c.toNat = 95) with
    | true =>
      refine st_if (fun _ => ?_) (fun h => by cases h)
      rw [h3, Bool.true_or] at k; exact k
    | false =>
      refine st_if (fun h => by cases h) (fun _ => ?_)
      rw [h3, Bool.false_or] at k
      exact ldigit_sp c k
  refine st_geq ?_
  rw [e1]
  cases h1 : decide (97 ≤ c.toNat) with
  | true =>
    refine st_if (fun _ => ?_) (fun h => by cases h)
    rw [h1, Bool.true_and] at k
    refine st_leq ?_
    rw [e2]
    cases h2 : decide (c.toNat ≤ 122) with
    | true =>
      refine st_if (fun _ => ?_) (fun h => by cases h)
      rw [h2, Bool.true_or, Bool.true_or] at k; exact k
    | false =>
      refine st_if (fun h => by cases h) (fun _ => ?_)
      rw [h2, Bool.false_or] at k
      exact tail rfl k
  | false =>
    refine st_if (fun h => by cases h) (fun _ => ?_)
    rw [h1, Bool.false_and, Bool.false_or] at k
    exact tail rfl k
theorem tInner : TestsB (.fn (.func fn_line_inner) [] []) bInner := fun c h Q k => linner_sp c k
theorem tDigit : TestsB (.fn (.func fn_line_digit) [] []) bDigit := fun c h Q k => ldigit_sp c k
theorem bneq_front {p : UInt8 → Bool} {l : Str} : decide (((frontN p l : Nat) : Int) ≠ ((l.length : Nat) : Int)) = !(l.all p) := by
  rw [Bool.eq_iff_iff, decide_eq_true_eq, Bool.not_eq_true', ← Bool.not_eq_true, ← frontN_eq]; omega
theorem Word_sp (s : Str) (hs : s.length < 4611686018427387904) (k : Q (B (isWord s)) h) : C fn_line_Word [T s] h Q := by
  refine line_Word_ok _ _ _ ?_
  unfold line_Word
  cases s with
  | nil => (repeat refine st_seq ?_); exact k
  | cons c t =>
  dsimp only [isWord] at k
  (repeat (first | refine st_lenS ?_ | refine st_gtr ?_ | refine st_seq ?_))
  refine st_if (fun hl => ?_) (fun hl => ?_) <;> simp only [za, zb, zc, zd, ze, zf, zg, zh, zi, u8i, zj, zk, zl] at hl
  · have e : decide ((c :: t).length ≤ 12) = false := by simp at hl ⊢; omega
    rw [e, Bool.false_and] at k
    exact k
  have e : decide ((c :: t).length ≤ 12) = true := by simp at hl ⊢; omega
  rw [e, Bool.true_and] at k
  refine st_index (by omega) (by simp) ?_
  refine ldigit_sp c ?_
  cases h2 : bDigit c with
  | true =>
    refine st_if (fun _ => ?_) (fun h => by cases h)
    rw [show pDigit c.toNat = true from h2] at k
    exact k
  | false =>
  refine st_if (fun h => by cases h) (fun _ => ?_)
  rw [show pDigit c.toNat = false from h2] at k
  simp only [Bool.not_false, Bool.true_and] at k
  refine front_sp tInner _ hs ?_
  refine st_lenS ?_
  refine st_neq ?_
  rw [bneq_front]
  cases h3 : (c :: t).all bInner with
  | false =>
    refine st_if (fun _ => ?_) (fun h => by cases h)
    rw [show ((c :: t).all fun c => pInner c.toNat) = false from h3, Bool.false_and] at k
    exact k
  | true =>
  refine st_if (fun h => by cases h) (fun _ => ?_)
  rw [show ((c :: t).all fun c => pInner c.toNat) = true from h3, Bool.true_and] at k
  refine st_index (by omega) (by simp) ?_
  refine st_neq ?_
  have e4 : decide ((((c :: t)[Int.toNat 0].toNat : Nat) : Int) ≠ 114) = decide (c ≠ 114) := by
    rw [Bool.eq_iff_iff]; simp [← UInt8.toNat_inj]; omega
  rw [e4]
  cases h4 : decide (c ≠ 114) with
  | true =>
    refine st_if (fun _ => ?_) (fun h => by cases h)
    rw [h4, Bool.true_or] at k
    exact k
  | false =>
  refine st_if (fun h => by cases h) (fun _ => ?_)
  rw [h4, Bool.false_or] at k
  (repeat (first | refine st_lenS ?_ | refine st_eql ?_))
  cases t with
  | nil => refine st_if (fun _ => ?_) (fun hb => (by exfalso; first | (simp at hb; done) | (simp at hb; omega) | (revert hb; decide) | omega)); exact k
  | cons d t =>
  refine st_if (fun h => by simp at h; omega) (fun _ => ?_)
  refine st_cutr (by omega) (by simp; omega) ?_
  rw [show ((c :: d :: t).drop (Int.toNat 1)) = d :: t from rfl]
  refine front_sp tDigit (d :: t) (by simp at hs ⊢; omega) ?_
  refine st_lenS ?_
  refine st_sub (by simp at hs ⊢; omega) ?_
  refine st_neq ?_
  rw [show (((c :: d :: t).length : Nat) : Int) - 1 = (((d :: t).length : Nat) : Int) by simp, bneq_front]
  exact k
end
end
end
section
noncomputable section
structure Rq where
  kind : Int
  name : Str
  text : Str
  value : Int
abbrev rqL (r : Rq) : List AV := [I r.kind, T r.name, T r.text, I r.value]
abbrev rqE (r : Rq) : AV := .agg (rqL r)
def writesM (k : Int) : Bool := decide (k = 1) || decide (k = 3)
def rightM (r : Rq) : Bool :=
  if r.kind < 1 ∨ 7 < r.kind then false
  else if r.kind = 7 then decide (r.name = [] ∧ r.text = [] ∧ r.value = 0)
  else isWord r.name && (decide (r.text.length ≤ 600) && ((decide (r.text = []) || writesM r.kind) && (decide (-1099511627776 ≤ r.value ∧ r.value ≤ 1099511627776) && (decide (r.value = 0) || decide (r.kind = 5)))))
section
variable [Tabs]
variable {h0 h : AHeap} {M : List Nat} {L R : Own} {K : AV → Prop} {Q : QT}
theorem st_eqS {op : BinOp} {ds : List TypeDesc} {xs ys : List AV} {b : Bool} (e : eqCells ds xs ys = some b) (k : nilK op b K) : qEqS op ds (.agg xs) (.agg ys) K := ⟨by simp only [pEqS, e]; exact k⟩
theorem writes_sp {n : Int} (k : Q (B (writesM n)) h) : C fn_work_writes [I n] h Q := by
  refine work_writes_ok _ _ _ ?_
  unfold work_writes
  unfold writesM at k
  refine st_eql ?_
  refine st_if (fun h1 => ?_) (fun h1 => ?_) <;> simp only [za, zb, zc, zd, ze, zf, zg, zh, zi, u8i, zj, zk, zl] at h1
  · rw [decide_eq_true h1] at k; exact k
  · rw [decide_eq_false h1, Bool.false_or] at k
    (repeat refine st_eql ?_)
    exact k
theorem defines_sp {n : Int} (k : Q (B (decide (n = 5))) h) : C fn_work_defines [I n] h Q := by
  refine work_defines_ok _ _ _ ?_
  unfold work_defines
  (repeat refine st_eql ?_)
  exact k
theorem eqRq (a b c d : Int) (n m t u : Str) : eqCells [.int .i64, .string, .string, .int .i64] [I a, T n, T t, I c] [I b, T m, T u, I d] = some (decide (a = b) && (decide (n = m) && (decide (t = u) && (decide (c = d) && true)))) := by
  have hs : ∀ x y : Str, ((⟨⟨x⟩⟩ : ByteArray) == ⟨⟨y⟩⟩) = decide (x = y) := fun x y => by
    rw [Bool.eq_iff_iff, decide_eq_true_eq]
    show ((⟨x⟩ : Array UInt8) == ⟨y⟩) = true ↔ _
    simp
  simp only [eqCells, sEqK, if_true, hs]
  rfl
theorem wRight_sp (r : Rq) (hn : r.name.length < 4611686018427387904) (k : ∀ h', Fr [] h h' → Q (B (rightM r)) h') : C fn_work_Right [rqE r] h Q := by
  refine work_Right_ok _ _ _ ?_
  unfold work_Right
  refine st_box (St.start h) rfl fun p h1 s1 => ?_
  have k := k h1 s1.fr
  unfold rightM at k
  (repeat (first | refine st_fa ?_ | refine st_lss ?_ | refine st_load1 ‹_› (.head _) rfl ?_))
  refine st_if (fun a1 => ?_) (fun a1 => ?_) <;> simp only [za, zb, zc, zd, ze, zf, zg, zh, zi, u8i, zj, zk, zl] at a1
  · rw [if_pos (.inl a1)] at k; exact k
  · (repeat (first | refine st_fa ?_ | refine st_gtr ?_ | refine st_load1 ‹_› (.head _) rfl ?_))
    refine st_if (fun a2 => ?_) (fun a2 => ?_) <;> simp only [za, zb, zc, zd, ze, zf, zg, zh, zi, u8i, zj, zk, zl] at a2
    · rw [if_pos (.inr a2)] at k; exact k
    · rw [if_neg (by omega)] at k
      (repeat (first | refine st_fa ?_ | refine st_eql ?_ | refine st_load1 ‹_› (.head _) rfl ?_))
      refine st_if (fun a3 => ?_) (fun a3 => ?_) <;> simp only [za, zb, zc, zd, ze, zf, zg, zh, zi, u8i, zj, zk, zl] at a3
      · rw [if_pos a3] at k
        refine st_loadA s1 (.head _) (nle rfl) (st_build rfl ?_)
        refine st_eqS (eqRq _ _ _ _ _ _ _ _) ?_
        simp only [nilK]
        have : (decide (r.kind = 7) && (decide (r.name = []) && (decide (r.text = []) && (decide (r.value = 0) && true)))) = decide (r.name = [] ∧ r.text = [] ∧ r.value = 0) := by
          rw [Bool.eq_iff_iff]; simp [a3]
        rw [this]; exact k
      · rw [if_neg a3] at k
        (repeat (first | refine st_fa ?_ | refine st_load1 ‹_› (.head _) rfl ?_))
        refine Word_sp _ hn ?_
        (repeat refine st_not ?_)
        refine st_if (fun a4 => ?_) (fun a4 => ?_) <;> simp only [za, zb, zc, zd, ze, zf, zg, zh, zi, u8i, zj, zk, zl] at a4
        · rw [a4, Bool.false_and] at k; exact k
        · rw [a4, Bool.true_and] at k
          (repeat (first | refine st_fa ?_ | refine st_lenS ?_ | refine st_gtr ?_ | refine st_load1 ‹_› (.head _) rfl ?_))
          refine st_if (fun a5 => ?_) (fun a5 => ?_) <;> simp only [za, zb, zc, zd, ze, zf, zg, zh, zi, u8i, zj, zk, zl] at a5
          · rw [decide_eq_false (by omega), Bool.false_and] at k; exact k
          · rw [decide_eq_true (by omega), Bool.true_and] at k
            (repeat (first | refine st_fa ?_ | refine st_sne ?_ | refine st_load1 ‹_› (.head _) rfl ?_))
            have tl : -1099511627776 ≤ r.value → r.value ≤ 1099511627776 → r.value = 0 → (decide (r.text = []) || writesM r.kind) = true → Q (B true) h1 := fun b1 b2 b3 b4 => by
              simpa [b1, b2, b3, b4] using k
            have td : -1099511627776 ≤ r.value → r.value ≤ 1099511627776 → r.value ≠ 0 → (decide (r.text = []) || writesM r.kind) = true → Q (B (decide (r.kind = 5))) h1 := fun b1 b2 b3 b4 => by
              simpa [b1, b2, b3, b4] using k
            have tn : ¬ (-1099511627776 ≤ r.value ∧ r.value ≤ 1099511627776) → (decide (r.text = []) || writesM r.kind) = true → Q (B false) h1 := fun b1 b4 => by
              rw [b4, decide_eq_false b1] at k; exact k
            have tw : ¬ r.text = [] → writesM r.kind = false → Q (B false) h1 := fun b1 b4 => by
              rw [b4, decide_eq_false b1] at k; exact k
            clear k
            refine st_if (fun a6 => ?_) (fun a6 => ?_) <;> simp only [za, zb, zc, zd, ze, zf, zg, zh, zi, u8i, zj, zk, zl] at a6
            · (repeat (first | refine st_fa ?_ | refine st_load1 ‹_› (.head _) rfl ?_))
              refine writes_sp ?_
              (repeat refine st_not ?_)
              refine st_if (fun a7 => ?_) (fun a7 => ?_) <;> simp only [za, zb, zc, zd, ze, zf, zg, zh, zi, u8i, zj, zk, zl] at a7
              · exact tw a6 a7
              · have b4 : (decide (r.text = []) || writesM r.kind) = true := by rw [a7, Bool.or_true]
                ((repeat (first | refine st_fa ?_ | refine st_geq ?_ | refine st_load1 ‹_› (.head _) rfl ?_)); (refine st_if (fun b1 => ?_) (fun b1 => ?_) <;> simp only [za, zb, zc, zd, ze, zf, zg, zh, zi, u8i, zj, zk, zl] at b1); ((repeat (first | refine st_fa ?_ | refine st_leq ?_ | refine st_load1 ‹_› (.head _) rfl ?_)); (refine st_if (fun b2 => ?_) (fun b2 => ?_) <;> simp only [za, zb, zc, zd, ze, zf, zg, zh, zi, u8i, zj, zk, zl] at b2); ((repeat (first | refine st_fa ?_ | refine st_eql ?_ | refine st_load1 ‹_› (.head _) rfl ?_)); (refine st_if (fun b3 => ?_) (fun b3 => ?_) <;> simp only [za, zb, zc, zd, ze, zf, zg, zh, zi, u8i, zj, zk, zl] at b3); exact tl b1 b2 b3 b4; ((repeat (first | refine st_fa ?_ | refine st_load1 ‹_› (.head _) rfl ?_)); refine defines_sp ?_; exact td b1 b2 b3 b4)); exact tn (by omega) b4); exact tn (by omega) b4)
            · have b4 : (decide (r.text = []) || writesM r.kind) = true := by rw [decide_eq_true a6, Bool.true_or]
              ((repeat (first | refine st_fa ?_ | refine st_geq ?_ | refine st_load1 ‹_› (.head _) rfl ?_)); (refine st_if (fun b1 => ?_) (fun b1 => ?_) <;> simp only [za, zb, zc, zd, ze, zf, zg, zh, zi, u8i, zj, zk, zl] at b1); ((repeat (first | refine st_fa ?_ | refine st_leq ?_ | refine st_load1 ‹_› (.head _) rfl ?_)); (refine st_if (fun b2 => ?_) (fun b2 => ?_) <;> simp only [za, zb, zc, zd, ze, zf, zg, zh, zi, u8i, zj, zk, zl] at b2); ((repeat (first | refine st_fa ?_ | refine st_eql ?_ | refine st_load1 ‹_› (.head _) rfl ?_)); (refine st_if (fun b3 => ?_) (fun b3 => ?_) <;> simp only [za, zb, zc, zd, ze, zf, zg, zh, zi, u8i, zj, zk, zl] at b3); exact tl b1 b2 b3 b4; ((repeat (first | refine st_fa ?_ | refine st_load1 ‹_› (.head _) rfl ?_)); refine defines_sp ?_; exact td b1 b2 b3 b4)); exact tn (by omega) b4); exact tn (by omega) b4)
end
end
end
section
noncomputable section
structure WkM where
  f : KL Str
  s : KL Int
section
variable [Tabs]
variable {h0 h : AHeap} {M : List Nat} {L R : Own} {K : AV → Prop} {Q : QT}
def WkS (h0 : AHeap) (M : List Nat) (h : AHeap) (i : Nat) (w : WkM) (R : Own) : Prop := ∃ jf js xf xs, MapS T w.f xf ∧ MapS I w.s xs ∧ St h0 M h ((i, true, .cells [.map jf, .map js]) :: (jf, true, xf) :: (js, true, xs) :: R)
theorem St.after (s : St h0 M h L) {h' : AHeap} (f : Fr [] h h') : St h0 M h' L :=
  ⟨s.fr.trans f (by simp), fun e he => f.get (s.at_ e he) (by simp), s.own, s.nd⟩
structure WkOk (w : WkM) : Prop where
  txt : ∀ x ∈ w.f, x.2.length ≤ 600
  fn : w.f.length ≤ 8
  sn : w.s.length ≤ 8
  fw : ∀ x ∈ w.f, isWord x.1 = true
  sw : ∀ x ∈ w.s, isWord x.1 = true
  sv : ∀ x ∈ w.s, -1099511627776 ≤ x.2 ∧ x.2 ≤ 1099511627776
end
end
end
section
noncomputable section
section
variable [Tabs]
variable {h0 h : AHeap} {M : List Nat} {L R : Own} {K : AV → Prop} {Q : QT}
abbrev nmE : Str → List AV := fun x => [T x]
structure KSOk : Prop where
  k1 : ∃ tm, KeysIs Pg fn_maps_Keys_map_stringstring_string_string fn_maps_Keys_map_stringstring_string_string_1 tm
  s1 : ∃ ks, SortedIs Pg fn_slices_Sorted_string fn_maps_Keys_map_stringstring_string_string_1 ks
  k2 : ∃ tm, KeysIs Pg fn_maps_Keys_map_stringint_string_int fn_maps_Keys_map_stringint_string_int_1 tm
  s2 : ∃ ks, SortedIs Pg fn_slices_Sorted_string fn_maps_Keys_map_stringint_string_int_1 ks
theorem AccE.row {α : Type} {enc : α → List AV} {sz : Nat} {v : AV} {l : List α} {E : Own} (a : AccE sz v l.length (l.flatMap enc) E) (s : St h0 M h (E ++ L)) : Row enc sz h v l := a.rd s
end
end
end
section
noncomputable section
structure WkSo (w : WkM) : Prop where
  f : SoK w.f
  s : SoK w.s
theorem WkSo.nil : WkSo ⟨[], []⟩ := ⟨List.Pairwise.nil, List.Pairwise.nil⟩
theorem WkOk.nil : WkOk ⟨[], []⟩ := ⟨by simp, by simp, by simp, by simp, by simp, by simp⟩
section
variable [Tabs]
variable {h0 h : AHeap} {M : List Nat} {L R R' : Own} {K : AV → Prop} {KH : QT} {KS' : AHeap → Prop} {Q : QT} {i : Nat} {w : WkM}
theorem WkS.so (s : WkS h0 M h i w R) : WkSo w := by
  obtain ⟨jf, js, xf, xs, ⟨_, _, _, mf⟩, ⟨_, _, _, ms⟩, s⟩ := s
  exact ⟨mf.so, ms.so⟩
theorem WkS.rest (s : WkS h0 M h i w R) : St h0 M h R := by
  obtain ⟨jf, js, xf, xs, mf, ms, s⟩ := s
  exact s.drop1.drop1.drop1
theorem WkS.after (s : WkS h0 M h i w R) {h' : AHeap} (f : Fr [] h h') : WkS h0 M h' i w R := by
  obtain ⟨jf, js, xf, xs, mf, ms, s⟩ := s
  exact ⟨jf, js, xf, xs, mf, ms, s.after f⟩
theorem mod_cases {a n : Int} (ha : -9223372036854775808 ≤ a ∧ a ≤ 9223372036854775807) (hn : 0 < n) : (a.tmod n = a % n ∧ 0 ≤ a.tmod n) ∨ (a.tmod n = a % n - n ∧ a.tmod n < 0) := by
  have h0 := Int.emod_nonneg a (show n ≠ 0 by omega)
  have h4 := Int.emod_lt_of_pos a hn
  rw [Int.tmod_eq_emod]
  have hab : (n.natAbs : Int) = n := by omega
  split
  · exact .inl ⟨by omega, by omega⟩
  · right; rw [hab]; exact ⟨rfl, by omega⟩
theorem law9_within_sp {a n : Int} (hn : 0 < n) (hn2 : n ≤ 1000000000000000000) (ha : -9223372036854775808 ≤ a ∧ a ≤ 9223372036854775807) (k : Q (I (a % n)) h) : C fn_law9_within [I a, I n] h Q := by
  refine law9_within_ok _ _ _ _ ?_
  unfold law9_within
  refine st_rem (by omega) ?_
  have h0 := Int.emod_nonneg a (show n ≠ 0 by omega)
  have h4 := Int.emod_lt_of_pos a hn
  have h3 := mod_cases ha hn
  refine st_lss ?_
  refine st_if (fun hb => ?_) (fun hb => ?_) <;> simp only [za, zb, zc, zd, ze, zf, zg, zh, zi, u8i, zj, zk, zl] at hb
  · refine st_add (by omega) ?_
    rw [show a.tmod n + n = a % n by omega]
    exact k
  · rw [← show a.tmod n = a % n by omega] at k
    exact k
def names9 : List Str := [[109, 97, 105, 110], [97], [98, 49], [120], [108, 105, 98], [101, 110, 100], [99], [100], [101], [102], [98, 97, 115, 101], [107]]
def name9 (n : Int) : Str := names9[(n % 12).toNat]?.getD []
theorem name9_get {n : Int} : ∃ h : (n % 12).toNat < names9.length, name9 n = names9[(n % 12).toNat] := by
  have h1 := Int.emod_nonneg n (show (12 : Int) ≠ 0 by decide)
  have h2 := Int.emod_lt_of_pos n (show (0 : Int) < 12 by decide)
  have h : (n % 12).toNat < names9.length := by show _ < 12; omega
  exact ⟨h, by unfold name9; rw [List.getElem?_eq_getElem h]; rfl⟩
theorem name9_word (n : Int) : isWord (name9 n) = true ∧ (name9 n).length ≤ 4 := by
  obtain ⟨h, e⟩ := name9_get (n := n)
  rw [e]
  have : ∀ x ∈ names9, isWord x = true ∧ x.length ≤ 4 := by decide
  exact this _ (List.getElem_mem _)
theorem law9_Name_sp {n : Int} (hn : -9223372036854775808 ≤ n ∧ n ≤ 9223372036854775807) (k : Q (T (name9 n)) h) : C fn_law9_Name [I n] h Q := by
  refine law9_Name_ok _ _ _ ?_
  unfold law9_Name
  refine st_buildS rfl rfl ?_
  refine law9_within_sp (by decide) (by decide) hn ?_
  obtain ⟨hh, e⟩ := name9_get (n := n)
  rw [e] at k
  have h1 := Int.emod_nonneg n (show (12 : Int) ≠ 0 by decide)
  have h3 : n % 12 = (((n % 12).toNat : Nat) : Int) := by omega
  rw [h3]
  refine (Row.full (h := h) (enc := nmE) (sz := 1) (fun _ => rfl) names9).idx (fun _ => rfl) hh fun p t => ?_
  exact st_pload1 t k
def Known9 : Prop := ∀ (h : AHeap) (Q : QT), Q (B true) h → C fn_law9_known [] h Q
end
end
end
section
noncomputable section
theorem known_run [Tabs] : runG Pg tb5 spK 100 fn_law9_known [] .leaf 0 (fun r t _ => chkR (B true) r t) = true := by kernel_rfl
theorem known9 [Tabs5] : Known9 := fun h Q q => closed_call Tabs5.tb spK_ok (d := 100) (B true) rfl rfl known_run q
end
end
section
noncomputable section
section
variable [Tabs]
variable {h0 h : AHeap} {M : List Nat} {L R : Own} {K : AV → Prop} {Q : QT}
def fitB (i : Nat) (n : Nat) : Bool := (decide (97 ≤ n ∧ n ≤ 122) || decide (n = 95)) || (decide (0 < i) && pDigit n)
def dgB (i : Nat) (n : Nat) (d : Bool) : Bool := if 0 < i ∧ pDigit n = false then false else d
theorem r3_c3 {x : AV} {i n : Nat} {d e : Bool} (hi : i ≤ 12) (he : e = pDigit n) {nx : NT} (k : nx [x, B (dgB i n d), I ((i + 1 : Nat) : Int)] h) : ref3_Word_c3 [x, B d, I (i : Nat)] (B e) h nx := by
  unfold ref3_Word_c3
  unfold dgB at k
  subst he
  (repeat refine st_gtr ?_)
  refine st_if (fun h1 => ?_) (fun h1 => ?_) <;> simp only [za, zb, zc, zd, ze, zf, zg, zh, zi, u8i, zj, zk, zl] at h1
  · (repeat refine st_not ?_)
    unfold ref3_Word_c1
    cases hp : pDigit n
    · rw [if_pos ⟨by omega, hp⟩] at k
      unfold ref3_Word_b2 ref3_Word_j1
      exact st_add (by omega) k
    · rw [if_neg (by simp [hp])] at k
      unfold ref3_Word_b2 ref3_Word_j1
      exact st_add (by omega) k
  · rw [if_neg (by omega)] at k
    unfold ref3_Word_b2 ref3_Word_j1
    exact st_add (by omega) k
theorem r3_c4 {x : AV} {i n : Nat} {c : UInt8} {d e a : Bool} (hn : n = c.toNat) (hi : i ≤ 12) (he : e = pDigit n) (ha : a = !decide (97 ≤ n ∧ n ≤ 122)) {nx : NT}
    (k : if fitB i n then nx [x, B (dgB i n d), I ((i + 1 : Nat) : Int)] h else Q (B false) h) : ref3_Word_c4 (B a) (.lit (.int .u8 n)) [x, B d, I (i : Nat)] Q h (B e) nx := by
  unfold ref3_Word_c4
  subst ha
  unfold fitB at k
  by_cases h1 : 97 ≤ n ∧ n ≤ 122
  · rw [if_pos (by simp [h1])] at k
    rw [decide_eq_true h1]
    exact r3_c3 hi he k
  · rw [decide_eq_false h1]
    (repeat refine st_neq ?_)
    refine st_if (fun h2 => ?_) (fun h2 => ?_) <;> simp only [za, zb, zc, zd, ze, zf, zg, zh, zi, u8i, zj, zk, zl] at h2
    · (repeat refine st_eql ?_)
      refine st_if (fun h3 => ?_) (fun h3 => ?_) <;> simp only [za, zb, zc, zd, ze, zf, zg, zh, zi, u8i, zj, zk, zl] at h3
      · skip
        rw [if_neg (by simp [h1]; omega)] at k
        exact k
      · (repeat refine st_not ?_)
        subst he
        cases hp : pDigit n
        · rw [if_neg (by simp [h1, hp]; omega)] at k
          exact k
        · rw [if_pos (by simp [hp]; omega)] at k
          have := r3_c3 (x := x) (d := d) hi hp.symm k
          exact this
    · rw [if_pos (by simp; omega)] at k
      exact r3_c3 hi he k
theorem r3_l3 {x : AV} {s : Str} {i : Nat} {d : Bool} (hi : i < s.length) (hl : s.length ≤ 12) {nx : NT}
    (k : if fitB i s[i].toNat then nx [x, B (dgB i s[i].toNat d), I ((i + 1 : Nat) : Int)] h else Q (B false) h) : ref3_Word_l3 (T s) Q [x, B d, I (i : Nat)] h nx := by
  unfold ref3_Word_l3
  (repeat (first | refine st_lenS ?_ | refine st_lss ?_))
  refine st_if (fun h1 => ?_) (fun h1 => ?_) <;> simp only [za, zb, zc, zd, ze, zf, zg, zh, zi, u8i, zj, zk, zl] at h1
  · refine st_indexN hi ?_
    have hn : ∀ {e a : Bool}, e = pDigit s[i].toNat → a = !decide (97 ≤ s[i].toNat ∧ s[i].toNat ≤ 122) → ref3_Word_c4 (B a) (U8 s[i]) [x, B d, I (i : Nat)] Q h (B e) nx := fun he ha => r3_c4 rfl (by omega) he ha k
    have q1 : ∀ p q : Bool, (p = true ↔ q = true) → p = q := fun p q => Bool.eq_iff_iff.2
    refine st_geq ?_
    refine st_if (fun h2 => ?_) (fun h2 => ?_) <;> simp only [za, zb, zc, zd, ze, zf, zg, zh, zi, u8i, zj, zk, zl] at h2
    · refine st_leq (st_geq ?_)
      refine st_if (fun h3 => ?_) (fun h3 => ?_) <;> simp only [za, zb, zc, zd, ze, zf, zg, zh, zi, u8i, zj, zk, zl] at h3
      · refine st_leq (st_not ?_)
        exact hn (q1 _ _ (by simp [pDigit]; omega)) (q1 _ _ (by simp; omega))
      · refine st_not ?_
        exact hn (q1 _ _ (by simp [pDigit]; omega)) (q1 _ _ (by simp; omega))
    · refine st_geq ?_
      refine st_if (fun h3 => ?_) (fun h3 => ?_) <;> simp only [za, zb, zc, zd, ze, zf, zg, zh, zi, u8i, zj, zk, zl] at h3
      · refine st_leq (st_not ?_)
        exact hn (e := false) (q1 _ _ (by simp [pDigit]; omega)) (q1 _ _ (by simp; omega))
      · refine st_not ?_
        exact hn (e := false) (q1 _ _ (by simp [pDigit]; omega)) (q1 _ _ (by simp; omega))
  · omega
theorem r3_l3e {x : AV} {s : Str} {d : Bool} {nx : NT} (k : Q (B (!d)) h) : ref3_Word_l3 (T s) Q [x, B d, I (s.length : Nat)] h nx := by
  unfold ref3_Word_l3
  (repeat (first | refine st_lenS ?_ | refine st_lss ?_))
  refine st_if (fun h1 => ?_) (fun h1 => ?_) <;> simp only [za, zb, zc, zd, ze, zf, zg, zh, zi, u8i, zj, zk, zl] at h1
  · omega
  · (repeat refine st_not ?_)
    exact k
def r3F : Str → Nat → Bool → Bool
  | [], _, d => !d
  | c :: t, i, d => if fitB i c.toNat then r3F t (i + 1) (dgB i c.toNat d) else false
theorem r3F_in : ∀ (t : Str) (i : Nat) (d : Bool), 0 < i → r3F t i d = (t.all (fun c => pInner c.toNat) && !(d && t.all fun c => pDigit c.toNat))
  | [], i, d, _ => by simp [r3F]
  | c :: t, i, d, h => by
    unfold r3F
    have e : fitB i c.toNat = pInner c.toNat := by
      unfold fitB pInner pSmall pDigit
      rw [Bool.eq_iff_iff]; simp [h]; try omega
    rw [e, r3F_in t (i + 1) _ (by omega)]
    unfold dgB
    simp only [List.all_cons]
    cases pInner c.toNat <;> cases hp : pDigit c.toNat <;> simp [h, hp]
theorem r3F_word (c : UInt8) (t : Str) (hl : (c :: t).length ≤ 12) : r3F (c :: t) 0 (decide (c = 114) && decide (t.length > 0)) = isWord (c :: t) := by
  unfold r3F isWord
  rw [r3F_in t 1 _ (by omega), decide_eq_true hl]
  have e : fitB 0 c.toNat = (!pDigit c.toNat && pInner c.toNat) := by
    unfold fitB pInner pSmall pDigit
    rw [Bool.eq_iff_iff]; simp; try omega
  have e2 : dgB 0 c.toNat (decide (c = 114) && decide (t.length > 0)) = (decide (c = 114) && decide (t.length > 0)) := by unfold dgB; simp
  rw [e, e2]
  simp only [List.all_cons]
  cases t with
  | nil => cases pDigit c.toNat <;> cases pInner c.toNat <;> simp
  | cons b t => by_cases h : c = 114 <;> cases pDigit c.toNat <;> cases pInner c.toNat <;> simp [h]
theorem ref3Word_sp (s : Str) (hs : s.length < 4611686018427387904) (k : Q (B (isWord s)) h) : C fn_ref3_Word [T s] h Q := by
  refine ref3_Word_ok _ _ _ ?_
  unfold ref3_Word
  (repeat (first | refine st_lenS ?_ | refine st_lss ?_))
  refine st_if (fun h1 => ?_) (fun h1 => ?_) <;> simp only [za, zb, zc, zd, ze, zf, zg, zh, zi, u8i, zj, zk, zl] at h1
  · match s, h1 with
    | [], _ => exact k
    | c :: t, h1 => simp at h1; omega
  · (repeat (first | refine st_lenS ?_ | refine st_gtr ?_))
    refine st_if (fun h2 => ?_) (fun h2 => ?_) <;> simp only [za, zb, zc, zd, ze, zf, zg, zh, zi, u8i, zj, zk, zl] at h2
    · match s, h1 with
      | c :: t, _ =>
        have : isWord (c :: t) = false := by unfold isWord; rw [decide_eq_false (by omega)]; rfl
        rw [this] at k; exact k
    · match s, h1 with
      | c :: t, _ =>
        have hl : (c :: t).length ≤ 12 := by omega
        have go : ∀ d : Bool, d = (decide (c = 114) && decide (t.length > 0)) → Loop [B false, B d, I 0] h fun vs h nx => ref3_Word_l3 (T (c :: t)) Q vs h nx := fun d hd => by
          refine st_loop (fun n vs h' => ∃ (i : Nat) (d : Bool), vs = [B false, B d, I (i : Nat)] ∧ h' = h ∧ n + i = (c :: t).length ∧ r3F ((c :: t).drop i) i d = isWord (c :: t)) (c :: t).length ⟨0, d, rfl, rfl, rfl, by rw [hd]; exact r3F_word c t hl⟩ ?_
          rintro n vs h' ⟨i, d, rfl, rfl, hn, hr⟩
          by_cases hi : i < (c :: t).length
          · refine r3_l3 hi hl ?_
            rw [List.drop_eq_getElem_cons hi] at hr
            unfold r3F at hr
            split
            · rename_i hf
              rw [if_pos hf] at hr
              exact ⟨n - 1, by omega, i + 1, _, rfl, rfl, by omega, hr⟩
            · rename_i hf
              rw [if_neg hf] at hr
              rw [← hr] at k; exact k
          · obtain rfl : i = (c :: t).length := by omega
            rw [List.drop_length] at hr
            unfold r3F at hr
            rw [← hr] at k
            exact r3_l3e k
        refine st_indexN (i := 0) (by simp) ?_
        (repeat refine st_eql ?_)
        have e0 : (c :: t)[0].toNat = c.toNat := rfl
        have ec : c.toNat = 114 ↔ c = 114 := ⟨fun h => by rw [← UInt8.ofNat_toNat (x := c), h]; rfl, fun h => by rw [h]; rfl⟩
        refine st_if (fun h3 => ?_) (fun h3 => ?_) <;> simp only [za, zb, zc, zd, ze, zf, zg, zh, zi, u8i, zj, zk, zl] at h3
        · (repeat (first | refine st_lenS ?_ | refine st_gtr ?_))
          rw [e0] at h3
          have h4 : c = 114 := ec.1 (by omega)
          refine go _ ?_
          rw [decide_eq_true h4, Bool.true_and]
          rw [Bool.eq_iff_iff]; simp
          omega
        · rw [e0] at h3
          have h4 : ¬ c = 114 := fun h => h3 (by have := ec.2 h; omega)
          exact go _ (by rw [decide_eq_false h4, Bool.false_and])
theorem ref4Word_sp (s : Str) (hs : s.length < 4611686018427387904) (k : Q (B (isWord s)) h) : C fn_ref4_Word [T s] h Q := by
  refine ref4_Word_ok _ _ _ ?_
  unfold ref4_Word
  exact ref3Word_sp s hs k
theorem st_beq {a b : Bool} (k : K (B (a == b))) : qBinB .eql (B a) (B b) K := ⟨k⟩
theorem st_bne {a b : Bool} (k : K (B (a != b))) : qBinB .neq (B a) (B b) K := ⟨k⟩
theorem r9Right_sp (r : Rq) (hn : r.name.length < 4611686018427387904) (k : ∀ h', Fr [] h h' → Q (B (rightM r)) h') : C fn_ref9_Right [rqE r] h Q := by
  refine ref9_Right_ok _ _ _ ?_
  unfold ref9_Right
  refine st_box (St.start h) rfl fun p h1 s1 => ?_
  have k := k h1 s1.fr
  have kk : ∀ b, b = rightM r → Q (B b) h1 := fun b e => by rw [e]; exact k
  clear k
  let E : Prop := rightM r = (decide (r.text.length ≤ 600) && ((decide (r.text = []) || writesM r.kind) && (decide (-1099511627776 ≤ r.value ∧ r.value ≤ 1099511627776) && (decide (r.value = 0) || decide (r.kind = 5)))))
  have c2 : E → r.text.length ≤ 600 → (r.text = [] ∨ writesM r.kind = true) → ref9_Right_c2 (.ptr p 0) h1 Q := fun e b3 b4 => by
    have e : rightM r = (decide (-1099511627776 ≤ r.value ∧ r.value ≤ 1099511627776) && (decide (r.value = 0) || decide (r.kind = 5))) := by
      rw [show rightM r = _ from e, decide_eq_true b3]
      rcases b4 with b4 | b4 <;> simp [b4]
    rw [e] at kk
    unfold ref9_Right_c2
    (repeat (first | refine st_fa ?_ | refine st_neq ?_ | refine st_load1 ‹_› (.head _) rfl ?_))
    refine st_if (fun d1 => ?_) (fun d1 => ?_) <;> simp only [za, zb, zc, zd, ze, zf, zg, zh, zi, u8i, zj, zk, zl] at d1
    · (repeat (first | refine st_fa ?_ | refine st_eql ?_ | refine st_load1 ‹_› (.head _) rfl ?_))
      refine kk _ ?_
      rw [Bool.eq_iff_iff]; simp [d1]; omega
    · (repeat (first | refine st_fa ?_ | refine st_geq ?_ | refine st_load1 ‹_› (.head _) rfl ?_))
      refine st_if (fun d2 => ?_) (fun d2 => ?_) <;> simp only [za, zb, zc, zd, ze, zf, zg, zh, zi, u8i, zj, zk, zl] at d2
      · (repeat (first | refine st_fa ?_ | refine st_leq ?_ | refine st_load1 ‹_› (.head _) rfl ?_))
        refine kk _ ?_
        rw [Bool.eq_iff_iff]; simp [d1]; omega
      · refine kk _ ?_
        rw [eq_comm, ← Bool.not_eq_true]; simp; omega
  have c3 : E → ref9_Right_c3 (.ptr p 0) h1 Q := fun e => by
    have e6 : 600 < r.text.length → rightM r = false := fun b3 => by
      rw [show rightM r = _ from e, decide_eq_false (show ¬ r.text.length ≤ 600 by omega), Bool.false_and]
    have c1 : r.text.length ≤ 600 → ref9_Right_c1 (B (!writesM r.kind)) (.ptr p 0) h1 Q := fun b3 => by
      unfold ref9_Right_c1
      cases hw : writesM r.kind
      · (repeat (first | refine st_fa ?_ | refine st_sne ?_ | refine st_load1 ‹_› (.head _) rfl ?_))
        refine st_if (fun d3 => ?_) (fun d3 => ?_) <;> simp only [za, zb, zc, zd, ze, zf, zg, zh, zi, u8i, zj, zk, zl] at d3
        · refine kk _ ?_
          rw [show rightM r = _ from e, hw, decide_eq_false d3]; simp
        · exact c2 e b3 (.inl d3)
      · exact c2 e b3 (.inr hw)
    unfold ref9_Right_c3
    (repeat (first | refine st_fa ?_ | refine st_eql ?_ | refine st_load1 ‹_› (.head _) rfl ?_))
    refine st_if (fun d1 => ?_) (fun d1 => ?_) <;> simp only [za, zb, zc, zd, ze, zf, zg, zh, zi, u8i, zj, zk, zl] at d1
    · (repeat (first | refine st_fa ?_ | refine st_lenS ?_ | refine st_gtr ?_ | refine st_load1 ‹_› (.head _) rfl ?_))
      refine st_if (fun d2 => ?_) (fun d2 => ?_) <;> simp only [za, zb, zc, zd, ze, zf, zg, zh, zi, u8i, zj, zk, zl] at d2
      · exact kk _ (e6 (by omega)).symm
      · refine st_not ?_
        have : writesM r.kind = true := by unfold writesM; simp [d1]
        have hc := c1 (by omega)
        rw [this] at hc
        exact hc
    · (repeat (first | refine st_fa ?_ | refine st_lenS ?_ | refine st_gtr ?_ | refine st_eql ?_ | refine st_load1 ‹_› (.head _) rfl ?_))
      refine st_if (fun d2 => ?_) (fun d2 => ?_) <;> simp only [za, zb, zc, zd, ze, zf, zg, zh, zi, u8i, zj, zk, zl] at d2
      · exact kk _ (e6 (by omega)).symm
      · refine st_not ?_
        have : writesM r.kind = decide (r.kind = 3) := by unfold writesM; rw [decide_eq_false d1, Bool.false_or]
        have hc := c1 (by omega)
        rw [this] at hc
        exact hc
  (repeat (first | refine st_fa ?_ | refine st_lss ?_ | refine st_load1 ‹_› (.head _) rfl ?_))
  refine st_if (fun a1 => ?_) (fun a1 => ?_) <;> simp only [za, zb, zc, zd, ze, zf, zg, zh, zi, u8i, zj, zk, zl] at a1
  · exact kk _ (by unfold rightM; rw [if_pos (.inl a1)])
  · (repeat (first | refine st_fa ?_ | refine st_gtr ?_ | refine st_load1 ‹_› (.head _) rfl ?_))
    refine st_if (fun a2 => ?_) (fun a2 => ?_) <;> simp only [za, zb, zc, zd, ze, zf, zg, zh, zi, u8i, zj, zk, zl] at a2
    · exact kk _ (by unfold rightM; rw [if_pos (.inr a2)])
    · (repeat (first | refine st_fa ?_ | refine st_neq ?_ | refine st_load1 ‹_› (.head _) rfl ?_))
      refine ref4Word_sp _ hn ?_
      refine ⟨by (repeat refine st_load1 ‹_› (.head _) rfl ?_); rfl, st_bne ?_⟩
      by_cases h7 : r.kind = 7
      · have e7 : rightM r = decide (r.name = [] ∧ r.text = [] ∧ r.value = 0) := by unfold rightM; rw [if_neg (by omega), if_pos h7]
        cases hw : isWord r.name
        · rw [show (false != decide (r.kind ≠ 7)) = false by simp [h7]]
          (repeat (first | refine st_fa ?_ | refine st_eql ?_ | refine st_load1 ‹_› (.head _) rfl ?_))
          rw [decide_eq_true h7]
          (repeat (first | refine st_fa ?_ | refine st_sne ?_ | refine st_load1 ‹_› (.head _) rfl ?_))
          refine st_if (fun h8 => ?_) (fun h8 => ?_) <;> simp only [za, zb, zc, zd, ze, zf, zg, zh, zi, u8i, zj, zk, zl] at h8
          · exact kk _ (by rw [e7]; simp [h8])
          · refine c3 ?_
            show rightM r = _
            rw [e7, Bool.eq_iff_iff]
            have hw7 : writesM 7 = false := by decide
            simp [h8, hw7, h7]
            constructor
            · rintro ⟨h1, h2⟩; simp [h1, h2]
            · rintro ⟨_, h1, h2, h3⟩; exact ⟨h1, h3⟩
        · rw [show (true != decide (r.kind ≠ 7)) = true by simp [h7]]
          skip
          refine kk _ ?_
          rw [e7, eq_comm, decide_eq_false]
          rintro ⟨h8, _⟩
          rw [h8] at hw; simp [isWord] at hw
      · cases hw : isWord r.name
        · rw [show (false != decide (r.kind ≠ 7)) = true by simp [h7]]
          skip
          refine kk _ ?_
          unfold rightM
          rw [if_neg (by omega), if_neg h7, hw, Bool.false_and]
        · rw [show (true != decide (r.kind ≠ 7)) = false by simp [h7]]
          (repeat (first | refine st_fa ?_ | refine st_eql ?_ | refine st_load1 ‹_› (.head _) rfl ?_))
          rw [decide_eq_false h7]
          exact c3 (by show rightM r = _; unfold rightM; rw [if_neg (by omega), if_neg h7, hw, Bool.true_and])
end
end
end
section
noncomputable section
section
variable [Tabs]
variable {h0 h : AHeap} {M : List Nat} {L R : Own} {K : AV → Prop} {Q : QT} {i : Nat} {w : WkM}
theorem rightM_word {c : Int} {n : Str} {t : Str} {v : Int} (hc : 1 ≤ c ∧ c ≤ 6) (hn : isWord n = true) (ht : t.length ≤ 600) (hw : t = [] ∨ writesM c = true) (hv : v = 0 ∨ (c = 5 ∧ -1099511627776 ≤ v ∧ v ≤ 1099511627776)) : rightM ⟨c, n, t, v⟩ = true := by
  unfold rightM
  rw [if_neg (by simp; omega), if_neg (by simp; omega)]
  simp only [Bool.and_eq_true, Bool.or_eq_true, decide_eq_true_eq]
  refine ⟨hn, ht, hw, ?_, ?_⟩
  · rcases hv with rfl | h <;> omega
  · rcases hv with rfl | h
    · exact .inl rfl
    · exact .inr h.1
end
end
end
section
noncomputable section
section
variable [Tabs]
variable {h0 h : AHeap} {M : List Nat} {L R : Own} {K : AV → Prop} {Q : QT}
theorem st_ixI {l : List Int} {n j : Nat} {cs : List AV} (hn : n = l.length) (hc : cs = l.map fun x => I x) (hj : j < l.length) (k : ∀ r, K (.cptr (I l[j] :: r))) : qIndexAddr 1 (.full n cs) (I (j : Nat)) K := ⟨by
  subst hn hc
  simp only [pIndexAddr, asI, Int.toNat_natCast, Nat.mul_one]
  refine ⟨⟨by omega, by omega⟩, ?_⟩
  rw [List.drop_eq_getElem_cons (by simpa using hj), List.getElem_map]
  exact k _⟩
theorem st_cload {a : AV} {l : List AV} (k : K a) : qLoad1 (.cptr (a :: l)) h K := st_pload1 (l := []) (.inr ⟨_, rfl, by simp, by simp⟩) k
theorem make_b {i6 i4 : Nat} {r z : Rq} (s : St h0 M h [(i6, true, .cells (rqL r)), (i4, true, .cells (rqL z))]) (k : ∀ h', Fr M h0 h' → Q (rqE r) h') : law9_Make_b12 (.ptr i6 0) (.ptr i4 0) h Q := by
  unfold law9_Make_b12 law9_Make_j11
  refine st_loadA s (.head _) (nle rfl) ?_
  refine st_store s (.tail .head) rfl rfl rfl (nle rfl) fun h s => ?_
  refine st_loadA s (.tail _ (.head _)) (nle rfl) ?_
  exact k _ s.fr
theorem make_sp {n : Int} (hn : 0 ≤ n) (hn2 : n ≤ 1152921504606846976) (k : ∀ r h', Fr [] h h' → (rightM r = true ∧ r.name.length ≤ 4 ∧ r.text = []) → Q (rqE r) h') : C fn_law9_Make [I n, .full 0 []] h Q := by
  refine law9_Make_ok _ _ _ _ ?_
  unfold law9_Make
  refine st_new (St.start h) fun i4 h s => ?_
  have hq : 0 ≤ n.tdiv 16 ∧ n.tdiv 16 ≤ n := by
    rw [Int.tdiv_eq_ediv_of_nonneg hn]; constructor <;> omega
  refine st_quo (by decide) (by omega) ?_
  refine law9_Name_sp (by omega) ?_
  obtain ⟨hw, hl⟩ := name9_word (n.tdiv 16)
  generalize name9 (n.tdiv 16) = nm at hw hl ⊢
  refine st_build rfl ?_
  refine st_new s fun i6 h s => ?_
  refine st_store s .head rfl rfl rfl (nle rfl) fun h s => ?_
  (repeat (first | refine st_lenL2 ?_ | refine st_gtr ?_))
  unfold law9_Make_j23
  refine law9_within_sp (by decide) (by decide) (by omega) ?_
  have wd : ∀ c : Int, 1 ≤ c → c ≤ 6 → rightM ⟨c, nm, [], 0⟩ = true ∧ nm.length ≤ 4 ∧ ([] : Str) = [] := fun c h1 h6 => ⟨rightM_word ⟨h1, h6⟩ hw (by simp) (.inl rfl) (.inl rfl), hl, rfl⟩
  (repeat refine st_lss ?_)
  refine st_if (fun b1 => ?_) (fun b1 => ?_) <;> simp only [za, zb, zc, zd, ze, zf, zg, zh, zi, u8i, zj, zk, zl] at b1
  · (refine st_fa ?_; refine st_store s .head rfl rfl rfl (nle rfl) fun h s => ?_)
    (refine st_fa ?_; refine st_store s .head rfl rfl rfl (nle rfl) fun h s => ?_)
    (refine make_b (r := ⟨_, _, _, _⟩) (z := ⟨0, [], [], 0⟩) s fun h f => ?_; refine k _ _ f ?_)
    exact wd 1 (by decide) (by decide)
  · (repeat refine st_lss ?_)
    refine st_if (fun b2 => ?_) (fun b2 => ?_) <;> simp only [za, zb, zc, zd, ze, zf, zg, zh, zi, u8i, zj, zk, zl] at b2
    · (refine st_fa ?_; refine st_store s .head rfl rfl rfl (nle rfl) fun h s => ?_)
      (refine make_b (r := ⟨_, _, _, _⟩) (z := ⟨0, [], [], 0⟩) s fun h f => ?_; refine k _ _ f ?_)
      exact wd 2 (by decide) (by decide)
    · (repeat refine st_lss ?_)
      refine st_if (fun b3 => ?_) (fun b3 => ?_) <;> simp only [za, zb, zc, zd, ze, zf, zg, zh, zi, u8i, zj, zk, zl] at b3
      · (refine st_fa ?_; refine st_store s .head rfl rfl rfl (nle rfl) fun h s => ?_)
        (refine st_fa ?_; refine st_store s .head rfl rfl rfl (nle rfl) fun h s => ?_)
        (refine make_b (r := ⟨_, _, _, _⟩) (z := ⟨0, [], [], 0⟩) s fun h f => ?_; refine k _ _ f ?_)
        exact wd 3 (by decide) (by decide)
      · (repeat refine st_lss ?_)
        refine st_if (fun b4 => ?_) (fun b4 => ?_) <;> simp only [za, zb, zc, zd, ze, zf, zg, zh, zi, u8i, zj, zk, zl] at b4
        · (refine st_fa ?_; refine st_store s .head rfl rfl rfl (nle rfl) fun h s => ?_)
          (refine make_b (r := ⟨_, _, _, _⟩) (z := ⟨0, [], [], 0⟩) s fun h f => ?_; refine k _ _ f ?_)
          exact wd 4 (by decide) (by decide)
        · (repeat refine st_lss ?_)
          refine st_if (fun b5 => ?_) (fun b5 => ?_) <;> simp only [za, zb, zc, zd, ze, zf, zg, zh, zi, u8i, zj, zk, zl] at b5
          · refine st_buildS rfl rfl ?_
            have hq2 : 0 ≤ (n.tdiv 16).tdiv 12 ∧ (n.tdiv 16).tdiv 12 ≤ n := by
              rw [Int.tdiv_eq_ediv_of_nonneg hq.1]; constructor <;> omega
            refine st_quo (by decide) (by omega) ?_
            refine st_fa ?_
            refine law9_within_sp (by decide) (by decide) (by omega) ?_
            have hv : ∃ j : Nat, (n.tdiv 16).tdiv 12 % 7 = (j : Int) ∧ j < 7 := ⟨((n.tdiv 16).tdiv 12 % 7).toNat, by omega, by omega⟩
            obtain ⟨j, hj, hj7⟩ := hv
            rw [hj]
            have hall : ∀ x ∈ [0, 1, 7, 300, -1, 1099511627776, -1099511627776], -1099511627776 ≤ x ∧ x ≤ (1099511627776 : Int) := by decide
            refine st_ixI (l := [0, 1, 7, 300, -1, 1099511627776, -1099511627776]) rfl rfl hj7 fun rr => ?_
            have hx := hall _ (List.getElem_mem hj7)
            generalize ([0, 1, 7, 300, -1, 1099511627776, -1099511627776] : List Int)[j] = x at hx ⊢
            refine st_cload ?_
            refine st_store s .head rfl rfl rfl (nle rfl) fun h s => ?_
            refine ⟨st_cload rfl, ?_⟩
            (refine st_fa ?_; refine st_store s .head rfl rfl rfl (nle rfl) fun h s => ?_)
            (refine make_b (r := ⟨_, _, _, _⟩) (z := ⟨0, [], [], 0⟩) s fun h f => ?_; refine k _ _ f ?_)
            exact ⟨rightM_word ⟨by decide, by decide⟩ hw (by simp) (.inl rfl) (.inr ⟨rfl, hx⟩), hl, rfl⟩
          · (repeat refine st_lss ?_)
            refine st_if (fun b6 => ?_) (fun b6 => ?_) <;> simp only [za, zb, zc, zd, ze, zf, zg, zh, zi, u8i, zj, zk, zl] at b6
            · (refine st_fa ?_; refine st_store s .head rfl rfl rfl (nle rfl) fun h s => ?_)
              (refine make_b (r := ⟨_, _, _, _⟩) (z := ⟨0, [], [], 0⟩) s fun h f => ?_; refine k _ _ f ?_)
              exact wd 6 (by decide) (by decide)
            · (refine st_fa ?_; refine st_store s .head rfl rfl rfl (nle rfl) fun h s => ?_)
              (refine st_fa ?_; refine st_store s .head rfl rfl rfl (nle rfl) fun h s => ?_)
              (refine make_b (r := ⟨_, _, _, _⟩) (z := ⟨0, [], [], 0⟩) s fun h f => ?_; refine k _ _ f ?_)
              exact ⟨by decide, by simp, rfl⟩
end
end
end
section
noncomputable section
section
variable [Tabs]
variable {h0 h : AHeap} {M : List Nat} {L R : Own} {K : AV → Prop} {Q : QT}
theorem right_end {i j : Nat} {m r : Rq} (s : St h0 M h [(i, true, .cells (rqL m)), (j, true, .cells (rqL r))]) (hm : m.name.length < 4611686018427387904) (hr : r.name.length < 4611686018427387904) (k : ∀ h', Q (B true) h') : law9_WorkRight_b15 (.ptr i 0) (.ptr j 0) h Q := by
  unfold law9_WorkRight_b15 law9_WorkRight_j14
  refine st_loadA (cs := rqL m) s (.head _) (nle rfl) ?_
  refine st_loadA (cs := rqL m) s (.head _) (nle rfl) ?_
  refine wRight_sp m hm fun h f => ?_
  have s := s.after f
  refine ⟨st_loadA (cs := rqL m) s (.head _) (nle rfl) rfl, ?_⟩
  refine r9Right_sp m hm fun h f => ?_
  have s := s.after f
  refine st_beq ?_
  rw [beq_self_eq_true]
  (repeat refine st_loadA ‹_› (by first | exact .head _ | exact .tail _ (.head _)) (nle rfl) ?_)
  refine wRight_sp r hr fun h f => ?_
  have s := s.after f
  refine ⟨?_, ?_⟩
  · refine st_loadA (cs := rqL r) s (.tail _ (.head _)) (nle rfl) ?_
    rfl
  refine r9Right_sp r hr fun h f => ?_
  refine st_beq ?_
  rw [beq_self_eq_true]
  exact k _
theorem right_law (hk : Known9) {r : Rq} {a b c : Int} {t : Str} (ha : -9223372036854775808 ≤ a ∧ a ≤ 9223372036854775807) (hb : -9223372036854775808 ≤ b ∧ b ≤ 9223372036854775807) (hc : -9223372036854775808 ≤ c ∧ c ≤ 9223372036854775807)
    (k : ∀ h', Q (B true) h') : C fn_law9_WorkRight [rqE r, I a, I b, I c, T t] h Q := by
  refine law9_WorkRight_ok _ _ _ _ _ _ _ ?_
  unfold law9_WorkRight
  refine st_box (St.start h) rfl fun i5 h s => ?_
  refine hk _ _ ?_
  (repeat (first | refine st_fa ?_ | refine st_lenS ?_ | refine st_not ?_ | refine st_gtr ?_ | refine st_load1 ‹_› (.head _) rfl ?_))
  refine st_if (fun b1 => ?_) (fun b1 => ?_) <;> simp only [za, zb, zc, zd, ze, zf, zg, zh, zi, u8i, zj, zk, zl] at b1
  · exact k _
  · (repeat (first | refine st_fa ?_ | refine st_lenS ?_ | refine st_gtr ?_ | refine st_load1 ‹_› (.head _) rfl ?_))
    refine st_if (fun b2 => ?_) (fun b2 => ?_) <;> simp only [za, zb, zc, zd, ze, zf, zg, zh, zi, u8i, zj, zk, zl] at b2
    · exact k _
    · (repeat (first | refine st_lenS ?_ | refine st_gtr ?_))
      refine st_if (fun b3 => ?_) (fun b3 => ?_) <;> simp only [za, zb, zc, zd, ze, zf, zg, zh, zi, u8i, zj, zk, zl] at b3
      · exact k _
      · refine law9_within_sp (by decide) (by decide) ha ?_
        refine make_sp (by omega) (by omega) fun m h f hm => ?_
        have s := s.after f
        obtain ⟨hm1, hm2, hm3⟩ := hm
        have hmn : m.name.length < 4611686018427387904 := by omega
        have hrn : r.name.length < 4611686018427387904 := by omega
        refine st_new s fun i11 h s => ?_
        refine st_store s .head rfl rfl rfl (nle rfl) fun h s => ?_
        refine st_loadA s (.head _) (nle rfl) ?_
        refine wRight_sp m hmn fun h f => ?_
        have s := s.after f
        rw [hm1]
        (repeat refine st_not ?_)
        refine law9_within_sp (by decide) (by decide) hb ?_
        (repeat refine st_eql ?_)
        refine st_if (fun c1 => ?_) (fun c1 => ?_) <;> simp only [za, zb, zc, zd, ze, zf, zg, zh, zi, u8i, zj, zk, zl] at c1
        · refine st_buildS rfl rfl ?_
          refine law9_within_sp (by decide) (by decide) hc ?_
          obtain ⟨j, hj, hj10⟩ : ∃ j : Nat, c % 10 = (j : Int) ∧ j < 10 := ⟨(c % 10).toNat, by omega, by omega⟩
          rw [hj]
          refine st_ixI (l := [0, 1, 2, 3, 4, 5, 6, 7, 8, c]) rfl rfl hj10 fun rr => ?_
          refine st_cload ?_
          (refine st_fa ?_; refine st_store s .head rfl rfl rfl (nle rfl) fun h s => ?_)
          exact right_end (m := ⟨_, m.name, m.text, m.value⟩) s hmn hrn k
        · (repeat refine st_eql ?_)
          refine st_if (fun c2 => ?_) (fun c2 => ?_) <;> simp only [za, zb, zc, zd, ze, zf, zg, zh, zi, u8i, zj, zk, zl] at c2
          · (refine st_fa ?_; refine st_store s .head rfl rfl rfl (nle rfl) fun h s => ?_)
            exact right_end (m := ⟨m.kind, t, m.text, m.value⟩) s (show t.length < 4611686018427387904 by omega) hrn k
          · (repeat refine st_eql ?_)
            refine st_if (fun c3 => ?_) (fun c3 => ?_) <;> simp only [za, zb, zc, zd, ze, zf, zg, zh, zi, u8i, zj, zk, zl] at c3
            · (refine st_fa ?_; refine st_store s .head rfl rfl rfl (nle rfl) fun h s => ?_)
              exact right_end (m := ⟨m.kind, m.name, t, m.value⟩) s hmn hrn k
            · (repeat refine st_eql ?_)
              refine st_if (fun c4 => ?_) (fun c4 => ?_) <;> simp only [za, zb, zc, zd, ze, zf, zg, zh, zi, u8i, zj, zk, zl] at c4
              · refine st_buildS rfl rfl ?_
                refine law9_within_sp (by decide) (by decide) hc ?_
                obtain ⟨j, hj, hj7⟩ : ∃ j : Nat, c % 7 = (j : Int) ∧ j < 7 := ⟨(c % 7).toNat, by omega, by omega⟩
                rw [hj]
                refine st_ixI (l := [0, 1, c, 1099511627776, 1099511627777, -1099511627776, -1099511627777]) rfl rfl hj7 fun rr => ?_
                refine st_cload ?_
                (refine st_fa ?_; refine st_store s .head rfl rfl rfl (nle rfl) fun h s => ?_)
                exact right_end (m := ⟨m.kind, m.name, m.text, ([0, 1, c, 1099511627776, 1099511627777, -1099511627776, -1099511627777] : List Int)[j]⟩) s hmn hrn k
              · (repeat refine st_eql ?_)
                refine st_if (fun c5 => ?_) (fun c5 => ?_) <;> simp only [za, zb, zc, zd, ze, zf, zg, zh, zi, u8i, zj, zk, zl] at c5
                · refine st_loop (fun n vs h' => vs = [] ∧ ∃ tx : Str, tx.length + n = 700 ∧ St _ _ h' [(i11, true, .cells (rqL ⟨m.kind, m.name, tx, m.value⟩)), (i5, true, .cells (rqL r))]) 700 ⟨rfl, m.text, by rw [hm3]; rfl, s⟩ ?_
                  rintro n vs h ⟨rfl, tx, hn, s⟩
                  unfold law9_WorkRight_l23
                  refine st_fa (st_load1 s (.head _) rfl ?_)
                  (repeat refine st_lenS ?_)
                  refine law9_within_sp (by decide) (by decide) hc ?_
                  refine ⟨st_load1 s (.head _) rfl rfl, ?_⟩
                  (repeat (first | refine st_lss ?_ | refine st_add (by omega) ?_))
                  refine st_if (fun d1 => ?_) (fun d1 => ?_) <;> simp only [za, zb, zc, zd, ze, zf, zg, zh, zi, u8i, zj, zk, zl] at d1
                  · refine st_fa (st_load1 s (.head _) rfl ?_)
                    refine st_cat (by simp; omega) ?_
                    (refine st_fa ?_; refine st_store s .head rfl rfl rfl (nle rfl) fun h s => ?_)
                    exact ⟨n - 1, by omega, rfl, tx ++ [35], by simp; omega, s⟩
                  · exact right_end (m := ⟨m.kind, m.name, tx, m.value⟩) s hmn hrn k
                · exact right_end s hmn hrn k
end
end
end
section
noncomputable section
variable [Tabs5]
theorem right_card_law {ka xa : Int} {na ta t : Str} {a b c : Int} (wk : -9223372036854775808 ≤ ka ∧ ka ≤ 9223372036854775807) (wx : -9223372036854775808 ≤ xa ∧ xa ≤ 9223372036854775807) (ha : -9223372036854775808 ≤ a ∧ a ≤ 9223372036854775807) (hb : -9223372036854775808 ≤ b ∧ b ≤ 9223372036854775807) (hc : -9223372036854775808 ≤ c ∧ c ≤ 9223372036854775807) (ht : t.length ≤ 140737488355328) {h : AHeap} {Q : QT} (k : ∀ h', Q (B true) h') : C fn_law9_WorkRight [.agg [I ka, T na, T ta, I xa], I a, I b, I c, T t] h Q :=
  right_law (r := ⟨ka, na, ta, xa⟩) known9 ha hb hc k
end
end
end Go.Proofs.YtochldeokjifkaaGreatDoor.AL
