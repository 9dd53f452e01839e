import Derived.Test.YtlikeadfohahdaaGreatDoorAI3
import Derived.Laws.RangeString
import Derived.Laws.RangeAny
import Derived.Test.YtlikeadfohahdaaGreatDoorMP1toAI2
import Derived.Test.YtlikeadfohahdaaGreatDoorF9
import Derived.Test.YtlikeadfohahdaaGreatDoorSPK
import Derived.MapKept
set_option linter.all false
set_option autoImplicit true
set_option relaxedAutoImplicit true
set_option maxRecDepth 100000
namespace Go.Proofs.YtlikeadfohahdaaGreatDoor.AL
section
noncomputable section
variable [Tabs]
end
end
section
noncomputable section
variable [Tabs]
theorem takeWhile_self {p : UInt8 → Bool} : ∀ {l : Str}, l.takeWhile p = l ↔ ∀ x ∈ l, p x = true
  | [] => by simp
  | a :: l => by
    cases h : p a with
    | true => rw [List.takeWhile_cons_of_pos h]; simp [h, takeWhile_self (l := l)]
    | false => rw [List.takeWhile_cons_of_neg (by simp [h])]; simp [h]
theorem takeWhile_all {p : UInt8 → Bool} {l : Str} (h : ∀ j (hj : j < l.length), p l[j] = true) : l.takeWhile p = l := by
  rw [takeWhile_self]
  intro x hx
  obtain ⟨j, hj, rfl⟩ := List.getElem_of_mem hx
  exact h j hj
theorem takeWhile_cut {p : UInt8 → Bool} {l : Str} {k : Nat} (hk : k < l.length) (h : ∀ j (hj : j < k), p (l[j]'(by omega)) = true) (hn : p l[k] = false) : l.takeWhile p = l.take k := by
  conv => lhs; rw [← List.take_append_drop k l]
  rw [List.takeWhile_append_of_pos, List.drop_eq_getElem_cons hk, List.takeWhile_cons_of_neg (by simp [hn]), List.append_nil]
  intro x hx
  obtain ⟨j, hj, rfl⟩ := List.getElem_of_mem hx
  rw [List.length_take] at hj
  rw [List.getElem_take]
  exact h j (by omega)
def pSmall (c : Nat) : Bool := (decide (97 ≤ c) && decide (c ≤ 122)) || decide (c = 95)
def pDigit (c : Nat) : Bool := decide (48 ≤ c) && decide (c ≤ 57)
def pInner (c : Nat) : Bool := pSmall c || pDigit c
theorem dcast {a b : Nat} : decide ((a : Int) ≤ (b : Int)) = decide (a ≤ b) := by rw [Bool.eq_iff_iff, decide_eq_true_eq, decide_eq_true_eq]; omega
theorem deqc {a b : Nat} : decide ((a : Int) = (b : Int)) = decide (a = b) := by rw [Bool.eq_iff_iff, decide_eq_true_eq, decide_eq_true_eq]; omega
def isWord (s : Str) : Bool := match s with
  | [] => false
  | c :: t => decide (s.length ≤ 12) && (!pDigit c.toNat && (s.all (fun c => pInner c.toNat) && (decide (c ≠ 114) || (t.isEmpty || !(t.all fun c => pDigit c.toNat)))))
end
end
section
noncomputable section
variable [Tabs]
inductive Ex where
  | none
  | num (n : Nat)
  | name (s : Str)
  | here
  | neg (e : Ex)
  | bin (k : Nat) (a b : Ex)
  deriving DecidableEq
def encE : Ex → List AV
  | .none => [I 0, I 0, T [], .full 0 []]
  | .num n => [I 1, I (n : Nat), T [], .full 0 []]
  | .name s => [I 2, I 0, T s, .full 0 []]
  | .here => [I 3, I 0, T [], .full 0 []]
  | .neg e => [I 4, I 0, T [], .full 1 (encE e)]
  | .bin k a b => [I (k : Nat), I 0, T [], .full 2 (encE a ++ encE b)]
abbrev pO (l : Str) (d : Nat) (b : Bool) : AObj := .cells [T l, I (d : Nat), B b]
abbrev blk (l : Str) : Str := dropB 32 l
section
variable {i d : Nat} {l : Str} {h : AHeap} {Q : QT}
end
structure PRes (i D : Nat) (m : Option (Ex × Str)) (h : AHeap) (Q : QT) : Prop where
  good : ∀ x l' h', m = some (x, l') → Fr [i] h h' → h'[i]? = some (pO l' D false) → Q (.agg (encE x)) h'
  bad : ∀ cs l' h', m = none → Fr [i] h h' → h'[i]? = some (pO l' D true) → cs.length = 4 → cs.all AV.one = true → Q (.agg cs) h'
theorem PRes.fr {i D : Nat} {m : Option (Ex × Str)} {h h1 : AHeap} {Q : QT} (r : PRes i D m h Q) (f : Fr [i] h h1) : PRes i D m h1 Q :=
  ⟨fun x l' h' e f' => r.good x l' h' e (f.trans f' (by simp)), fun cs l' h' e f' => r.bad cs l' h' e (f.trans f' (by simp))⟩
end
end
section
noncomputable section
variable [Tabs]
section
variable {i D : Nat} {l : Str} {h : AHeap} {Q : QT}
end
end
end
section
noncomputable section
variable [Tabs]
section
variable {i D : Nat} {l : Str} {h : AHeap} {Q : QT}
end
end
end
section
noncomputable section
variable [Tabs]
def mostI : Int := 1099511627776
abbrev Ev := Int × Int
def boundM (n : Int) : Ev := if n < -1099511627776 ∨ 1099511627776 < n then (0, 6) else (n, 0)
section
variable {h : AHeap} {Q : QT}
def timesM (a b : Int) : Ev := if a = 0 ∨ b = 0 then (0, 0) else if (mostI.tdiv (max b (-b))) < max a (-a) then (0, 6) else boundM (a * b)
def bothM (kd : Nat) (a b : Int) : Ev :=
  if kd = 5 then boundM (a + b) else if kd = 6 then boundM (a - b) else if kd = 7 then timesM a b else if kd = 8 then boundM (andI .i64 a b) else if kd = 9 then boundM (orI .i64 a b)
  else if b < 0 ∨ 40 < b then (0, 6) else if kd = 11 then boundM (shrI .i64 a b.toNat) else timesM a (2 ^ b.toNat)
abbrev Sy := Str × Int
def syE (y : Sy) : List AV := [T y.1, I y.2]
def okE : Ex → Prop
  | .neg e => okE e
  | .bin k a b => (5 ≤ k ∧ k ≤ 11) ∧ okE a ∧ okE b
  | _ => True
end
end
end
section
noncomputable section
variable [Tabs]
def sizeE : Ex → Nat
  | .neg e => 1 + sizeE e
  | .bin _ a b => 1 + sizeE a + sizeE b
  | _ => 1
end
end
section
noncomputable section
variable [Tabs]
def TestsB (fv : AV) (p : UInt8 → Bool) : Prop := ∀ (c : UInt8) (h : AHeap) (Q : QT), Q (B (p c)) h → CV fv [U8 c] h Q
section
variable {h : AHeap} {Q : QT}
def frontN (p : UInt8 → Bool) (l : Str) : Nat := (l.takeWhile p).length
theorem frontN_eq {p : UInt8 → Bool} {l : Str} : frontN p l = l.length ↔ l.all p = true := by
  unfold frontN
  constructor
  · intro h
    have : l.takeWhile p = l := (List.takeWhile_sublist p).eq_of_length h
    rw [List.all_eq_true]
    exact takeWhile_self.1 this
  · intro h
    rw [List.all_eq_true] at h
    rw [takeWhile_self.2 h]
theorem front_sp {fv : AV} {p : UInt8 → Bool} (ht : TestsB fv p) (l : Str) (hl : l.length < 4611686018427387904) (k : Q (I (frontN p l : Nat)) h) : C fn_line_front [T l, fv] h Q := by
  refine line_front_ok _ _ _ _ ?_
  unfold line_front
  refine st_loop (fun n vs h' => h' = h ∧ ∃ i : Nat, vs = [I (i : Nat)] ∧ n + i = l.length ∧ ∀ j (hj : j < l.length), j < i → p l[j] = true) l.length ⟨rfl, 0, rfl, by omega, fun j _ hj => by omega⟩ ?_
  rintro n vs h' ⟨rfl, i, rfl, hn, ha⟩
  unfold line_front_l2
  (repeat (first | refine st_lenS ?_ | refine st_lss ?_))
  refine st_if (fun hb => ?_) (fun hb => ?_) <;> simp only [za, zb, zc, zd, ze, zf, zg, zh, zi, u8i, zj, zk, zl] at hb
  · have hi : i < l.length := hb
    refine st_indexN hi ?_
    refine ht l[i] _ _ ?_
    cases hp : p l[i] with
    | true =>
      refine st_if (fun _ => ?_) (fun h => by cases h)
      (repeat refine st_add (by omega) ?_)
      refine ⟨n - 1, by omega, rfl, i + 1, rfl, by omega, fun j hj hj2 => ?_⟩
      rcases Nat.lt_or_eq_of_le (Nat.le_of_lt_succ hj2) with h1 | h1
      · exact ha j hj h1
      · subst h1; exact hp
    | false =>
      refine st_if (fun h => by cases h) (fun _ => ?_)
      have : frontN p l = i := by
        unfold frontN
        rw [takeWhile_cut hi (fun j hj => ha j (by omega) hj) hp]; simp; omega
      rw [this] at k; exact k
  · have : frontN p l = i := by
      unfold frontN
      rw [takeWhile_all fun j hj => ha j hj (by omega)]; omega
    rw [this] at k; exact k
abbrev bDigit (c : UInt8) : Bool := pDigit c.toNat
abbrev bInner (c : UInt8) : Bool := pInner c.toNat
theorem ldigit_sp (c : UInt8) (k : Q (B (bDigit c)) h) : C fn_line_digit [U8 c] h Q := by
  refine line_digit_ok _ _ _ ?_
  unfold line_digit
  have e1 : decide ((48 : Int) ≤ c.toNat) = decide (48 ≤ c.toNat) := dcast (a := 48)
  have e2 : decide ((c.toNat : Int) ≤ 57) = decide (c.toNat ≤ 57) := dcast (b := 57)
  unfold bDigit pDigit at k
  refine st_geq ?_
  rw [e1]
  cases h1 : decide (48 ≤ c.toNat) with
  | true =>
    refine st_if (fun _ => ?_) (fun h => by cases h)
    refine st_leq ?_
    rw [h1, Bool.true_and] at k
    rw [e2]; exact k
  | false =>
    refine st_if (fun h => by cases h) (fun _ => ?_)
    rw [h1, Bool.false_and] at k; exact k
theorem linner_sp (c : UInt8) (k : Q (B (bInner c)) h) : C fn_line_inner [U8 c] h Q := by
  refine line_inner_ok _ _ _ ?_
  unfold line_inner
  have e1 : decide ((97 : Int) ≤ c.toNat) = decide (97 ≤ c.toNat) := dcast (a := 97)
  have e2 : decide ((c.toNat : Int) ≤ 122) = decide (c.toNat ≤ 122) := dcast (b := 122)
  have e3 : decide ((c.toNat : Int) = 95) = decide (c.toNat = 95) := deqc (b := 95)
  unfold bInner pInner pSmall at k
  have tail : ∀ (h' : h = h), (Q (B (decide (c.toNat = 95) || pDigit c.toNat)) h) → qBin .eql (U8 c) (.lit (.int .u8 95)) fun t11 => ifB t11 (Q (B true) h) (C fn_line_digit [U8 c] h fun t15 h0 => Q t15 h0) := by
    intro _ k
    refine st_eql ?_
    rw [e3]
    cases h3 : decide (c.toNat = 95) with
    | true =>
      refine st_if (fun _ => ?_) (fun h => by cases h)
      rw [h3, Bool.true_or] at k; exact k
    | false =>
      refine st_if (fun h => by cases h) (fun _ => ?_)
      rw [h3, Bool.false_or] at k
      exact ldigit_sp c k
  refine st_geq ?_
  rw [e1]
  cases h1 : decide (97 ≤ c.toNat) with
  | true =>
    refine st_if (fun _ => ?_) (fun h => by cases h)
    rw [h1, Bool.true_and] at k
    refine st_leq ?_
    rw [e2]
    cases h2 : decide (c.toNat ≤ 122) with
    | true =>
      refine st_if (fun _ => ?_) (fun h => by cases h)
      rw [h2, Bool.true_or, Bool.true_or] at k; exact k
    | false =>
      refine st_if (fun h => by cases h) (fun _ => ?_)
      rw [h2, Bool.false_or] at k
      exact tail rfl k
  | false =>
    refine st_if (fun h => by cases h) (fun _ => ?_)
    rw [h1, Bool.false_and, Bool.false_or] at k
    exact tail rfl k
theorem tInner : TestsB (.fn (.func fn_line_inner) [] []) bInner := fun c h Q k => linner_sp c k
theorem tDigit : TestsB (.fn (.func fn_line_digit) [] []) bDigit := fun c h Q k => ldigit_sp c k
theorem bneq_front {p : UInt8 → Bool} {l : Str} : decide (((frontN p l : Nat) : Int) ≠ ((l.length : Nat) : Int)) = !(l.all p) := by
  rw [Bool.eq_iff_iff, decide_eq_true_eq, Bool.not_eq_true', ← Bool.not_eq_true, ← frontN_eq]; omega
theorem Word_sp (s : Str) (hs : s.length < 4611686018427387904) (k : Q (B (isWord s)) h) : C fn_line_Word [T s] h Q := by
  refine line_Word_ok _ _ _ ?_
  unfold line_Word
  cases s with
  | nil => (repeat refine st_seq ?_); exact k
  | cons c t =>
  dsimp only [isWord] at k
  (repeat (first | refine st_lenS ?_ | refine st_gtr ?_ | refine st_seq ?_))
  refine st_if (fun hl => ?_) (fun hl => ?_) <;> simp only [za, zb, zc, zd, ze, zf, zg, zh, zi, u8i, zj, zk, zl] at hl
  · have e : decide ((c :: t).length ≤ 12) = false := by simp at hl ⊢; omega
    rw [e, Bool.false_and] at k
    exact k
  have e : decide ((c :: t).length ≤ 12) = true := by simp at hl ⊢; omega
  rw [e, Bool.true_and] at k
  refine st_index (by omega) (by simp) ?_
  refine ldigit_sp c ?_
  cases h2 : bDigit c with
  | true =>
    refine st_if (fun _ => ?_) (fun h => by cases h)
    rw [show pDigit c.toNat = true from h2] at k
    exact k
  | false =>
  refine st_if (fun h => by cases h) (fun _ => ?_)
  rw [show pDigit c.toNat = false from h2] at k
  simp only [Bool.not_false, Bool.true_and] at k
  refine front_sp tInner _ hs ?_
  refine st_lenS ?_
  refine st_neq ?_
  rw [bneq_front]
  cases h3 : (c :: t).all bInner with
  | false =>
    refine st_if (fun _ => ?_) (fun h => by cases h)
    rw [show ((c :: t).all fun c => pInner c.toNat) = false from h3, Bool.false_and] at k
    exact k
  | true =>
  refine st_if (fun h => by cases h) (fun _ => ?_)
  rw [show ((c :: t).all fun c => pInner c.toNat) = true from h3, Bool.true_and] at k
  refine st_index (by omega) (by simp) ?_
  refine st_neq ?_
  have e4 : decide ((((c :: t)[Int.toNat 0].toNat : Nat) : Int) ≠ 114) = decide (c ≠ 114) := by
    rw [Bool.eq_iff_iff]; simp [← UInt8.toNat_inj]; omega
  rw [e4]
  cases h4 : decide (c ≠ 114) with
  | true =>
    refine st_if (fun _ => ?_) (fun h => by cases h)
    rw [h4, Bool.true_or] at k
    exact k
  | false =>
  refine st_if (fun h => by cases h) (fun _ => ?_)
  rw [h4, Bool.false_or] at k
  (repeat (first | refine st_lenS ?_ | refine st_eql ?_))
  cases t with
  | nil => refine st_if (fun _ => ?_) (fun hb => (by exfalso; first | (simp at hb; done) | (simp at hb; omega) | (revert hb; decide) | omega)); exact k
  | cons d t =>
  refine st_if (fun h => by simp at h; omega) (fun _ => ?_)
  refine st_cutr (by omega) (by simp; omega) ?_
  rw [show ((c :: d :: t).drop (Int.toNat 1)) = d :: t from rfl]
  refine front_sp tDigit (d :: t) (by simp at hs ⊢; omega) ?_
  refine st_lenS ?_
  refine st_sub (by simp at hs ⊢; omega) ?_
  refine st_neq ?_
  rw [show (((c :: d :: t).length : Nat) : Int) - 1 = (((d :: t).length : Nat) : Int) by simp, bneq_front]
  exact k
end
end
end
section
noncomputable section
structure Rq where
  kind : Int
  name : Str
  text : Str
  value : Int
abbrev rqL (r : Rq) : List AV := [I r.kind, T r.name, T r.text, I r.value]
abbrev rqE (r : Rq) : AV := .agg (rqL r)
abbrev reL (e : Int) (t : Str) : List AV := [I e, T t, .full 0 [], .full 0 []]
abbrev reE (e : Int) (t : Str) : AV := .agg (reL e t)
def writesM (k : Int) : Bool := decide (k = 1) || decide (k = 3)
def rightM (r : Rq) : Bool :=
  if r.kind < 1 ∨ 7 < r.kind then false
  else if r.kind = 7 then decide (r.name = [] ∧ r.text = [] ∧ r.value = 0)
  else isWord r.name && (decide (r.text.length ≤ 600) && ((decide (r.text = []) || writesM r.kind) && (decide (-1099511627776 ≤ r.value ∧ r.value ≤ 1099511627776) && (decide (r.value = 0) || decide (r.kind = 5)))))
section
variable [Tabs]
variable {h0 h : AHeap} {M : List Nat} {L R : Own} {K : AV → Prop} {Q : QT}
theorem st_eqS {op : BinOp} {ds : List TypeDesc} {xs ys : List AV} {b : Bool} (e : eqCells ds xs ys = some b) (k : nilK op b K) : qEqS op ds (.agg xs) (.agg ys) K := ⟨by simp only [pEqS, e]; exact k⟩
theorem writes_sp {n : Int} (k : Q (B (writesM n)) h) : C fn_work_writes [I n] h Q := by
  refine work_writes_ok _ _ _ ?_
  unfold work_writes
  unfold writesM at k
  refine st_eql ?_
  refine st_if (fun h1 => ?_) (fun h1 => ?_) <;> simp only [za, zb, zc, zd, ze, zf, zg, zh, zi, u8i, zj, zk, zl] at h1
  · rw [decide_eq_true h1] at k; exact k
  · rw [decide_eq_false h1, Bool.false_or] at k
    (repeat refine st_eql ?_)
    exact k
theorem defines_sp {n : Int} (k : Q (B (decide (n = 5))) h) : C fn_work_defines [I n] h Q := by
  refine work_defines_ok _ _ _ ?_
  unfold work_defines
  (repeat refine st_eql ?_)
  exact k
theorem eqRq (a b c d : Int) (n m t u : Str) : eqCells [.int .i64, .string, .string, .int .i64] [I a, T n, T t, I c] [I b, T m, T u, I d] = some (decide (a = b) && (decide (n = m) && (decide (t = u) && (decide (c = d) && true)))) := by
  have hs : ∀ x y : Str, ((⟨⟨x⟩⟩ : ByteArray) == ⟨⟨y⟩⟩) = decide (x = y) := fun x y => by
    rw [Bool.eq_iff_iff, decide_eq_true_eq]
    show ((⟨x⟩ : Array UInt8) == ⟨y⟩) = true ↔ _
    simp
  simp only [eqCells, sEqK, if_true, hs]
  rfl
theorem wRight_sp (r : Rq) (hn : r.name.length < 4611686018427387904) (k : ∀ h', Fr [] h h' → Q (B (rightM r)) h') : C fn_work_Right [rqE r] h Q := by
  refine work_Right_ok _ _ _ ?_
  unfold work_Right
  refine st_box (St.start h) rfl fun p h1 s1 => ?_
  have k := k h1 s1.fr
  unfold rightM at k
  (repeat (first | refine st_fa ?_ | refine st_lss ?_ | refine st_load1 ‹_› (.head _) rfl ?_))
  refine st_if (fun a1 => ?_) (fun a1 => ?_) <;> simp only [za, zb, zc, zd, ze, zf, zg, zh, zi, u8i, zj, zk, zl] at a1
  · rw [if_pos (.inl a1)] at k; exact k
  · (repeat (first | refine st_fa ?_ | refine st_gtr ?_ | refine st_load1 ‹_› (.head _) rfl ?_))
    refine st_if (fun a2 => ?_) (fun a2 => ?_) <;> simp only [za, zb, zc, zd, ze, zf, zg, zh, zi, u8i, zj, zk, zl] at a2
    · rw [if_pos (.inr a2)] at k; exact k
    · rw [if_neg (by omega)] at k
      (repeat (first | refine st_fa ?_ | refine st_eql ?_ | refine st_load1 ‹_› (.head _) rfl ?_))
      refine st_if (fun a3 => ?_) (fun a3 => ?_) <;> simp only [za, zb, zc, zd, ze, zf, zg, zh, zi, u8i, zj, zk, zl] at a3
      · rw [if_pos a3] at k
        refine st_loadA s1 (.head _) (nle rfl) (st_build rfl ?_)
        refine st_eqS (eqRq _ _ _ _ _ _ _ _) ?_
        simp only [nilK]
        have : (decide (r.kind = 7) && (decide (r.name = []) && (decide (r.text = []) && (decide (r.value = 0) && true)))) = decide (r.name = [] ∧ r.text = [] ∧ r.value = 0) := by
          rw [Bool.eq_iff_iff]; simp [a3]
        rw [this]; exact k
      · rw [if_neg a3] at k
        (repeat (first | refine st_fa ?_ | refine st_load1 ‹_› (.head _) rfl ?_))
        refine Word_sp _ hn ?_
        (repeat refine st_not ?_)
        refine st_if (fun a4 => ?_) (fun a4 => ?_) <;> simp only [za, zb, zc, zd, ze, zf, zg, zh, zi, u8i, zj, zk, zl] at a4
        · rw [a4, Bool.false_and] at k; exact k
        · rw [a4, Bool.true_and] at k
          (repeat (first | refine st_fa ?_ | refine st_lenS ?_ | refine st_gtr ?_ | refine st_load1 ‹_› (.head _) rfl ?_))
          refine st_if (fun a5 => ?_) (fun a5 => ?_) <;> simp only [za, zb, zc, zd, ze, zf, zg, zh, zi, u8i, zj, zk, zl] at a5
          · rw [decide_eq_false (by omega), Bool.false_and] at k; exact k
          · rw [decide_eq_true (by omega), Bool.true_and] at k
            (repeat (first | refine st_fa ?_ | refine st_sne ?_ | refine st_load1 ‹_› (.head _) rfl ?_))
            have tl : -1099511627776 ≤ r.value → r.value ≤ 1099511627776 → r.value = 0 → (decide (r.text = []) || writesM r.kind) = true → Q (B true) h1 := fun b1 b2 b3 b4 => by
              simpa [b1, b2, b3, b4] using k
            have td : -1099511627776 ≤ r.value → r.value ≤ 1099511627776 → r.value ≠ 0 → (decide (r.text = []) || writesM r.kind) = true → Q (B (decide (r.kind = 5))) h1 := fun b1 b2 b3 b4 => by
              simpa [b1, b2, b3, b4] using k
            have tn : ¬ (-1099511627776 ≤ r.value ∧ r.value ≤ 1099511627776) → (decide (r.text = []) || writesM r.kind) = true → Q (B false) h1 := fun b1 b4 => by
              rw [b4, decide_eq_false b1] at k; exact k
            have tw : ¬ r.text = [] → writesM r.kind = false → Q (B false) h1 := fun b1 b4 => by
              rw [b4, decide_eq_false b1] at k; exact k
            clear k
            refine st_if (fun a6 => ?_) (fun a6 => ?_) <;> simp only [za, zb, zc, zd, ze, zf, zg, zh, zi, u8i, zj, zk, zl] at a6
            · (repeat (first | refine st_fa ?_ | refine st_load1 ‹_› (.head _) rfl ?_))
              refine writes_sp ?_
              (repeat refine st_not ?_)
              refine st_if (fun a7 => ?_) (fun a7 => ?_) <;> simp only [za, zb, zc, zd, ze, zf, zg, zh, zi, u8i, zj, zk, zl] at a7
              · exact tw a6 a7
              · have b4 : (decide (r.text = []) || writesM r.kind) = true := by rw [a7, Bool.or_true]
                ((repeat (first | refine st_fa ?_ | refine st_geq ?_ | refine st_load1 ‹_› (.head _) rfl ?_)); (refine st_if (fun b1 => ?_) (fun b1 => ?_) <;> simp only [za, zb, zc, zd, ze, zf, zg, zh, zi, u8i, zj, zk, zl] at b1); ((repeat (first | refine st_fa ?_ | refine st_leq ?_ | refine st_load1 ‹_› (.head _) rfl ?_)); (refine st_if (fun b2 => ?_) (fun b2 => ?_) <;> simp only [za, zb, zc, zd, ze, zf, zg, zh, zi, u8i, zj, zk, zl] at b2); ((repeat (first | refine st_fa ?_ | refine st_eql ?_ | refine st_load1 ‹_› (.head _) rfl ?_)); (refine st_if (fun b3 => ?_) (fun b3 => ?_) <;> simp only [za, zb, zc, zd, ze, zf, zg, zh, zi, u8i, zj, zk, zl] at b3); exact tl b1 b2 b3 b4; ((repeat (first | refine st_fa ?_ | refine st_load1 ‹_› (.head _) rfl ?_)); refine defines_sp ?_; exact td b1 b2 b3 b4)); exact tn (by omega) b4); exact tn (by omega) b4)
            · have b4 : (decide (r.text = []) || writesM r.kind) = true := by rw [decide_eq_true a6, Bool.true_or]
              ((repeat (first | refine st_fa ?_ | refine st_geq ?_ | refine st_load1 ‹_› (.head _) rfl ?_)); (refine st_if (fun b1 => ?_) (fun b1 => ?_) <;> simp only [za, zb, zc, zd, ze, zf, zg, zh, zi, u8i, zj, zk, zl] at b1); ((repeat (first | refine st_fa ?_ | refine st_leq ?_ | refine st_load1 ‹_› (.head _) rfl ?_)); (refine st_if (fun b2 => ?_) (fun b2 => ?_) <;> simp only [za, zb, zc, zd, ze, zf, zg, zh, zi, u8i, zj, zk, zl] at b2); ((repeat (first | refine st_fa ?_ | refine st_eql ?_ | refine st_load1 ‹_› (.head _) rfl ?_)); (refine st_if (fun b3 => ?_) (fun b3 => ?_) <;> simp only [za, zb, zc, zd, ze, zf, zg, zh, zi, u8i, zj, zk, zl] at b3); exact tl b1 b2 b3 b4; ((repeat (first | refine st_fa ?_ | refine st_load1 ‹_› (.head _) rfl ?_)); refine defines_sp ?_; exact td b1 b2 b3 b4)); exact tn (by omega) b4); exact tn (by omega) b4)
end
end
end
section
noncomputable section
structure WkM where
  f : KL Str
  s : KL Int
def putW (w : WkM) (n t : Str) : WkM × Int × Str := if lookK n w.f = none ∧ 8 ≤ w.f.length then (w, 10, []) else ({ w with f := insK n t w.f }, 0, [])
def delW (w : WkM) (n : Str) : WkM × Int × Str := if lookK n w.f = none then (w, 9, []) else ({ w with f := delK n w.f }, 0, [])
def moreW (w : WkM) (n t : Str) : WkM × Int × Str := match lookK n w.f with
  | none => (w, 9, [])
  | some o => if 600 < o.length + t.length then (w, 10, []) else ({ w with f := insK n (o ++ t) w.f }, 0, [])
def showW (w : WkM) (n : Str) : WkM × Int × Str := match lookK n w.f with
  | none => (w, 9, [])
  | some o => (w, 0, o)
def defW (w : WkM) (n : Str) (v : Int) : WkM × Int × Str := if lookK n w.s = none ∧ 8 ≤ w.s.length then (w, 10, []) else ({ w with s := insK n v w.s }, 0, [])
def undefW (w : WkM) (n : Str) : WkM × Int × Str := if lookK n w.s = none then (w, 9, []) else ({ w with s := delK n w.s }, 0, [])
def deedW (w : WkM) (r : Rq) : WkM × Int × Str :=
  if r.kind = 1 then putW w r.name r.text else if r.kind = 2 then delW w r.name else if r.kind = 3 then moreW w r.name r.text
  else if r.kind = 4 then showW w r.name else if r.kind = 5 then defW w r.name r.value else undefW w r.name
def doW (w : WkM) (r : Rq) : WkM × Int × Str := if rightM r = false then (w, 12, []) else deedW w r
section
variable [Tabs]
variable {h0 h : AHeap} {M : List Nat} {L R : Own} {K : AV → Prop} {Q : QT}
def WkS (h0 : AHeap) (M : List Nat) (h : AHeap) (i : Nat) (w : WkM) (R : Own) : Prop := ∃ jf js xf xs, MapS T w.f xf ∧ MapS I w.s xs ∧ St h0 M h ((i, true, .cells [.map jf, .map js]) :: (jf, true, xf) :: (js, true, xs) :: R)
theorem wNo_sp {n : Int} (k : ∀ h', Fr [] h h' → Q (reE n []) h') : C fn_work_no [I n] h Q := by
  refine work_no_ok _ _ _ ?_
  unfold work_no
  refine st_new (St.start h) fun i h1 s1 => ?_
  refine st_build rfl ?_
  refine st_store s1 .head rfl rfl rfl (nle rfl) fun h2 s2 => ?_
  refine st_loadA s2 (.head _) (nle rfl) ?_
  exact k h2 s2.fr
theorem St.after (s : St h0 M h L) {h' : AHeap} (f : Fr [] h h') : St h0 M h' L :=
  ⟨s.fr.trans f (by simp), fun e he => f.get (s.at_ e he) (by simp), s.own, s.nd⟩
theorem wNew_sp (s : St h0 M h R) (k : ∀ i h', WkS h0 M h' i ⟨[], []⟩ R → Q (.ptr i 0) h') : C fn_work_New [] h Q := by
  refine work_New_ok _ _ ?_
  unfold work_New
  refine st_makeMap s fun jf h1 s1 => ?_
  refine st_makeMap s1 fun js h2 s2 => ?_
  refine st_build rfl ?_
  refine st_box s2 rfl fun i h3 s3 => ?_
  exact k i h3 ⟨jf, js, _, _, .nil T, .nil I, s3.perm (.cons _ (.swap _ _ _))⟩
theorem wPut_sp {i : Nat} {w : WkM} {r : Rq} (s : WkS h0 M h i w R) (k : ∀ h', WkS h0 M h' i (putW w r.name r.text).1 R → Q (reE (putW w r.name r.text).2.1 (putW w r.name r.text).2.2) h') : C fn_work_Work_put [.ptr i 0, rqE r] h Q := by
  obtain ⟨jf, js, xf, xs, mf, ms, s⟩ := s
  refine work_Work_put_ok _ _ _ _ ?_
  unfold work_Work_put
  (refine st_box s rfl fun p h1 s1 => ?_; refine st_new s1 fun q h2 s2 => ?_; (repeat (first | refine st_nil ?_ | refine st_fa ?_ | refine st_load1 ‹_› (by first | exact .head _ | exact .tail _ (.head _) | exact .tail _ (.tail _ (.head _))) rfl ?_)))
  refine st_lookS (s2.get (.tail _ (.tail _ (.tail _ (.head _))))) mf ?_
  unfold putW at k
  (repeat (first | refine st_ext rfl ?_ | refine st_not ?_))
  have tail : ¬ (lookK r.name w.f = none ∧ 8 ≤ w.f.length) → qNil (.ptr i 0) fun t29 => qFieldAddr 0 t29 fun t30 => qLoad1 t30 h2 fun t31 => qFieldAddr 1 (.ptr p 0) fun t32 => qLoad1 t32 h2 fun t33 => qFieldAddr 2 (.ptr p 0) fun t34 => qLoad1 t34 h2 fun t35 => qMapUpdate .string t31 t33 t35 h2 fun h9 => C fn_work_no [(I 0)] h9 fun t36 h10 => qStore 4 (.ptr q 0) t36 h10 fun h11 => qLoadA 4 (.ptr q 0) h11 fun r12 => Q r12 h11 := fun hb => by
    rw [if_neg hb] at k
    (repeat (first | refine st_nil ?_ | refine st_fa ?_ | refine st_load1 ‹_› (by first | exact .head _ | exact .tail _ (.head _) | exact .tail _ (.tail _ (.head _))) rfl ?_))
    refine st_putS s2 (.tail _ (.tail _ (.tail _ (.head _)))) mf fun o' mf' st => ?_
    have s2 := st (.tail (.tail (.tail .head)))
    (refine wNo_sp fun h3 f3 => ?_; refine st_store (s2.after f3) .head rfl rfl rfl (nle rfl) fun h4 s4 => ?_; refine st_loadA s4 (.head _) (nle rfl) ?_)
    exact k h4 ⟨_, _, _, _, mf', ms, s4.drop1.drop1⟩
  refine st_if (fun hb => ?_) (fun hb => ?_) <;> simp only [za, zb, zc, zd, ze, zf, zg, zh, zi, u8i, zj, zk, zl] at hb
  · (repeat (first | refine st_nil ?_ | refine st_fa ?_ | refine st_load1 ‹_› (by first | exact .head _ | exact .tail _ (.tail _ (.head _))) rfl ?_))
    refine st_lenMS (s2.get (.tail _ (.tail _ (.tail _ (.head _))))) mf ?_
    (repeat refine st_geq ?_)
    have hn : lookK r.name w.f = none := by simpa using hb
    refine st_if (fun hc => ?_) (fun hc => ?_) <;> simp only [za, zb, zc, zd, ze, zf, zg, zh, zi, u8i, zj, zk, zl] at hc
    · rw [if_pos ⟨hn, by omega⟩] at k
      (refine wNo_sp fun h3 f3 => ?_; refine st_store (s2.after f3) .head rfl rfl rfl (nle rfl) fun h4 s4 => ?_; refine st_loadA s4 (.head _) (nle rfl) ?_)
      exact k h4 ⟨_, _, _, _, mf, ms, s4.drop1.drop1⟩
    · exact tail fun h => by omega
  · exact tail fun h => by simp [h.1] at hb
theorem wDel_sp {i : Nat} {w : WkM} {r : Rq} (s : WkS h0 M h i w R) (k : ∀ h', WkS h0 M h' i (delW w r.name).1 R → Q (reE (delW w r.name).2.1 (delW w r.name).2.2) h') : C fn_work_Work_del [.ptr i 0, rqE r] h Q := by
  obtain ⟨jf, js, xf, xs, mf, ms, s⟩ := s
  refine work_Work_del_ok _ _ _ _ ?_
  unfold work_Work_del
  (refine st_box s rfl fun p h1 s1 => ?_; refine st_new s1 fun q h2 s2 => ?_; (repeat (first | refine st_nil ?_ | refine st_fa ?_ | refine st_load1 ‹_› (by first | exact .head _ | exact .tail _ (.head _) | exact .tail _ (.tail _ (.head _))) rfl ?_)))
  refine st_lookS (s2.get (.tail _ (.tail _ (.tail _ (.head _))))) mf ?_
  unfold delW at k
  (repeat (first | refine st_ext rfl ?_ | refine st_not ?_))
  refine st_if (fun hb => ?_) (fun hb => ?_) <;> simp only [za, zb, zc, zd, ze, zf, zg, zh, zi, u8i, zj, zk, zl] at hb
  · have hn : lookK r.name w.f = none := by simpa using hb
    rw [if_pos hn] at k
    (refine wNo_sp fun h3 f3 => ?_; refine st_store (s2.after f3) .head rfl rfl rfl (nle rfl) fun h4 s4 => ?_; refine st_loadA s4 (.head _) (nle rfl) ?_)
    exact k h4 ⟨_, _, _, _, mf, ms, s4.drop1.drop1⟩
  · have hn : lookK r.name w.f ≠ none := by intro h; rw [h] at hb; cases hb
    rw [if_neg hn] at k
    (repeat (first | refine st_nil ?_ | refine st_fa ?_ | refine st_load1 ‹_› (by first | exact .head _ | exact .tail _ (.head _) | exact .tail _ (.tail _ (.head _))) rfl ?_))
    refine st_delS s2 (.tail _ (.tail _ (.tail _ (.head _)))) mf fun o' hz mf' st => ?_
    have s2 := st (.tail (.tail (.tail .head)))
    (refine wNo_sp fun h3 f3 => ?_; refine st_store (s2.after f3) .head rfl rfl rfl (nle rfl) fun h4 s4 => ?_; refine st_loadA s4 (.head _) (nle rfl) ?_)
    exact k h4 ⟨_, _, _, _, mf', ms, s4.drop1.drop1⟩
theorem wMore_sp {i : Nat} {w : WkM} {r : Rq} (hw : ∀ o, lookK r.name w.f = some o → o.length ≤ 600) (hr : r.text.length ≤ 600) (s : WkS h0 M h i w R) (k : ∀ h', WkS h0 M h' i (moreW w r.name r.text).1 R → Q (reE (moreW w r.name r.text).2.1 (moreW w r.name r.text).2.2) h') : C fn_work_Work_more [.ptr i 0, rqE r] h Q := by
  obtain ⟨jf, js, xf, xs, mf, ms, s⟩ := s
  refine work_Work_more_ok _ _ _ _ ?_
  unfold work_Work_more
  (refine st_box s rfl fun p h1 s1 => ?_; refine st_new s1 fun q h2 s2 => ?_; (repeat (first | refine st_nil ?_ | refine st_fa ?_ | refine st_load1 ‹_› (by first | exact .head _ | exact .tail _ (.head _) | exact .tail _ (.tail _ (.head _))) rfl ?_)))
  refine st_lookS (s2.get (.tail _ (.tail _ (.tail _ (.head _))))) mf ?_
  unfold moreW at k
  cases hl : lookK r.name w.f with
  | none =>
    rw [hl] at k
    (repeat (first | refine st_ext rfl ?_ | refine st_not ?_))
    refine st_if (fun _ => ?_) (fun h => by cases h)
    (refine wNo_sp fun h3 f3 => ?_; refine st_store (s2.after f3) .head rfl rfl rfl (nle rfl) fun h4 s4 => ?_; refine st_loadA s4 (.head _) (nle rfl) ?_)
    exact k h4 ⟨_, _, _, _, mf, ms, s4.drop1.drop1⟩
  | some o =>
    rw [hl] at k
    have ho := hw o hl
    (repeat (first | refine st_fa ?_ | refine st_lenS ?_ | refine st_ext rfl ?_ | refine st_not ?_ | refine st_gtr ?_ | refine st_add (by omega) ?_ | refine st_load1 ‹_› (by first | exact .head _ | exact .tail _ (.head _)) rfl ?_))
    refine st_if (fun hb => ?_) (fun hb => ?_) <;> simp only [za, zb, zc, zd, ze, zf, zg, zh, zi, u8i, zj, zk, zl] at hb
    · have k := k
      simp only at k
      rw [if_pos (show 600 < o.length + r.text.length by omega)] at k
      (refine wNo_sp fun h3 f3 => ?_; refine st_store (s2.after f3) .head rfl rfl rfl (nle rfl) fun h4 s4 => ?_; refine st_loadA s4 (.head _) (nle rfl) ?_)
      exact k h4 ⟨_, _, _, _, mf, ms, s4.drop1.drop1⟩
    · simp only at k
      rw [if_neg (show ¬ 600 < o.length + r.text.length by omega)] at k
      (repeat (first | refine st_nil ?_ | refine st_fa ?_ | refine st_load1 ‹_› (by first | exact .head _ | exact .tail _ (.head _) | exact .tail _ (.tail _ (.head _))) rfl ?_))
      refine st_cat (by omega) ?_
      refine st_putS s2 (.tail _ (.tail _ (.tail _ (.head _)))) mf fun o' mf' st => ?_
      have s2 := st (.tail (.tail (.tail .head)))
      (refine wNo_sp fun h3 f3 => ?_; refine st_store (s2.after f3) .head rfl rfl rfl (nle rfl) fun h4 s4 => ?_; refine st_loadA s4 (.head _) (nle rfl) ?_)
      exact k h4 ⟨_, _, _, _, mf', ms, s4.drop1.drop1⟩
theorem wShow_sp {i : Nat} {w : WkM} {r : Rq} (s : WkS h0 M h i w R) (k : ∀ h', WkS h0 M h' i (showW w r.name).1 R → Q (reE (showW w r.name).2.1 (showW w r.name).2.2) h') : C fn_work_Work_show [.ptr i 0, rqE r] h Q := by
  obtain ⟨jf, js, xf, xs, mf, ms, s⟩ := s
  refine work_Work_show_ok _ _ _ _ ?_
  unfold work_Work_show
  (refine st_box s rfl fun p h1 s1 => ?_; refine st_new s1 fun q h2 s2 => ?_; (repeat (first | refine st_nil ?_ | refine st_fa ?_ | refine st_load1 ‹_› (by first | exact .head _ | exact .tail _ (.head _) | exact .tail _ (.tail _ (.head _))) rfl ?_)))
  refine st_lookS (s2.get (.tail _ (.tail _ (.tail _ (.head _))))) mf ?_
  unfold showW at k
  cases hl : lookK r.name w.f with
  | none =>
    rw [hl] at k
    (repeat (first | refine st_ext rfl ?_ | refine st_not ?_))
    refine st_if (fun _ => ?_) (fun h => by cases h)
    (refine wNo_sp fun h3 f3 => ?_; refine st_store (s2.after f3) .head rfl rfl rfl (nle rfl) fun h4 s4 => ?_; refine st_loadA s4 (.head _) (nle rfl) ?_)
    exact k h4 ⟨_, _, _, _, mf, ms, s4.drop1.drop1⟩
  | some o =>
    rw [hl] at k
    (repeat (first | refine st_ext rfl ?_ | refine st_not ?_ | refine st_build rfl ?_))
    refine st_store s2 .head rfl rfl rfl (nle rfl) fun h4 s4 => ?_
    refine st_loadA s4 (.head _) (nle rfl) ?_
    exact k h4 ⟨_, _, _, _, mf, ms, s4.drop1.drop1⟩
theorem wDefine_sp {i : Nat} {w : WkM} {r : Rq} (s : WkS h0 M h i w R) (k : ∀ h', WkS h0 M h' i (defW w r.name r.value).1 R → Q (reE (defW w r.name r.value).2.1 (defW w r.name r.value).2.2) h') : C fn_work_Work_define [.ptr i 0, rqE r] h Q := by
  obtain ⟨jf, js, xf, xs, mf, ms, s⟩ := s
  refine work_Work_define_ok _ _ _ _ ?_
  unfold work_Work_define
  (refine st_box s rfl fun p h1 s1 => ?_; refine st_new s1 fun q h2 s2 => ?_; (repeat (first | refine st_nil ?_ | refine st_fa ?_ | refine st_load1 ‹_› (by first | exact .head _ | exact .tail _ (.head _) | exact .tail _ (.tail _ (.head _))) rfl ?_)))
  refine st_lookS (s2.get (.tail _ (.tail _ (.tail _ (.tail _ (.head _)))))) ms ?_
  unfold defW at k
  (repeat (first | refine st_ext rfl ?_ | refine st_not ?_))
  have tail : ¬ (lookK r.name w.s = none ∧ 8 ≤ w.s.length) → qNil (.ptr i 0) fun t29 => qFieldAddr 1 t29 fun t30 => qLoad1 t30 h2 fun t31 => qFieldAddr 1 (.ptr p 0) fun t32 => qLoad1 t32 h2 fun t33 => qFieldAddr 3 (.ptr p 0) fun t34 => qLoad1 t34 h2 fun t35 => qMapUpdate .string t31 t33 t35 h2 fun h9 => C fn_work_no [(I 0)] h9 fun t36 h10 => qStore 4 (.ptr q 0) t36 h10 fun h11 => qLoadA 4 (.ptr q 0) h11 fun r12 => Q r12 h11 := fun hb => by
    rw [if_neg hb] at k
    (repeat (first | refine st_nil ?_ | refine st_fa ?_ | refine st_load1 ‹_› (by first | exact .head _ | exact .tail _ (.head _) | exact .tail _ (.tail _ (.head _))) rfl ?_))
    refine st_putS s2 (.tail _ (.tail _ (.tail _ (.tail _ (.head _))))) ms fun o' ms' st => ?_
    have s2 := st (.tail (.tail (.tail (.tail .head))))
    (refine wNo_sp fun h3 f3 => ?_; refine st_store (s2.after f3) .head rfl rfl rfl (nle rfl) fun h4 s4 => ?_; refine st_loadA s4 (.head _) (nle rfl) ?_)
    exact k h4 ⟨_, _, _, _, mf, ms', s4.drop1.drop1⟩
  refine st_if (fun hb => ?_) (fun hb => ?_) <;> simp only [za, zb, zc, zd, ze, zf, zg, zh, zi, u8i, zj, zk, zl] at hb
  · (repeat (first | refine st_nil ?_ | refine st_fa ?_ | refine st_load1 ‹_› (by first | exact .head _ | exact .tail _ (.tail _ (.head _))) rfl ?_))
    refine st_lenMS (s2.get (.tail _ (.tail _ (.tail _ (.tail _ (.head _)))))) ms ?_
    (repeat refine st_geq ?_)
    have hn : lookK r.name w.s = none := by simpa using hb
    refine st_if (fun hc => ?_) (fun hc => ?_) <;> simp only [za, zb, zc, zd, ze, zf, zg, zh, zi, u8i, zj, zk, zl] at hc
    · rw [if_pos ⟨hn, by omega⟩] at k
      (refine wNo_sp fun h3 f3 => ?_; refine st_store (s2.after f3) .head rfl rfl rfl (nle rfl) fun h4 s4 => ?_; refine st_loadA s4 (.head _) (nle rfl) ?_)
      exact k h4 ⟨_, _, _, _, mf, ms, s4.drop1.drop1⟩
    · exact tail fun h => by omega
  · exact tail fun h => by simp [h.1] at hb
theorem wUndef_sp {i : Nat} {w : WkM} {r : Rq} (s : WkS h0 M h i w R) (k : ∀ h', WkS h0 M h' i (undefW w r.name).1 R → Q (reE (undefW w r.name).2.1 (undefW w r.name).2.2) h') : C fn_work_Work_undef [.ptr i 0, rqE r] h Q := by
  obtain ⟨jf, js, xf, xs, mf, ms, s⟩ := s
  refine work_Work_undef_ok _ _ _ _ ?_
  unfold work_Work_undef
  (refine st_box s rfl fun p h1 s1 => ?_; refine st_new s1 fun q h2 s2 => ?_; (repeat (first | refine st_nil ?_ | refine st_fa ?_ | refine st_load1 ‹_› (by first | exact .head _ | exact .tail _ (.head _) | exact .tail _ (.tail _ (.head _))) rfl ?_)))
  refine st_lookS (s2.get (.tail _ (.tail _ (.tail _ (.tail _ (.head _)))))) ms ?_
  unfold undefW at k
  (repeat (first | refine st_ext rfl ?_ | refine st_not ?_))
  refine st_if (fun hb => ?_) (fun hb => ?_) <;> simp only [za, zb, zc, zd, ze, zf, zg, zh, zi, u8i, zj, zk, zl] at hb
  · have hn : lookK r.name w.s = none := by simpa using hb
    rw [if_pos hn] at k
    (refine wNo_sp fun h3 f3 => ?_; refine st_store (s2.after f3) .head rfl rfl rfl (nle rfl) fun h4 s4 => ?_; refine st_loadA s4 (.head _) (nle rfl) ?_)
    exact k h4 ⟨_, _, _, _, mf, ms, s4.drop1.drop1⟩
  · have hn : lookK r.name w.s ≠ none := by intro h; rw [h] at hb; cases hb
    rw [if_neg hn] at k
    (repeat (first | refine st_nil ?_ | refine st_fa ?_ | refine st_load1 ‹_› (by first | exact .head _ | exact .tail _ (.head _) | exact .tail _ (.tail _ (.head _))) rfl ?_))
    refine st_delS s2 (.tail _ (.tail _ (.tail _ (.tail _ (.head _))))) ms fun o' hz ms' st => ?_
    have s2 := st (.tail (.tail (.tail (.tail .head))))
    (refine wNo_sp fun h3 f3 => ?_; refine st_store (s2.after f3) .head rfl rfl rfl (nle rfl) fun h4 s4 => ?_; refine st_loadA s4 (.head _) (nle rfl) ?_)
    exact k h4 ⟨_, _, _, _, mf, ms', s4.drop1.drop1⟩
abbrev deedL : List AV := [(.fn (.func fn_work_Work_put) [] []), (.fn (.func fn_work_Work_del) [] []), (.fn (.func fn_work_Work_more) [] []), (.fn (.func fn_work_Work_show) [] []), (.fn (.func fn_work_Work_define) [] []), (.fn (.func fn_work_Work_undef) [] []), (.fn (.func fn_work_Work_build) [] [])]
theorem wDeed_sp {n : Nat} (hn : n < 7) (k : ∀ a, deedL[n]? = some a → Q a h) : C fn_work_deed [I ((n : Nat) + 1)] h Q := by
  refine work_deed_ok _ _ _ ?_
  unfold work_deed
  refine st_buildS rfl rfl ?_
  refine st_sub (by omega) ?_
  rw [show ((n : Nat) : Int) + 1 - 1 = ((n : Nat) : Int) by omega]
  refine (Row.full (h := h) (enc := fun x : AV => [x]) (sz := 1) (fun _ => rfl) deedL).idx (fun _ => rfl) (show n < deedL.length from hn) fun p t => ?_
  refine st_pload1 t ?_
  exact k _ (List.getElem?_eq_getElem _)
structure WkOk (w : WkM) : Prop where
  txt : ∀ x ∈ w.f, x.2.length ≤ 600
  fn : w.f.length ≤ 8
  sn : w.s.length ≤ 8
  fw : ∀ x ∈ w.f, isWord x.1 = true
  sw : ∀ x ∈ w.s, isWord x.1 = true
  sv : ∀ x ∈ w.s, -1099511627776 ≤ x.2 ∧ x.2 ≤ 1099511627776
theorem wDo_sp {i : Nat} {w : WkM} {r : Rq} (hw : WkOk w) (hn : r.name.length < 4611686018427387904) (h7 : r.kind ≠ 7) (s : WkS h0 M h i w R) (sf : SoK w.f) (k : ∀ h', WkS h0 M h' i (doW w r).1 R → Q (reE (doW w r).2.1 (doW w r).2.2) h') : C fn_work_Work_Do [.ptr i 0, rqE r] h Q := by
  obtain ⟨jf, js, xf, xs, mf, ms, s⟩ := s
  refine work_Work_Do_ok _ _ _ _ ?_
  unfold work_Work_Do
  (refine st_box s rfl fun p h1 s1 => ?_; refine st_new s1 fun q h2 s2 => ?_; (repeat refine st_loadA ‹_› (by first | exact .head _ | exact .tail _ (.head _)) (nle rfl) ?_))
  refine wRight_sp r hn fun h3 f3 => ?_
  have s3 := s2.after f3
  unfold doW at k
  (repeat refine st_not ?_)
  refine st_if (fun hr => ?_) (fun hr => ?_) <;> simp only [za, zb, zc, zd, ze, zf, zg, zh, zi, u8i, zj, zk, zl] at hr
  · rw [if_pos hr] at k
    refine wNo_sp fun h4 f4 => ?_
    refine st_store (s3.after f4) .head rfl rfl rfl (nle rfl) fun h5 s5 => ?_
    refine st_loadA s5 (.head _) (nle rfl) ?_
    exact k h5 ⟨_, _, _, _, mf, ms, s5.drop1.drop1⟩
  · rw [if_neg (by rw [hr]; simp)] at k
    (repeat (first | refine st_fa ?_ | refine st_load1 ‹_› (by first | exact .head _ | exact .tail _ (.head _)) rfl ?_ | refine st_loadA ‹_› (by first | exact .head _ | exact .tail _ (.head _)) (nle rfl) ?_))
    have hk : 1 ≤ r.kind ∧ r.kind ≤ 6 ∧ r.text.length ≤ 600 := by
      unfold rightM at hr
      by_cases h1 : r.kind < 1 ∨ 7 < r.kind
      · rw [if_pos h1] at hr; cases hr
      · rw [if_neg h1, if_neg h7] at hr
        simp only [Bool.and_eq_true, decide_eq_true_eq] at hr
        exact ⟨by omega, by omega, hr.2.1⟩
    obtain ⟨n, hn⟩ := Int.eq_ofNat_of_zero_le (show 0 ≤ r.kind - 1 by omega)
    have hkn : r.kind = (n : Nat) + 1 := by omega
    rw [hkn]
    refine wDeed_sp (show n < 7 by omega) fun a ha => ?_
    refine ⟨st_loadA s3 (.tail _ (.head _)) (nle rfl) rfl, ?_⟩
    have fin : ∀ {e : WkM × Int × Str}, (∀ h', WkS h0 M h' i e.1 R → Q (reE e.2.1 e.2.2) h') → ∀ h4, WkS h0 M h4 i e.1 ((q, true, .cells [I 0, S ⟨#[]⟩, .full 0 [], .full 0 []]) :: (p, true, .cells (AV.cells (rqE r))) :: R) → qStore 4 (.ptr q 0) (reE e.2.1 e.2.2) h4 fun h8 => qLoadA 4 (.ptr q 0) h8 fun r9 => Q r9 h8 := fun k h4 s4 => by
      obtain ⟨jf, js, xf, xs, mf, ms, s4⟩ := s4
      refine st_store (o := 0) s4 (.tail (.tail (.tail .head))) rfl rfl rfl (nle rfl) fun h5 s5 => ?_
      refine st_loadA s5 (.tail _ (.tail _ (.tail _ (.head _)))) (nle rfl) ?_
      exact k h5 ⟨_, _, _, _, mf, ms, s5.sub (by exact ((((List.Sublist.refl _).cons _).cons _).cons_cons _).cons_cons _ |>.cons_cons _)⟩
    have s4 : WkS h0 M h3 i w ((q, true, .cells [I 0, S ⟨#[]⟩, .full 0 [], .full 0 []]) :: (p, true, .cells (AV.cells (rqE r))) :: R) := ⟨jf, js, xf, xs, mf, ms, s3.perm (by
      refine (List.perm_append_comm (l₁ := [(q, true, AObj.cells [I 0, S ⟨#[]⟩, .full 0 [], .full 0 []]), (p, true, .cells (AV.cells (rqE r)))]) (l₂ := [(i, true, AObj.cells [AV.map jf, AV.map js]), (jf, true, xf), (js, true, xs)])).append_right R)⟩
    unfold deedW at k
    have hc : n = 0 ∨ n = 1 ∨ n = 2 ∨ n = 3 ∨ n = 4 ∨ n = 5 := by omega
    rcases hc with h | h | h | h | h | h <;> subst h <;> cases ha
    · rw [if_pos (by omega)] at k; exact wPut_sp s4 (fin k)
    · rw [if_neg (by omega), if_pos (by omega)] at k; exact wDel_sp s4 (fin k)
    · rw [if_neg (by omega), if_neg (by omega), if_pos (by omega)] at k
      exact wMore_sp (fun o ho => hw.txt _ ((lookK_mem sf.nd).1 ho)) hk.2.2 s4 (fin k)
    · rw [if_neg (by omega), if_neg (by omega), if_neg (by omega), if_pos (by omega)] at k; exact wShow_sp s4 (fin k)
    · rw [if_neg (by omega), if_neg (by omega), if_neg (by omega), if_neg (by omega), if_pos (by omega)] at k; exact wDefine_sp s4 (fin k)
    · rw [if_neg (by omega), if_neg (by omega), if_neg (by omega), if_neg (by omega), if_neg (by omega)] at k; exact wUndef_sp s4 (fin k)
end
end
end
section
noncomputable section
section
variable [Tabs]
variable {h0 h : AHeap} {M : List Nat} {L R : Own} {K : AV → Prop} {Q : QT}
abbrev nmE : Str → List AV := fun x => [T x]
structure KSOk : Prop where
  k1 : ∃ tm, KeysIs Pg fn_maps_Keys_map_stringstring_string_string fn_maps_Keys_map_stringstring_string_string_1 tm
  s1 : ∃ ks, SortedIs Pg fn_slices_Sorted_string fn_maps_Keys_map_stringstring_string_string_1 ks
  k2 : ∃ tm, KeysIs Pg fn_maps_Keys_map_stringint_string_int fn_maps_Keys_map_stringint_string_int_1 tm
  s2 : ∃ ks, SortedIs Pg fn_slices_Sorted_string fn_maps_Keys_map_stringint_string_int_1 ks
theorem eachKeys {α : Type} {enc : α → AV} {l : KL α} {f g f' : FuncId} {tm ks : TypeId} (hK : KeysIs Pg f g tm) (hS : SortedIs Pg f' g ks) {j : Nat} {b : Bool} {o : AObj} (s : St h0 M h L) (e : (j, b, o) ∈ L) (m : MapS enc l o) (hl : l.length ≤ 1000000) (hk : ∀ x ∈ l, x.1.length ≤ 1000000)
    {K2 : QT} (k : ∀ v E h', AccE 1 v (l.map (·.1)).length ((l.map (·.1)).flatMap nmE) E → St h0 M h' (E ++ L) → K2 v h') : C f [.map j] h fun t9 h1 => C f' [t9] h1 fun t10 h2 => K2 t10 h2 := by
  refine keys_sp hK (s.get e) ?_
  have s1 := s.push (.keys j)
  refine sorted_sp hS (s1.get (.head _)) (s1.get (.tail _ e)) m hl hk (fun h0 => ?_) fun h0 => ?_
  · subst h0
    exact k _ [] _ (.none 1) s1.drop1
  · have s2 := s1.push (.cells (l.map fun x => strAV x.1))
    refine k _ [((h ++ [AObj.keys j]).length, true, .cells (l.map fun x : List UInt8 × α => strAV x.1))] _ (.inr ⟨by simp [flat_len nmE 1 (fun _ => rfl)], _, by rw [List.length_map], ?_⟩) (s2.sub (((List.Sublist.refl _).cons _).cons_cons _))
    have : (l.map fun x => strAV x.1) = (l.map (·.1)).flatMap nmE := by
      rw [List.flatMap_map]
      induction l with
      | nil => rfl
      | cons a l ih => simp only [List.map_cons, List.flatMap_cons, List.singleton_append]; congr 1; exact List.map_eq_flatMap
    rw [this]
theorem AccE.row {α : Type} {enc : α → List AV} {sz : Nat} {v : AV} {l : List α} {E : Own} (a : AccE sz v l.length (l.flatMap enc) E) (s : St h0 M h (E ++ L)) : Row enc sz h v l := a.rd s
theorem clone_api_Frag_sp {n : Nat} {cs : List AV} (hb : n * 32 ≤ 1099511627776) {v : AV} {h : AHeap} (r : Rd h 2 v n cs) {Q : QT} (k : ∀ h', Fr [] h h' → Q (.snap n cs) h') : C fn_slices_Clone__api_Frag_api_Frag [v] h Q := by
  refine ACall.conv ?_
  refine slices_Clone__api_Frag_api_Frag_ok _ _ _ ?_
  unfold slices_Clone__api_Frag_api_Frag
  have hl := r.len
  refine st_isNilS r (fun h0 => ?_) ?_
  · refine st_if (fun _ => ?_) (fun hb => by cases hb)
    subst h0
    have : cs = [] := by simpa using hl
    subst this
    exact conv_full (k _ (Fr.refl _ _))
  · refine st_if (fun hb => by cases hb) (fun _ => ?_)
    refine st_buildS rfl rfl ?_
    refine st_app0 (St.start h) r hb (fun h0 => ?_) fun i h1 hn s => ?_
    · subst h0
      have : cs = [] := by simpa using hl
      subst this
      exact conv_full (k _ (Fr.refl _ _))
    · exact conv_sl (s.get (.head _)) hl (k _ (s.kill .head).fr)
theorem wOneFrag_sp (p : AV) (a : Str) (b : Str) (k : ∀ h', Fr [] h h' → Q (.agg [T a, T b]) h') : C fn_work_Work_frag [p, T a, T b] h Q := by
  refine work_Work_frag_ok _ _ _ _ _ ?_
  unfold work_Work_frag
  refine st_new (St.start h) fun i h1 s1 => ?_
  refine st_build rfl ?_
  refine st_store s1 .head rfl rfl rfl (nle rfl) fun h2 s2 => ?_
  refine st_loadA s2 (.head _) (nle rfl) ?_
  exact k h2 s2.fr
theorem wEachFrag_sp (hks : KSOk) {l : KL Str} {j : Nat} {b : Bool} {o : AObj} (p : AV) (s : St h0 M h L) (e : (j, b, o) ∈ L) (m : MapS T l o) (hl : l.length ≤ 1000000) (hk : ∀ x ∈ l, x.1.length ≤ 1000000) (k : ∀ h', St h0 M h' L → Q (.snap l.length (l.flatMap (fun x : Str × Str => [T x.1, T x.2]))) h') : C fn_work_each_api_Frag_string [.map j, .fn (.func fn_work_Work_frag) [p] []] h Q := by
  refine work_each_api_Frag_string_ok _ _ _ _ ?_
  unfold work_each_api_Frag_string
  obtain ⟨tm, hK⟩ := hks.k1
  obtain ⟨ks, hS⟩ := hks.s1
  refine eachKeys hK hS s e m hl hk fun v EK h1 av s1 => ?_
  refine (av.row s1).len ?_
  rw [List.length_map]
  refine st_loop (fun n vs h' => ∃ (q : Nat) (a : AV) (E : Own), vs = [a, I (q : Nat)] ∧ n + q = l.length ∧ AccE 2 a q ((l.take q).flatMap (fun x : Str × Str => [T x.1, T x.2])) E ∧ St h0 M h' (E ++ (EK ++ L))) l.length ⟨0, .full 0 [], [], rfl, by omega, by rw [List.take_zero]; exact .none 2, s1⟩ ?_
  rintro n vs h2 ⟨q, a, E, rfl, hn, ha, s2⟩
  unfold work_each_api_Frag_string_l6
  refine st_lss ?_
  refine st_if (fun hq => ?_) (fun hq => ?_) <;> simp only [za, zb, zc, zd, ze, zf, zg, zh, zi, u8i, zj, zk, zl] at hq
  · have hq : q < l.length := hq
    refine (av.row s2.swap).idx (fun _ => rfl) (j := q) (by simpa using hq) fun pp t => ?_
    refine st_pload1 t ?_
    have hx : (l.map (·.1))[q]'(by simpa using hq) = l[q].1 := List.getElem_map _
    rw [hx]
    have m' := m
    obtain ⟨es, n', rfl, mr⟩ := m'
    refine st_lookS0 (s2.get (List.mem_append_right _ (List.mem_append_right _ e))) m ?_
    have hlk : lookK l[q].1 l = some l[q].2 := (lookK_mem mr.so.nd).2 (List.getElem_mem _)
    rw [hlk]
    show ACall Pg fn_work_Work_frag [p, T l[q].1, T l[q].2] h2 _
    refine wOneFrag_sp p _ _ fun h3 f3 => ?_
    refine st_buildS rfl rfl ?_
    have s3 := s2.after f3
    refine ha.app (m := 1) (xs := [T l[q].1, T l[q].2]) s3 (Rd.full rfl) rfl (by omega) fun a' E' h4 ha' s4 => ?_
    refine st_add (by omega) ?_
    refine ⟨n - 1, by omega, q + 1, a', E', rfl, by omega, ?_, s4⟩
    rw [List.take_succ_eq_append_getElem hq, List.flatMap_append]; exact ha'
  · have hql : l.take q = l := List.take_of_length_le (by omega)
    rw [hql] at ha
    have : q = l.length := by omega
    subst this
    refine clone_api_Frag_sp (by omega) (ha.rd s2) fun h3 f3 => ?_
    exact k h3 ((av.rest (ha.rest s2)).after f3)
theorem wFrags_sp (hks : KSOk) {i : Nat} {w : WkM} (hl : w.f.length ≤ 1000000) (hk : ∀ x ∈ w.f, x.1.length ≤ 1000000) (s : WkS h0 M h i w R) (k : ∀ h', WkS h0 M h' i w R → Q (.snap w.f.length (w.f.flatMap (fun x : Str × Str => [T x.1, T x.2]))) h') : C fn_work_Work_Frags [.ptr i 0] h Q := by
  obtain ⟨jf, js, xf, xs, mf, ms, s⟩ := s
  refine work_Work_Frags_ok _ _ _ ?_
  unfold work_Work_Frags
  (repeat (first | refine st_nil ?_ | refine st_fa ?_ | refine st_load1 ‹_› (.head _) rfl ?_))
  refine wEachFrag_sp hks _ s (.tail _ (.head _)) mf hl hk fun h' s' => ?_
  exact k h' ⟨jf, js, xf, xs, mf, ms, s'⟩
theorem wOneSym_sp (p : AV) (a : Str) (b : Int) (k : ∀ h', Fr [] h h' → Q (.agg [T a, I b]) h') : C fn_work_Work_sym [p, T a, I b] h Q := by
  refine work_Work_sym_ok _ _ _ _ _ ?_
  unfold work_Work_sym
  refine st_new (St.start h) fun i h1 s1 => ?_
  refine st_build rfl ?_
  refine st_store s1 .head rfl rfl rfl (nle rfl) fun h2 s2 => ?_
  refine st_loadA s2 (.head _) (nle rfl) ?_
  exact k h2 s2.fr
theorem wEachSym_sp (hks : KSOk) {l : KL Int} {j : Nat} {b : Bool} {o : AObj} (p : AV) (s : St h0 M h L) (e : (j, b, o) ∈ L) (m : MapS I l o) (hl : l.length ≤ 1000000) (hk : ∀ x ∈ l, x.1.length ≤ 1000000) (k : ∀ h', St h0 M h' L → Q (.snap l.length (l.flatMap (fun x : Str × Int => [T x.1, I x.2]))) h') : C fn_work_each_api_Sym_int [.map j, .fn (.func fn_work_Work_sym) [p] []] h Q := by
  refine work_each_api_Sym_int_ok _ _ _ _ ?_
  unfold work_each_api_Sym_int
  obtain ⟨tm, hK⟩ := hks.k2
  obtain ⟨ks, hS⟩ := hks.s2
  refine eachKeys hK hS s e m hl hk fun v EK h1 av s1 => ?_
  refine (av.row s1).len ?_
  rw [List.length_map]
  refine st_loop (fun n vs h' => ∃ (q : Nat) (a : AV) (E : Own), vs = [a, I (q : Nat)] ∧ n + q = l.length ∧ AccE 2 a q ((l.take q).flatMap (fun x : Str × Int => [T x.1, I x.2])) E ∧ St h0 M h' (E ++ (EK ++ L))) l.length ⟨0, .full 0 [], [], rfl, by omega, by rw [List.take_zero]; exact .none 2, s1⟩ ?_
  rintro n vs h2 ⟨q, a, E, rfl, hn, ha, s2⟩
  unfold work_each_api_Sym_int_l6
  refine st_lss ?_
  refine st_if (fun hq => ?_) (fun hq => ?_) <;> simp only [za, zb, zc, zd, ze, zf, zg, zh, zi, u8i, zj, zk, zl] at hq
  · have hq : q < l.length := hq
    refine (av.row s2.swap).idx (fun _ => rfl) (j := q) (by simpa using hq) fun pp t => ?_
    refine st_pload1 t ?_
    have hx : (l.map (·.1))[q]'(by simpa using hq) = l[q].1 := List.getElem_map _
    rw [hx]
    have m' := m
    obtain ⟨es, n', rfl, mr⟩ := m'
    refine st_lookS0 (s2.get (List.mem_append_right _ (List.mem_append_right _ e))) m ?_
    have hlk : lookK l[q].1 l = some l[q].2 := (lookK_mem mr.so.nd).2 (List.getElem_mem _)
    rw [hlk]
    show ACall Pg fn_work_Work_sym [p, T l[q].1, I l[q].2] h2 _
    refine wOneSym_sp p _ _ fun h3 f3 => ?_
    refine st_buildS rfl rfl ?_
    have s3 := s2.after f3
    refine ha.app (m := 1) (xs := [T l[q].1, I l[q].2]) s3 (Rd.full rfl) rfl (by omega) fun a' E' h4 ha' s4 => ?_
    refine st_add (by omega) ?_
    refine ⟨n - 1, by omega, q + 1, a', E', rfl, by omega, ?_, s4⟩
    rw [List.take_succ_eq_append_getElem hq, List.flatMap_append]; exact ha'
  · have hql : l.take q = l := List.take_of_length_le (by omega)
    rw [hql] at ha
    have : q = l.length := by omega
    subst this
    refine clone_api_Sym_sp (by omega) (ha.rd s2) fun h3 f3 => ?_
    exact k h3 ((av.rest (ha.rest s2)).after f3)
theorem wSyms_sp (hks : KSOk) {i : Nat} {w : WkM} (hl : w.s.length ≤ 1000000) (hk : ∀ x ∈ w.s, x.1.length ≤ 1000000) (s : WkS h0 M h i w R) (k : ∀ h', WkS h0 M h' i w R → Q (.snap w.s.length (w.s.flatMap (fun x : Str × Int => [T x.1, I x.2]))) h') : C fn_work_Work_Syms [.ptr i 0] h Q := by
  obtain ⟨jf, js, xf, xs, mf, ms, s⟩ := s
  refine work_Work_Syms_ok _ _ _ ?_
  unfold work_Work_Syms
  (repeat (first | refine st_nil ?_ | refine st_fa ?_ | refine st_load1 ‹_› (.head _) rfl ?_))
  refine wEachSym_sp hks _ s (.tail _ (.tail _ (.head _))) ms hl hk fun h' s' => ?_
  exact k h' ⟨jf, js, xf, xs, mf, ms, s'⟩
end
end
end
section
noncomputable section
theorem insK_len {α : Type} {k : List UInt8} {v : α} : ∀ {l : KL α}, SoK l → (insK k v l).length = if lookK k l = none then l.length + 1 else l.length
  | [], _ => by simp [insK, lookK]
  | (a, w) :: r, s => by
    obtain ⟨s1, s2⟩ := List.pairwise_cons.1 s
    unfold insK lookK
    by_cases h : k = a
    · simp [h]
    · rw [if_neg h, if_neg h]
      split
      · rename_i h1
        have : lookK k r = none := lookK_none.2 fun x hx e => lt_ne (List.lt_trans h1 (s1 x hx)) e.symm
        simp [this]
      · rw [List.length_cons, insK_len s2]; split <;> simp
theorem delK_len {α : Type} {k : List UInt8} {l : KL α} : (delK k l).length ≤ l.length := List.length_filter_le _ _
theorem rightM_ok {r : Rq} (h : rightM r = true) (h7 : r.kind ≠ 7) : isWord r.name = true ∧ r.text.length ≤ 600 ∧ -1099511627776 ≤ r.value ∧ r.value ≤ 1099511627776 := by
  unfold rightM at h
  by_cases h1 : r.kind < 1 ∨ 7 < r.kind
  · rw [if_pos h1] at h; cases h
  · rw [if_neg h1, if_neg h7] at h
    simp only [Bool.and_eq_true, decide_eq_true_eq] at h
    exact ⟨h.1, h.2.1, h.2.2.2.1.1, h.2.2.2.1.2⟩
structure WkSo (w : WkM) : Prop where
  f : SoK w.f
  s : SoK w.s
theorem WkSo.nil : WkSo ⟨[], []⟩ := ⟨List.Pairwise.nil, List.Pairwise.nil⟩
theorem WkOk.nil : WkOk ⟨[], []⟩ := ⟨by simp, by simp, by simp, by simp, by simp, by simp⟩
theorem WkSo.doW {w : WkM} (o : WkSo w) (r : Rq) : WkSo (doW w r).1 := by
  unfold AL.doW deedW putW delW moreW showW defW undefW
  repeat' split
  all_goals first | exact o | exact ⟨insK_so o.f, o.s⟩ | exact ⟨delK_so o.f, o.s⟩ | exact ⟨o.f, insK_so o.s⟩ | exact ⟨o.f, delK_so o.s⟩
theorem WkOk.doW {w : WkM} (o : WkOk w) (so : WkSo w) {r : Rq} (h7 : r.kind ≠ 7) : WkOk (doW w r).1 := by
  unfold AL.doW
  split
  · exact o
  rename_i hr
  obtain ⟨r1, r2, r3, r4⟩ := rightM_ok (by simpa using hr) h7
  have hdf : ∀ k, WkOk ⟨delK k w.f, w.s⟩ := fun k => ⟨fun x hx => o.txt x ((delK_mem x).1 hx).1, Nat.le_trans delK_len o.fn, o.sn, fun x hx => o.fw x ((delK_mem x).1 hx).1, o.sw, o.sv⟩
  have hds : ∀ k, WkOk ⟨w.f, delK k w.s⟩ := fun k => ⟨o.txt, o.fn, Nat.le_trans delK_len o.sn, o.fw, fun x hx => o.sw x ((delK_mem x).1 hx).1, fun x hx => o.sv x ((delK_mem x).1 hx).1⟩
  have hif : ∀ t : Str, t.length ≤ 600 → ¬ (lookK r.name w.f = none ∧ 8 ≤ w.f.length) → WkOk ⟨insK r.name t w.f, w.s⟩ := fun t ht hc => ⟨fun x hx => by
      rcases (insK_mem so.f x).1 hx with rfl | ⟨h, _⟩
      · exact ht
      · exact o.txt x h, by have := o.fn; show (insK r.name t w.f).length ≤ 8; rw [insK_len so.f]; split; exact (by rename_i hh; have : ¬ 8 ≤ w.f.length := fun e => hc ⟨hh, e⟩; omega); exact o.fn, o.sn, fun x hx => by
      rcases (insK_mem so.f x).1 hx with rfl | ⟨h, _⟩
      · exact r1
      · exact o.fw x h, o.sw, o.sv⟩
  have his : ¬ (lookK r.name w.s = none ∧ 8 ≤ w.s.length) → WkOk ⟨w.f, insK r.name r.value w.s⟩ := fun hc => ⟨o.txt, o.fn, by have := o.sn; show (insK r.name r.value w.s).length ≤ 8; rw [insK_len so.s]; split; exact (by rename_i hh; have : ¬ 8 ≤ w.s.length := fun e => hc ⟨hh, e⟩; omega); exact o.sn, o.fw, fun x hx => by
      rcases (insK_mem so.s x).1 hx with rfl | ⟨h, _⟩
      · exact r1
      · exact o.sw x h, fun x hx => by
      rcases (insK_mem so.s x).1 hx with rfl | ⟨h, _⟩
      · exact ⟨r3, r4⟩
      · exact o.sv x h⟩
  unfold deedW
  split
  · unfold putW; split
    · exact o
    · exact hif _ r2 ‹_›
  split
  · unfold delW; split
    · exact o
    · exact hdf _
  split
  · unfold moreW; split
    · exact o
    · split
      · exact o
      · rename_i hl hc
        exact hif _ (by simp; omega) fun h => by rw [h.1] at hl; cases hl
  split
  · unfold showW; split <;> exact o
  split
  · unfold defW; split
    · exact o
    · exact his ‹_›
  · unfold undefW; split
    · exact o
    · exact hds _
section
variable [Tabs]
variable {h0 h : AHeap} {M : List Nat} {L R R' : Own} {K : AV → Prop} {KH : QT} {KS' : AHeap → Prop} {Q : QT} {i : Nat} {w : WkM}
theorem WkS.so (s : WkS h0 M h i w R) : WkSo w := by
  obtain ⟨jf, js, xf, xs, ⟨_, _, _, mf⟩, ⟨_, _, _, ms⟩, s⟩ := s
  exact ⟨mf.so, ms.so⟩
theorem WkS.rest (s : WkS h0 M h i w R) : St h0 M h R := by
  obtain ⟨jf, js, xf, xs, mf, ms, s⟩ := s
  exact s.drop1.drop1.drop1
theorem ws_store {p o n : Nat} {cs : List AV} {u : AV} (s : WkS h0 M h i w R) (e : Sub R (p, true, .cells cs) R' (p, true, .cells (splice cs o u.cells))) (e1 : u.isTup = false) (e2 : u.cells.length = n) (e3 : u.cells.all AV.one = true) (e4 : o + n ≤ cs.length)
    (k : ∀ h', WkS h0 M h' i w R' → KS' h') : qStore n (.ptr p o) u h KS' := by
  obtain ⟨jf, js, xf, xs, mf, ms, s⟩ := s
  exact st_store s (.tail (.tail (.tail e))) e1 e2 e3 e4 fun h' s' => k h' ⟨jf, js, xf, xs, mf, ms, s'⟩
theorem ws_loadA {p o n : Nat} {b : Bool} {cs : List AV} (s : WkS h0 M h i w R) (e : (p, b, .cells cs) ∈ R) (e2 : o + n ≤ cs.length) (k : K (.agg ((cs.drop o).take n))) : qLoadA n (.ptr p o) h K := st_loadA s.rest e e2 k
theorem WkS.after (s : WkS h0 M h i w R) {h' : AHeap} (f : Fr [] h h') : WkS h0 M h' i w R := by
  obtain ⟨jf, js, xf, xs, mf, ms, s⟩ := s
  exact ⟨jf, js, xf, xs, mf, ms, s.after f⟩
theorem st_ptrNo {p o : Nat} (k : K (B false)) : qBinP .eql (.ptr p o) (.lit (.pointer none)) K := ⟨k⟩
theorem mod_cases {a n : Int} (ha : -9223372036854775808 ≤ a ∧ a ≤ 9223372036854775807) (hn : 0 < n) : (a.tmod n = a % n ∧ 0 ≤ a.tmod n) ∨ (a.tmod n = a % n - n ∧ a.tmod n < 0) := by
  have h0 := Int.emod_nonneg a (show n ≠ 0 by omega)
  have h4 := Int.emod_lt_of_pos a hn
  rw [Int.tmod_eq_emod]
  have hab : (n.natAbs : Int) = n := by omega
  split
  · exact .inl ⟨by omega, by omega⟩
  · right; rw [hab]; exact ⟨rfl, by omega⟩
theorem law9_within_sp {a n : Int} (hn : 0 < n) (hn2 : n ≤ 1000000000000000000) (ha : -9223372036854775808 ≤ a ∧ a ≤ 9223372036854775807) (k : Q (I (a % n)) h) : C fn_law9_within [I a, I n] h Q := by
  refine law9_within_ok _ _ _ _ ?_
  unfold law9_within
  refine st_rem (by omega) ?_
  have h0 := Int.emod_nonneg a (show n ≠ 0 by omega)
  have h4 := Int.emod_lt_of_pos a hn
  have h3 := mod_cases ha hn
  refine st_lss ?_
  refine st_if (fun hb => ?_) (fun hb => ?_) <;> simp only [za, zb, zc, zd, ze, zf, zg, zh, zi, u8i, zj, zk, zl] at hb
  · refine st_add (by omega) ?_
    rw [show a.tmod n + n = a % n by omega]
    exact k
  · rw [← show a.tmod n = a % n by omega] at k
    exact k
def names9 : List Str := [[109, 97, 105, 110], [97], [98, 49], [120], [108, 105, 98], [101, 110, 100], [99], [100], [101], [102], [98, 97, 115, 101], [107]]
def name9 (n : Int) : Str := names9[(n % 12).toNat]?.getD []
theorem name9_get {n : Int} : ∃ h : (n % 12).toNat < names9.length, name9 n = names9[(n % 12).toNat] := by
  have h1 := Int.emod_nonneg n (show (12 : Int) ≠ 0 by decide)
  have h2 := Int.emod_lt_of_pos n (show (0 : Int) < 12 by decide)
  have h : (n % 12).toNat < names9.length := by show _ < 12; omega
  exact ⟨h, by unfold name9; rw [List.getElem?_eq_getElem h]; rfl⟩
theorem name9_word (n : Int) : isWord (name9 n) = true ∧ (name9 n).length ≤ 4 := by
  obtain ⟨h, e⟩ := name9_get (n := n)
  rw [e]
  have : ∀ x ∈ names9, isWord x = true ∧ x.length ≤ 4 := by decide
  exact this _ (List.getElem_mem _)
theorem law9_Name_sp {n : Int} (hn : -9223372036854775808 ≤ n ∧ n ≤ 9223372036854775807) (k : Q (T (name9 n)) h) : C fn_law9_Name [I n] h Q := by
  refine law9_Name_ok _ _ _ ?_
  unfold law9_Name
  refine st_buildS rfl rfl ?_
  refine law9_within_sp (by decide) (by decide) hn ?_
  obtain ⟨hh, e⟩ := name9_get (n := n)
  rw [e] at k
  have h1 := Int.emod_nonneg n (show (12 : Int) ≠ 0 by decide)
  have h3 : n % 12 = (((n % 12).toNat : Nat) : Int) := by omega
  rw [h3]
  refine (Row.full (h := h) (enc := nmE) (sz := 1) (fun _ => rfl) names9).idx (fun _ => rfl) hh fun p t => ?_
  exact st_pload1 t k
def Known9 : Prop := ∀ (h : AHeap) (Q : QT), Q (B true) h → C fn_law9_known [] h Q
end
end
end
section
noncomputable section
theorem known_run [Tabs] : runG Pg tb5 spK 100 fn_law9_known [] .leaf 0 (fun r t _ => chkR (B true) r t) = true := by kernel_rfl
theorem known9 [Tabs5] : Known9 := fun h Q q => closed_call Tabs5.tb spK_ok (d := 100) (B true) rfl rfl known_run q
end
end
section
noncomputable section
theorem ksOk [Tabs] : KSOk := ⟨⟨_, keysIs40⟩, ⟨_, sortedIs40⟩, ⟨_, keysIs42⟩, ⟨_, sortedIs42⟩⟩
end
end
section
noncomputable section
variable [Tabs]
structure Ar where
  reg : Int
  e : Ex
  deriving DecidableEq
def arE (a : Ar) : List AV := I a.reg :: encE a.e
structure RS where
  lab : Str
  kind : Nat
  op : Nat
  text : Str
  args : List Ar
abbrev rdO (rs : RS) (v : AV) : AObj := .cells [I 1, T rs.lab, I (rs.kind : Nat), I (rs.op : Nat), T rs.text, v]
def RSt (h0 h : AHeap) (i : Nat) (rs : RS) : Prop := ∃ v E, AccE 5 v rs.args.length (rs.args.flatMap arE) E ∧ St h0 [] h (E ++ [(i, true, rdO rs v)])
theorem RSt.call {h0 h h' : AHeap} {i : Nat} {rs : RS} (r : RSt h0 h i rs) (f : Fr [] h h') : RSt h0 h' i rs := by
  obtain ⟨v, E, a, s⟩ := r
  exact ⟨v, E, a, s.call f⟩
theorem AccE.mem {sz n i : Nat} {v : AV} {cs : List AV} {E : Own} {x : Nat × Bool × AObj} : x ∈ E ++ [x] := by simp
section
variable {h0 h : AHeap} {Q : QT} {i : Nat}
theorem RSt.put {rs rs' : RS} (r : RSt h0 h i rs) {o : Nat} {u : AV} {K : AHeap → Prop} (hu : u.isTup = false) (hc : u.cells.length = 1) (h1 : u.cells.all AV.one = true) (ho : o + 1 ≤ 6) (ha : rs'.args = rs.args)
    (he : ∀ v, splice [I 1, T rs.lab, I (rs.kind : Nat), I (rs.op : Nat), T rs.text, v] o u.cells = [I 1, T rs'.lab, I (rs'.kind : Nat), I (rs'.op : Nat), T rs'.text, v]) (k : ∀ h', RSt h0 h' i rs' → K h') : qStore 1 (.ptr i o) u h K := by
  obtain ⟨v, E, a, s⟩ := r
  rcases a with ⟨a1, a2, rfl, rfl⟩ | ⟨a1, j, rfl, rfl⟩
  · refine st_store s (L' := [(i, true, rdO rs' (.full 0 []))]) (cs := [I 1, T rs.lab, I (rs.kind : Nat), I (rs.op : Nat), T rs.text, .full 0 []]) (by rw [he]; exact .head) hu hc h1 ho fun h' s' => ?_
    exact k h' ⟨_, [], .inl ⟨by rw [ha]; exact a1, by rw [ha]; exact a2, rfl, rfl⟩, s'⟩
  · refine st_store s (L' := [(j, true, .cells (rs.args.flatMap arE)), (i, true, rdO rs' (.sl j 0 rs.args.length 5))]) (cs := [I 1, T rs.lab, I (rs.kind : Nat), I (rs.op : Nat), T rs.text, .sl j 0 rs.args.length 5]) (by rw [he]; exact .tail .head) hu hc h1 ho fun h' s' => ?_
    exact k h' ⟨_, _, .inr ⟨by rw [ha]; exact a1, j, by rw [ha], rfl⟩, by rw [ha]; exact s'⟩
theorem RSt.load {rs : RS} (r : RSt h0 h i rs) {o : Nat} {a : AV} {K : AV → Prop} (ho : ∀ v, [I 1, T rs.lab, I (rs.kind : Nat), I (rs.op : Nat), T rs.text, v][o]? = some a) (k : K a) : qLoad1 (.ptr i o) h K := by
  obtain ⟨v, E, a, s⟩ := r
  exact st_load1 s (List.mem_append_right _ (.head _)) (ho v) k
inductive Way where
  | value
  | reg
  | word
end
end
end
section
noncomputable section
variable [Tabs]
section
variable {h0 h : AHeap} {M : List Nat} {L L' : Own} {Q : QT} {i : Nat}
theorem AccE.own {sz n : Nat} {v : AV} {cs : List AV} {E : Own} (a : AccE sz v n cs E) : ∀ e ∈ E, e.2.1 = true := by
  rcases a with ⟨_, _, _, rfl⟩ | ⟨_, j, _, rfl⟩ <;> simp
end
end
end
section
noncomputable section
variable [Tabs]
section
variable {h0 h : AHeap} {Q : QT} {i : Nat}
end
end
end
section
noncomputable section
variable [Tabs]
section
variable {h : AHeap} {Q : QT}
end
end
end
section
noncomputable section
variable [Tabs]
section
variable {h : AHeap} {Q : QT}
abbrev Sm := Nat × RS
end
end
end
section
noncomputable section
abbrev KV := List (List UInt8 × Int)
def lookA (k : List UInt8) : KV → Option Int
  | [] => none
  | (a, v) :: r => if k = a then some v else lookA k r
def putA (k : List UInt8) (v : Int) : KV → KV
  | [] => [(k, v)]
  | (a, w) :: r => if k = a then (k, v) :: r else (a, w) :: putA k v r
def keysA (kv : KV) : List (List UInt8) := kv.map (·.1)
theorem lookA_none {k : List UInt8} : ∀ {kv : KV}, lookA k kv = none ↔ k ∉ keysA kv
  | [] => by simp [lookA, keysA]
  | (a, v) :: r => by
    unfold lookA
    by_cases h : k = a
    · subst h; simp [keysA]
    · rw [if_neg h, lookA_none (kv := r)]; simp [keysA, h]
theorem lookA_mem {k : List UInt8} {v : Int} : ∀ {kv : KV}, (keysA kv).Nodup → (lookA k kv = some v ↔ (k, v) ∈ kv)
  | [], _ => by simp [lookA]
  | (a, w) :: r, nd => by
    simp only [keysA, List.map_cons, List.nodup_cons] at nd
    unfold lookA
    by_cases h : k = a
    · subst h
      rw [if_pos rfl]
      simp only [Option.some.injEq, List.mem_cons, Prod.mk.injEq, true_and]
      constructor
      · intro h; exact .inl h.symm
      · rintro (h | h)
        · exact h.symm
        · exact (nd.1 (List.mem_map.2 ⟨_, h, rfl⟩)).elim
    · rw [if_neg h, lookA_mem (kv := r) nd.2]; simp [h]
theorem putA_cases (k : List UInt8) (v : Int) : ∀ kv : KV, (lookA k kv = none ∧ putA k v kv = kv ++ [(k, v)]) ∨ ∃ A w B, kv = A ++ (k, w) :: B ∧ lookA k kv = some w ∧ k ∉ keysA A ∧ putA k v kv = A ++ (k, v) :: B
  | [] => .inl ⟨rfl, rfl⟩
  | (a, w) :: r => by
    by_cases h : k = a
    · subst h
      exact .inr ⟨[], w, r, rfl, by simp [lookA], by simp [keysA], by simp [putA]⟩
    · rcases putA_cases k v r with ⟨h1, h2⟩ | ⟨A, w', B, rfl, h1, h2, h3⟩
      · exact .inl ⟨by rw [lookA, if_neg h, h1], by rw [putA, if_neg h, h2]; rfl⟩
      · exact .inr ⟨(a, w) :: A, w', B, rfl, by rw [lookA, if_neg h, h1], by simp [keysA, h] at h2 ⊢; exact h2, by rw [putA, if_neg h, h3]; rfl⟩
theorem keysA_putA (k : List UInt8) (v : Int) (kv : KV) : keysA (putA k v kv) = if k ∈ keysA kv then keysA kv else keysA kv ++ [k] := by
  rcases putA_cases k v kv with ⟨h1, h2⟩ | ⟨A, w, B, rfl, h1, h2, h3⟩
  · rw [lookA_none] at h1; rw [if_neg h1, h2]; simp [keysA]
  · rw [h3, if_pos (by simp [keysA])]; simp [keysA]
theorem putA_nodup {k : List UInt8} {v : Int} {kv : KV} (nd : (keysA kv).Nodup) : (keysA (putA k v kv)).Nodup := by
  rw [keysA_putA]
  split
  · exact nd
  · rename_i h
    rw [List.nodup_append]
    exact ⟨nd, by simp, fun a ha b hb e => by simp at hb; subst hb; subst e; exact h ha⟩
theorem lookA_putA (k k' : List UInt8) (v : Int) : ∀ kv : KV, lookA k' (putA k v kv) = if k' = k then some v else lookA k' kv
  | [] => by simp only [putA, lookA]
  | (a, w) :: r => by
    unfold putA
    by_cases h : k = a
    · subst h
      rw [if_pos rfl]
      by_cases h2 : k' = k
      · simp [lookA, h2]
      · simp [lookA, h2]
    · rw [if_neg h]
      by_cases h2 : k' = a
      · subst h2; simp [lookA, Ne.symm h]
      · simp [lookA, h2, lookA_putA k k' v r]
def mapEn : Nat → KV → MEnts
  | _, [] => []
  | n, (k, v) :: r => (.string ⟨⟨k⟩⟩, n, I v) :: mapEn (n + 1) r
abbrev mapO (kv : KV) : AObj := .amap (mapEn 0 kv) kv.length
theorem mapEn_len : ∀ (n : Nat) (kv : KV), (mapEn n kv).length = kv.length
  | _, [] => rfl
  | n, (k, v) :: r => by simp [mapEn, mapEn_len]
theorem mapEn_get : ∀ (n : Nat) (kv : KV) (j : Nat) (hj : j < kv.length), (mapEn n kv)[j]? = some (.string ⟨⟨kv[j].1⟩⟩, n + j, I kv[j].2)
  | n, [], j, hj => by simp at hj
  | n, (k, v) :: r, 0, _ => by simp [mapEn]
  | n, (k, v) :: r, j + 1, hj => by
    simp only [mapEn, List.getElem?_cons_succ]
    rw [mapEn_get (n + 1) r j (by simpa using hj)]
    simp; omega
theorem mapEn_kOk : ∀ (n : Nat) (kv : KV), (mapEn n kv).all (fun e => kOk .string e.1) = true
  | _, [] => rfl
  | n, (k, v) :: r => by rw [mapEn, List.all_cons, mapEn_kOk (n + 1) r]; rfl
theorem mapEn_one : ∀ (n : Nat) (kv : KV), (mapEn n kv).all (fun e => e.1.oneCell') = true
  | _, [] => rfl
  | n, (k, v) :: r => by rw [mapEn, List.all_cons, mapEn_one (n + 1) r]; rfl
theorem mapEn_append : ∀ (n : Nat) (a b : KV), mapEn n (a ++ b) = mapEn n a ++ mapEn (n + a.length) b
  | n, [], b => by simp [mapEn]
  | n, (k, v) :: r, b => by
    simp only [List.cons_append, mapEn, mapEn_append (n + 1) r b, List.length_cons]
    rw [show n + 1 + r.length = n + (r.length + 1) by omega]
section
variable [Tabs]
theorem keq_str (a b : List UInt8) : keq (.string ⟨⟨a⟩⟩) (.string ⟨⟨b⟩⟩) = decide (a = b) := by
  rw [Bool.eq_iff_iff, decide_eq_true_eq]
  constructor
  · intro h
    have := keq_eq (d := .string) (a := .string ⟨⟨a⟩⟩) (b := .string ⟨⟨b⟩⟩) rfl rfl h
    injection this with h; injection h with h; injection h
  · rintro rfl
    obtain ⟨r, h1, h2⟩ := Go.MapKept.sameNow_of_keys (a := .string ⟨⟨a⟩⟩) (b := .string ⟨⟨a⟩⟩) (d := .string) (kOk_isKey rfl) (kOk_isKey rfl)
    rw [keq_same rfl rfl] at h1
    cases h1
    exact h2.2 rfl
theorem mfind_mapEn (k : List UInt8) : ∀ (n i : Nat) (kv : KV), (mfind (.string ⟨⟨k⟩⟩) (mapEn n kv) i = none ∧ lookA k kv = none) ∨ ∃ j, ∃ hj : j < kv.length, mfind (.string ⟨⟨k⟩⟩) (mapEn n kv) i = some (i + j, n + j, I kv[j].2) ∧ kv[j].1 = k ∧ lookA k kv = some kv[j].2 ∧ ∀ q (hq : q < j), (kv[q]'(by omega)).1 ≠ k
  | n, i, [] => .inl ⟨rfl, rfl⟩
  | n, i, (a, v) :: r => by
    unfold mapEn mfind
    rw [keq_str]
    by_cases h : k = a
    · subst h
      exact .inr ⟨0, by simp, by simp, rfl, by simp [lookA], fun q hq => by omega⟩
    · rw [if_neg (by simpa using h)]
      rcases mfind_mapEn k (n + 1) (i + 1) r with ⟨h1, h2⟩ | ⟨j, hj, h1, h2, h3, h4⟩
      · exact .inl ⟨h1, by rw [lookA, if_neg h, h2]⟩
      · refine .inr ⟨j + 1, by simpa using hj, ?_, by simpa using h2, by rw [lookA, if_neg h, h3]; simp, fun q hq => ?_⟩
        · rw [h1]; simp; omega
        · cases q with
          | zero => simpa using Ne.symm h
          | succ q => simpa using h4 q (by omega)
theorem mapEn_set : ∀ (n : Nat) (kv : KV) (j : Nat) (k : List UInt8) (v : Int), j < kv.length → (mapEn n kv).set j (.string ⟨⟨k⟩⟩, n + j, I v) = mapEn n (kv.set j (k, v))
  | n, [], j, k, v, h => by simp at h
  | n, (a, w) :: r, 0, k, v, h => by simp [mapEn]
  | n, (a, w) :: r, j + 1, k, v, h => by
    simp only [mapEn, List.set_cons_succ]
    rw [← mapEn_set (n + 1) r j k v (by simpa using h)]
    rw [show n + 1 + j = n + (j + 1) by omega]
theorem putA_set (k : List UInt8) (v : Int) : ∀ (kv : KV) (j : Nat) (hj : j < kv.length), kv[j].1 = k → (∀ q (hq : q < j), (kv[q]'(by omega)).1 ≠ k) → putA k v kv = kv.set j (k, v)
  | [], j, hj, _, _ => by simp at hj
  | (a, w) :: r, 0, hj, h1, _ => by
    simp at h1; subst h1; simp [putA]
  | (a, w) :: r, j + 1, hj, h1, h2 => by
    have ha : k ≠ a := fun e => h2 0 (by omega) (by simpa using e.symm)
    rw [putA, if_neg ha, List.set_cons_succ, putA_set k v r j (by simpa using hj) (by simpa using h1) fun q hq => by simpa using h2 (q + 1) (by omega)]
theorem putA_none {k : List UInt8} {v : Int} {kv : KV} (h : lookA k kv = none) : putA k v kv = kv ++ [(k, v)] := by
  rcases putA_cases k v kv with ⟨_, h2⟩ | ⟨A, w, B, _, h1, _, _⟩
  · exact h2
  · rw [h] at h1; cases h1
theorem mput_mapO (k : List UInt8) (v : Int) (kv : KV) : mput (.string ⟨⟨k⟩⟩) (I v) kv.length (mapEn 0 kv) = mapO (putA k v kv) := by
  unfold mput
  rcases mfind_mapEn k 0 0 kv with ⟨h1, h2⟩ | ⟨j, hj, h1, h2, h3, h4⟩
  · rw [h1, putA_none h2]
    simp [mapEn_append, mapEn]
  · rw [h1, putA_set k v kv j hj h2 h4]
    simp only [Nat.zero_add]
    have := mapEn_set 0 kv j k v hj
    rw [Nat.zero_add] at this
    rw [this]; simp
end
section
variable [Tabs]
variable {h0 h : AHeap} {M : List Nat} {L L' : Own} {K : AV → Prop} {KH : QT} {KS : AHeap → Prop}
theorem st_lookup {j : Nat} {kv : KV} {k : Str} (e : h[j]? = some (mapO kv)) (q : K (.tup [I ((lookA k kv).getD 0), B (lookA k kv).isSome])) : qLookup .string true (I 0) (.map j) (T k) h K := ⟨by
  simp only [pLookup, e]
  rw [if_pos (by rw [mapEn_kOk]; rfl)]
  rcases mfind_mapEn k 0 0 kv with ⟨h1, h2⟩ | ⟨j, hj, h1, h2, h3, h4⟩
  · rw [h1]; rw [h2] at q; exact q
  · rw [h1]; rw [h3] at q; exact q⟩
theorem st_mapUpd {j : Nat} {kv : KV} {k : Str} {v : Int} (s : St h0 M h L) (u : Sub L (j, true, mapO kv) L' (j, true, mapO (putA k v kv))) (q : ∀ h', St h0 M h' L' → KS h') : qMapUpdate .string (.map j) (T k) (I v) h KS := ⟨by
  simp only [eMapUpdate, s.get u.mem]
  rw [if_pos (by rw [mapEn_kOk]; rfl), mput_mapO]
  exact q _ (s.turn u)⟩
abbrev iterO (j : Nat) (kv : KV) (seen : List Nat) : AObj := .miter (some j) kv.length seen kv.length
theorem st_rangeM {j : Nat} {kv : KV} (s : St h0 M h L) (e : h[j]? = some (mapO kv)) (k : ∀ i h', St h0 M h' ((i, true, iterO j kv []) :: L) → KH (.ptr i 0) h') : qRangeM (.map j) h KH := ⟨by
  simp only [eRangeM, e]
  exact k _ _ (s.push _)⟩
theorem st_nextM {j i : Nat} {kv : KV} {seen : List Nat} (s : St h0 M h ((i, true, iterO j kv seen) :: L)) (e : h[j]? = some (mapO kv)) (k0 : (∀ q, q < kv.length → q ∈ seen) → KH (.tup [B false]) h)
    (k1 : ∀ q (hq : q < kv.length), q ∉ seen → ∀ h', St h0 M h' ((i, true, iterO j kv (seen ++ [q])) :: L) → KH (.tup [B true, T kv[q].1, I kv[q].2]) h') : qNextM (.ptr i 0) h KH := ⟨by
  have hm : ∀ x ∈ mapEn 0 kv, ∃ q, ∃ hq : q < kv.length, x = (.string ⟨⟨kv[q].1⟩⟩, q, I kv[q].2) := by
    intro x hx
    obtain ⟨q, hq⟩ := List.getElem?_of_mem hx
    have hlt : q < kv.length := by rw [← mapEn_len 0 kv]; exact (List.getElem?_eq_some_iff.1 hq).1
    rw [mapEn_get 0 kv q hlt, Nat.zero_add] at hq
    exact ⟨q, hlt, by cases hq; rfl⟩
  have hin : ∀ q (hq : q < kv.length), (Value.string ⟨⟨kv[q].1⟩⟩, q, I kv[q].2) ∈ mapEn 0 kv := fun q hq => by
    have := mapEn_get 0 kv q hq
    rw [Nat.zero_add] at this
    exact List.mem_of_getElem? this
  simp only [eNextM, s.get (.head _), e]
  refine ⟨⟨mapEn_one 0 kv, ?_⟩, fun hall => k0 fun q hq => ?_, fun x hx hn => ?_⟩
  · cases kv with
    | nil => simp [mapEn]
    | cons x r => simp [mapEn]
  · rcases hall _ (hin q hq) with h | h
    · exact h
    · simp at h; omega
  · obtain ⟨q, hq, rfl⟩ := hm x hx
    exact k1 q hq hn _ (s.turn .head)⟩
theorem st_entryM {j i : Nat} {b : Bool} {kv : KV} {seen : List Nat} {q : Nat} (s : St h0 M h L) (u : (i, b, iterO j kv (seen ++ [q])) ∈ L) (e : h[j]? = some (mapO kv)) (hq : q < kv.length) (k : K (.tup [T kv[q].1, I kv[q].2])) : qEntry (.ptr i 0) h K := ⟨by
  have hb : ∀ (n : Nat) (kv : KV) (q : Nat) (hq : q < kv.length), bornFind (n + q) (mapEn n kv) = some (.string ⟨⟨kv[q].1⟩⟩, I kv[q].2) := by
    intro n kv
    induction kv generalizing n with
    | nil => intro q hq; simp at hq
    | cons x r ih =>
      intro q hq
      simp only [mapEn, bornFind]
      cases q with
      | zero => simp
      | succ q =>
        rw [if_neg (by simp)]
        have := ih (n + 1) q (by simpa using hq)
        rw [show n + 1 + q = n + (q + 1) by omega] at this
        simpa using this
  simp only [pEntry, s.get u, e, List.getLast?_concat]
  have := hb 0 kv q hq
  rw [Nat.zero_add] at this
  rw [this]
  simp only
  rw [if_pos (by simp [Value.oneCell'])]
  exact k⟩
end
end
end
section
noncomputable section
def evalF (here : Int) (look : Str → Option Int) : Ex → Ev
  | .none => (0, 6)
  | .num n => boundM n
  | .name s => match look s with
    | some y => boundM y
    | none => (0, 4)
  | .here => boundM here
  | .neg e => if (evalF here look e).2 ≠ 0 then (0, (evalF here look e).2) else boundM (-(evalF here look e).1)
  | .bin k a b => if (evalF here look a).2 ≠ 0 then (0, (evalF here look a).2) else if (evalF here look b).2 ≠ 0 then (0, (evalF here look b).2) else bothM k (evalF here look a).1 (evalF here look b).1
def known (look : Str → Option Int) (l : List Str) : List Sy := l.filterMap fun n => (look n).map fun v => (n, v)
section
variable [Tabs]
def MapAt (h : AHeap) (j : Nat) (f : Str → Option Int) : Prop := ∃ kv, h[j]? = some (mapO kv) ∧ (keysA kv).Nodup ∧ ∀ k, lookA k kv = f k
theorem MapAt.fr {h h' : AHeap} {j : Nat} {f : Str → Option Int} (m : MapAt h j f) (g : Fr [] h h') : MapAt h' j f := by
  obtain ⟨kv, h1, h2⟩ := m
  exact ⟨kv, g.get h1 (by simp), h2⟩
variable {h : AHeap} {Q : QT} {K : AV → Prop}
theorem MapAt.look {j : Nat} {f : Str → Option Int} (m : MapAt h j f) {k : Str} (q : K (.tup [I ((f k).getD 0), B (f k).isSome])) : qLookup .string true (I 0) (.map j) (T k) h K := by
  obtain ⟨kv, h1, _, h2⟩ := m
  exact st_lookup h1 (by rw [h2]; exact q)
end
end
end
section
noncomputable section
structure En where
  frag : Str
  x : Sm
  place : Int
  grown : Bool
def enE (e : En) : List AV := [T e.frag, I (e.x.1 : Nat), T e.x.2.lab, I (e.x.2.kind : Nat), I (e.x.2.op : Nat), T e.x.2.text, .snap e.x.2.args.length (e.x.2.args.flatMap arE), I e.place, B e.grown]
def lastA (e : En) : Ar := e.x.2.args.getLast?.getD ⟨-1, .none⟩
abbrev lastE (e : En) : Ex := (lastA e).e
abbrev shortN (n : Nat) : Str := ([[115, 101, 95, 98], [115, 101, 95, 98, 108], [115, 101, 95, 98, 99]][n]?).getD []
abbrev greatN (n : Nat) : Str := ([[101, 95, 98], [101, 95, 98, 108], [101, 95, 98, 99]][n]?).getD []
def shortOp (n : Nat) : Nat := (findOp (shortN n)).getD 0
def greatOp (n : Nat) : Nat := (findOp (greatN n)).getD 0
structure WfS (x : RS) : Prop where
  inst : x.kind = 1 → x.op < tbl.length ∧ (flds (opKinds x.op)).length ≤ x.args.length
  grow : x.kind = 2 → x.op < 3 ∧ (flds (opKinds (shortOp x.op))).length ≤ x.args.length ∧ (flds (opKinds (greatOp x.op))).length ≤ x.args.length
  data : 3 ≤ x.kind → x.kind ≠ 6 → x.args ≠ []
  kind : x.kind ≤ 9
  args : x.args.length < 1000000000
  text : x.text.length < 1000000000
  arg : ∀ a ∈ x.args, okE a.e ∧ sizeE a.e < 1000000 ∧ a.reg < 1000
section
variable [Tabs]
variable {h : AHeap} {Q : QT} {K : AV → Prop}
end
section
variable [Tabs]
variable {h : AHeap} {Q : QT} {K : AV → Prop}
variable {M : List Nat} {h0 : AHeap} {L L' : Own} {KS : AHeap → Prop}
structure OneV (v : AV) : Prop where
  tup : v.isTup = false
  cells : v.cells = [v]
  one : v.one = true
theorem AccE.v1 {sz n : Nat} {v : AV} {cs : List AV} {E : Own} (a : AccE sz v n cs E) : OneV v := by
  rcases a with ⟨_, _, rfl, _⟩ | ⟨_, j, rfl, _⟩ <;> exact ⟨rfl, rfl, rfl⟩
end
end
end
section
noncomputable section
abbrev srcC (lv : AV) (js : Nat) (kn dv : AV) (sz : Int) : AObj := .cells [lv, .map js, kn, dv, I sz]
section
variable [Tabs]
variable {h : AHeap} {Q : QT} {K : AV → Prop}
abbrev pE (x : Nat × En) : List AV := [.ptr x.1 0]
def SzOk (syms : Str → Option Int) (e : En) : Prop :=
  (e.x.2.kind = 7 → 1 ≤ (evalF 0 syms (lastE e)).1 ∧ (evalF 0 syms (lastE e)).1 ≤ 16) ∧ (e.x.2.kind = 8 → 0 ≤ (evalF 0 syms (lastE e)).1 ∧ (evalF 0 syms (lastE e)).1 ≤ 1000)
end
end
end
section
noncomputable section
def isCode (e : En) : Prop := e.x.2.kind = 1 ∨ e.x.2.kind = 2
instance (e : En) : Decidable (isCode e) := inferInstanceAs (Decidable (_ ∨ _))
def isData (e : En) : Prop := e.x.2.kind = 3 ∨ e.x.2.kind = 4 ∨ e.x.2.kind = 5
instance (e : En) : Decidable (isData e) := inferInstanceAs (Decidable (_ ∨ _))
section
variable [Tabs]
variable {h : AHeap} {Q : QT} {K : AV → Prop}
end
end
end
section
noncomputable section
section
variable [Tabs]
variable {h : AHeap} {Q : QT} {K : AV → Prop}
structure PlE (e : En) : Prop where
  wf : WfS e.x.2
  lo : 0 ≤ e.place
  hi : e.place ≤ 1000000000000000
end
end
end
section
noncomputable section
section
variable [Tabs]
variable {h : AHeap} {Q : QT} {K : AV → Prop} {h0 : AHeap} {M : List Nat} {L : Own} {KH : QT}
end
end
end
section
noncomputable section
abbrev Dg := Str × Nat × Int
def dE (d : Dg) : List AV := [T d.1, I (d.2.1 : Nat), I d.2.2]
theorem Sub.pre {L L' : Own} {e e' : Nat × Bool × AObj} (s : Sub L e L' e') : ∀ A : Own, Sub (A ++ L) e (A ++ L') e'
  | [] => s
  | _ :: A => .tail (Sub.pre s A)
theorem Sub.post {L L' : Own} {e e' : Nat × Bool × AObj} (s : Sub L e L' e') (R : Own) : Sub (L ++ R) e (L' ++ R) e' := by
  induction s with
  | head => exact .head
  | tail _ ih => exact .tail ih
def entsO (l : List (Nat × En)) : Own := l.map fun x => (x.1, true, .cells (enE x.2))
section
variable [Tabs]
variable {h0 h h' : AHeap} {M : List Nat} {Q : QT} {K : AV → Prop}
structure SS (h0 : AHeap) (M : List Nat) (h : AHeap) (i js : Nat) (l : List (Nat × En)) (ds : List Dg) (lv dv kn : AV) (sz : Int) (kvs : KV) (EL ED R : Own) : Prop where
  al : AccE 1 lv l.length (l.flatMap pE) EL
  ad : AccE 3 dv ds.length (ds.flatMap dE) ED
  st : St h0 M h (ED ++ ((i, true, srcC lv js kn dv sz) :: (js, true, mapO kvs) :: (EL ++ (entsO l ++ R))))
variable {i js : Nat} {l : List (Nat × En)} {ds : List Dg} {lv dv kn : AV} {sz : Int} {kvs : KV} {EL ED R : Own}
theorem SS.src (s : SS h0 M h i js l ds lv dv kn sz kvs EL ED R) : h[i]? = some (srcC lv js kn dv sz) := s.st.get (b := true) (by simp)
theorem SS.syms (s : SS h0 M h i js l ds lv dv kn sz kvs EL ED R) : h[js]? = some (mapO kvs) := s.st.get (b := true) (by simp)
theorem SS.row (s : SS h0 M h i js l ds lv dv kn sz kvs EL ED R) : Row pE 1 h lv l := by
  have hp : (ED ++ ((i, true, srcC lv js kn dv sz) :: (js, true, mapO kvs) :: (EL ++ (entsO l ++ R)))).Perm (EL ++ (ED ++ ((i, true, srcC lv js kn dv sz) :: (js, true, mapO kvs) :: (entsO l ++ R)))) := by
    have h1 : (ED ++ ((i, true, srcC lv js kn dv sz) :: (js, true, mapO kvs) :: (EL ++ (entsO l ++ R)))) = (ED ++ [(i, true, srcC lv js kn dv sz), (js, true, mapO kvs)]) ++ (EL ++ (entsO l ++ R)) := by simp
    have h2 : (ED ++ ((i, true, srcC lv js kn dv sz) :: (js, true, mapO kvs) :: (entsO l ++ R))) = (ED ++ [(i, true, srcC lv js kn dv sz), (js, true, mapO kvs)]) ++ (entsO l ++ R) := by simp
    rw [h1, h2, ← List.append_assoc, ← List.append_assoc EL]
    exact List.Perm.append_right _ List.perm_append_comm
  exact s.al.rd (s.st.perm hp)
theorem SS.call (s : SS h0 M h i js l ds lv dv kn sz kvs EL ED R) (f : Fr [] h h') : SS h0 M h' i js l ds lv dv kn sz kvs EL ED R := ⟨s.al, s.ad, s.st.call f⟩
theorem SS.front {e : Nat × Bool × AObj} (s : SS h0 M h i js l ds lv dv kn sz kvs EL ED R) (s' : St h0 M h' (e :: (ED ++ ((i, true, srcC lv js kn dv sz) :: (js, true, mapO kvs) :: (EL ++ (entsO l ++ R)))))) : SS h0 M h' i js l ds lv dv kn sz kvs EL ED (e :: R) := ⟨s.al, s.ad, s'.perm (by
  have hx : ∀ R : Own, (ED ++ ((i, true, srcC lv js kn dv sz) :: (js, true, mapO kvs) :: (EL ++ (entsO l ++ R)))) = (ED ++ ((i, true, srcC lv js kn dv sz) :: (js, true, mapO kvs) :: (EL ++ entsO l))) ++ R := fun R => by simp
  rw [hx R, hx (e :: R)]
  exact List.perm_middle.symm)⟩
theorem SS.unR {R' : Own} (s : SS h0 M h i js l ds lv dv kn sz kvs EL ED R) (hs : R'.Sublist R) : SS h0 M h i js l ds lv dv kn sz kvs EL ED R' := ⟨s.al, s.ad, s.st.sub (List.Sublist.append (List.Sublist.refl _) (((List.Sublist.append (List.Sublist.refl _) (List.Sublist.append (List.Sublist.refl _) hs)).cons₂ _).cons₂ _))⟩
theorem SS.subR {R' : Own} {e e' : Nat × Bool × AObj} (u : Sub R e R' e') : Sub (ED ++ ((i, true, srcC lv js kn dv sz) :: (js, true, mapO kvs) :: (EL ++ (entsO l ++ R)))) e (ED ++ ((i, true, srcC lv js kn dv sz) :: (js, true, mapO kvs) :: (EL ++ (entsO l ++ R')))) e' :=
  Sub.pre (.tail (.tail (Sub.pre (Sub.pre u _) _))) _
theorem SS.subS {kn' : AV} {sz' : Int} {lv' dv' : AV} : Sub (ED ++ ((i, true, srcC lv js kn dv sz) :: (js, true, mapO kvs) :: (EL ++ (entsO l ++ R)))) (i, true, srcC lv js kn dv sz) (ED ++ ((i, true, srcC lv' js kn' dv' sz') :: (js, true, mapO kvs) :: (EL ++ (entsO l ++ R)))) (i, true, srcC lv' js kn' dv' sz') := Sub.pre .head _
end
end
end
end Go.Proofs.YtlikeadfohahdaaGreatDoor.AL
