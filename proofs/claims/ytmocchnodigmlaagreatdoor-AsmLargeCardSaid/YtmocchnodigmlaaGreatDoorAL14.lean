import Derived.Test.YtmocchnodigmlaaGreatDoorAL13
set_option linter.all false
set_option autoImplicit true
set_option relaxedAutoImplicit true
set_option linter.unusedVariables false
set_option linter.unusedSimpArgs false
/-! Regions whose order is drawn. -/
namespace Go.Proofs.YtmocchnodigmlaaGreatDoor.AL
variable [Tabs]
section
variable {P : Program} {n : Nat}

abbrev Pend := List (Nat × (AHeap → Prop))
def mask : List (Nat × Nat) → Nat → Nat
  | [], _ => 0
  | (k, m) :: r, i => if k = i then m else mask r i
def pendOk (m : Nat) : Pend → AHeap → Prop → Prop
  | [], _, k => k
  | (q, c) :: r, h, k => if m.testBit q = true then pendOk m r h k else c h ∧ pendOk m r h k
/-- One operation of a region whose order is drawn. -/
def stepD (P : Program) (n : Nat) (m : Nat) (i : Nat) (o : Oper) (env : Env) (h : AHeap) (pend : Pend) (K : Env → AHeap → Pend → Prop) : Prop :=
  if dstOk n o.dst = true then
    if qOp P o.op = true then
      aop P env h o fun v h' => K (putD env o.dst v) h' (if hOp P o.op = true then (i, fun h2 => aop P env h2 o fun r _ => r = v) :: pend else pend)
    else aop P env h o fun v h' => pendOk m pend h' (K (putD env o.dst v) h' pend)
  else False
def denD (P : Program) (n : Nat) (ops : Array Oper) (ms : List (Nat × Nat)) : List Nat → Env → AHeap → Pend → (Env → AHeap → Prop) → Prop
  | [], env, h, _, K => K env h
  | i :: rest, env, h, pend, K => match ops[i]? with
    | none => False
    | some o => match o.guard with
      | none => stepD P n (mask ms i) i o env h pend fun env' h' pend' => denD P n ops ms rest env' h' pend' K
      | some (j, want) => match (ops[j]?).bind (·.dst) with
        | none => False
        | some s => withO (get env s) fun v =>
          ifG (gdOf ops j) v
            (if want = true then stepD P n (mask ms i) i o ((s, B true) :: env) h pend fun env' h' pend' => denD P n ops ms rest env' h' pend' K
             else if dstOk n o.dst = true then denD P n ops ms rest (putD ((s, B true) :: env) o.dst (.tup [])) h pend K else False)
            (if want = true then (if dstOk n o.dst = true then denD P n ops ms rest (putD ((s, B false) :: env) o.dst (.tup [])) h pend K else False)
             else stepD P n (mask ms i) i o ((s, B false) :: env) h pend fun env' h' pend' => denD P n ops ms rest env' h' pend' K)
            (if dstOk n o.dst = true then denD P n ops ms rest (putD ((s, .tup []) :: env) o.dst (.tup [])) h pend K else False)

/-! ### What is known of an order -/
def preds (o : Oper) : List Nat := (o.after.toList.filter (Region.binds .any)).map (·.on)
def closeM (ops : Array Oper) : List Nat → List (Nat × Nat) → List (Nat × Nat)
  | [], ms => ms
  | i :: r, ms => closeM ops r ((i, match ops[i]? with | some o => (preds o).foldl (fun m p => m ||| 1 <<< p ||| mask ms p) 0 | none => 0) :: ms)
def pairB (f : Nat → Nat → Bool) : List Nat → Bool
  | [] => true
  | i :: r => r.all (f i) && pairB f r
def orderB (ops : Array Oper) : List Nat → List Nat → Bool
  | _, [] => true
  | seen, i :: r => (match ops[i]? with | some o => (preds o).all seen.contains | none => false) && orderB ops (i :: seen) r
def apartB (P : Program) (ops : Array Oper) (ms : List (Nat × Nat)) (i j : Nat) : Bool :=
  match ops[i]?, ops[j]? with
  | some oi, some oj =>
    (i != j) && (match oi.dst, oj.dst with | some d, some e => d != e | _, _ => true) &&
    ((mask ms j).testBit i || (qOp P oi.op && (match oi.dst with | some d => !(oj.looksAt ops).contains d | none => true) && (match oj.dst with | some d => !(oi.looksAt ops).contains d | none => true)))
  | _, _ => false
def canonOk (P : Program) (ops : Array Oper) (L : List Nat) : Bool := (List.range ops.size).all L.contains && orderB ops [] L && pairB (apartB P ops (closeM ops L [])) L

def Closed (ops : Array Oper) (D : Nat → Bool) : Prop := ∀ i o, ops[i]? = some o → D i = true → ∀ p ∈ preds o, D p = true
def Must (ops : Array Oper) (j i : Nat) : Prop := ∀ D, Closed ops D → (∀ o, ops[i]? = some o → ∀ p ∈ preds o, D p = true) → D j = true

theorem testBit_fold {ms : List (Nat × Nat)} {j : Nat} : ∀ (l : List Nat) (m : Nat), (l.foldl (fun m p => m ||| 1 <<< p ||| mask ms p) m).testBit j = true → m.testBit j = true ∨ ∃ p ∈ l, p = j ∨ (mask ms p).testBit j = true
  | [], m, h => .inl h
  | p :: l, m, h => by
    rcases testBit_fold l _ h with h | ⟨q, hq, h⟩
    · simp only [Nat.testBit_or, Bool.or_eq_true] at h
      rcases h with (h | h) | h
      · exact .inl h
      · refine .inr ⟨p, by simp, .inl ?_⟩
        rw [Nat.one_shiftLeft, Nat.testBit_two_pow] at h
        simpa using h
      · exact .inr ⟨p, by simp, .inr h⟩
    · exact .inr ⟨q, by simp [hq], h⟩

theorem closeM_must {ops : Array Oper} : ∀ (L : List Nat) (ms : List (Nat × Nat)), (∀ i j, (mask ms i).testBit j = true → Must ops j i) → ∀ i j, (mask (closeM ops L ms) i).testBit j = true → Must ops j i
  | [], ms, h => h
  | k :: L, ms, h => by
    refine closeM_must L _ fun i j hb => ?_
    simp only [mask] at hb
    split at hb
    · rename_i hk
      subst hk
      split at hb
      · rename_i o ho
        rcases testBit_fold _ _ hb with hb | ⟨p, hp, hb⟩
        · simp at hb
        · intro D hc hD
          have hp1 := hD o ho p hp
          rcases hb with rfl | hb
          · exact hp1
          · exact h p j hb D hc fun o2 ho2 => hc p o2 ho2 hp1
      · simp at hb
    · exact h i j hb

theorem orderB_spec {ops : Array Oper} : ∀ {L seen : List Nat}, orderB ops seen L = true → ∀ {A B : List Nat} {i : Nat}, L = A ++ i :: B → ∃ o, ops[i]? = some o ∧ ∀ p ∈ preds o, p ∈ seen ∨ p ∈ A
  | [], seen, h, A, B, i, e => by simp at e
  | k :: L, seen, h, A, B, i, e => by
    simp only [orderB, Bool.and_eq_true] at h
    cases A with
    | nil =>
      simp only [List.nil_append, List.cons.injEq] at e
      obtain ⟨rfl, rfl⟩ := e
      have h1 := h.1
      split at h1
      · rename_i o ho
        exact ⟨o, ho, fun p hp => .inl (by simpa using List.all_eq_true.1 h1 p hp)⟩
      · cases h1
    | cons a A =>
      simp only [List.cons_append, List.cons.injEq] at e
      obtain ⟨rfl, rfl⟩ := e
      obtain ⟨o, ho, hp⟩ := orderB_spec h.2 rfl
      refine ⟨o, ho, fun p hp' => ?_⟩
      rcases hp p hp' with h | h
      · simp only [List.mem_cons] at h
        rcases h with rfl | h
        · exact .inr (by simp)
        · exact .inl h
      · exact .inr (by simp [h])

theorem pairB_spec {f : Nat → Nat → Bool} : ∀ {L : List Nat}, pairB f L = true → ∀ {A B : List Nat}, L = A ++ B → ∀ i ∈ A, ∀ j ∈ B, f i j = true
  | [], h, A, B, e, i, hi, j, hj => by
    have : A = [] ∧ B = [] := by simpa using e.symm
    rw [this.1] at hi; cases hi
  | k :: L, h, A, B, e, i, hi, j, hj => by
    simp only [pairB, Bool.and_eq_true] at h
    cases A with
    | nil => cases hi
    | cons a A =>
      simp only [List.cons_append, List.cons.injEq] at e
      obtain ⟨rfl, rfl⟩ := e
      rcases List.mem_cons.1 hi with rfl | hi
      · exact List.all_eq_true.1 h.1 j (by simp [hj])
      · exact pairB_spec h.2 rfl i hi j hj

structure Canon (P : Program) (ops : Array Oper) (L : List Nat) : Prop where
  all : ∀ i o, ops[i]? = some o → i ∈ L
  order : ∀ {A B : List Nat} {i : Nat}, L = A ++ i :: B → ∃ o, ops[i]? = some o ∧ ∀ p ∈ preds o, p ∈ A
  pair : ∀ {A B : List Nat}, L = A ++ B → ∀ i ∈ A, ∀ j ∈ B, ∀ oi oj, ops[i]? = some oi → ops[j]? = some oj → i ≠ j ∧ (∀ d, oi.dst = some d → oj.dst ≠ some d) ∧
    (Must ops i j ∨ (qOp P oi.op = true ∧ (∀ d, oi.dst = some d → d ∉ oj.looksAt ops) ∧ (∀ d, oj.dst = some d → d ∉ oi.looksAt ops)))

theorem canon_of {ops : Array Oper} {L : List Nat} (h : canonOk P ops L = true) : Canon P ops L := by
  simp only [canonOk, Bool.and_eq_true] at h
  obtain ⟨⟨h1, h2⟩, h3⟩ := h
  refine ⟨fun i o ho => ?_, fun e => ?_, fun {A B} e i hi j hj oi oj hoi hoj => ?_⟩
  · have := List.all_eq_true.1 h1 i (List.mem_range.2 (Array.getElem?_eq_some_iff.1 ho).1)
    simpa using this
  · obtain ⟨o, ho, hp⟩ := orderB_spec h2 e
    exact ⟨o, ho, fun p hp' => (hp p hp').resolve_left (by simp)⟩
  · have := pairB_spec h3 e i hi j hj
    simp only [apartB, hoi, hoj, Bool.and_eq_true, bne_iff_ne, ne_eq, Bool.or_eq_true] at this
    obtain ⟨⟨q1, q2⟩, q3⟩ := this
    refine ⟨q1, fun d hd he => ?_, ?_⟩
    · simp [hd, he] at q2
    · rcases q3 with q3 | ⟨⟨q3, q4⟩, q5⟩
      · exact .inl (closeM_must L [] (fun i j hb => by simp [mask] at hb) _ _ q3)
      · refine .inr ⟨q3, fun d hd => ?_, fun d hd => ?_⟩
        · simpa [hd] using q4
        · simpa [hd] using q5

section
variable {ops : Array Oper} {L : List Nat} (hc : Canon P ops L)
include hc
theorem Canon.closed {C rest : List Nat} (e : L = C ++ rest) : Closed ops C.contains := by
  intro i o ho hi p hp
  simp only [List.contains_eq_mem, decide_eq_true_eq] at hi ⊢
  obtain ⟨A, B, rfl⟩ := List.append_of_mem hi
  obtain ⟨o', ho', h⟩ := hc.order (A := A) (i := i) (B := B ++ rest) (by rw [e]; simp)
  rw [ho] at ho'; cases ho'
  simp [h p hp]
/-- What must be ahead of an operation is ahead of it in the order. -/
theorem Canon.must {A B : List Nat} {i j : Nat} (e : L = A ++ i :: B) (m : Must ops j i) : j ∈ A := by
  have := m A.contains (hc.closed e) fun o ho p hp => by
    obtain ⟨o', ho', h⟩ := hc.order e
    rw [ho] at ho'; cases ho'
    simpa using h p hp
  simpa using this
theorem Canon.notMem {A B : List Nat} {i : Nat} (e : L = A ++ i :: B) : i ∉ A := fun hi => by
  obtain ⟨o, ho, _⟩ := hc.order e
  exact (hc.pair e i hi i (by simp) o o ho ho).1 rfl
theorem Canon.uniq {i j : Nat} {oi oj : Oper} {d : Nat} (hi : ops[i]? = some oi) (hj : ops[j]? = some oj) (di : oi.dst = some d) (dj : oj.dst = some d) : i = j := by
  obtain ⟨A, B, e⟩ := List.append_of_mem (hc.all i oi hi)
  have hm := hc.all j oj hj
  rw [e] at hm
  simp only [List.mem_append, List.mem_cons] at hm
  rcases hm with hm | rfl | hm
  · exact ((hc.pair e j hm i (by simp) oj oi hj hi).2.1 d dj di).elim
  · rfl
  · exact ((hc.pair (A := A ++ [i]) (B := B) (by rw [e]; simp) i (by simp) j hm oi oj hi hj).2.1 d di dj).elim
/-- One that writes what another one looks at must be ahead of it, or behind it. -/
theorem Canon.cmp {i j : Nat} {oi oj : Oper} {d : Nat} (hi : ops[i]? = some oi) (hj : ops[j]? = some oj) (di : oi.dst = some d) (lj : d ∈ oj.looksAt ops) : i = j ∨ Must ops i j ∨ Must ops j i := by
  obtain ⟨A, B, e⟩ := List.append_of_mem (hc.all j oj hj)
  have hm := hc.all i oi hi
  rw [e] at hm
  simp only [List.mem_append, List.mem_cons] at hm
  rcases hm with hm | rfl | hm
  · rcases (hc.pair e i hm j (by simp) oi oj hi hj).2.2 with h | h
    · exact .inr (.inl h)
    · exact (h.2.1 d di lj).elim
  · exact .inl rfl
  · rcases (hc.pair (A := A ++ [j]) (B := B) (by rw [e]; simp) j (by simp) i hm oj oi hj hi).2.2 with h | h
    · exact .inr (.inr h)
    · exact (h.2.2 d di lj).elim
theorem Canon.self {i : Nat} {o : Oper} (hi : ops[i]? = some o) : ¬ Must ops i i := fun m => by
  obtain ⟨A, B, e⟩ := List.append_of_mem (hc.all i o hi)
  exact hc.notMem e (hc.must e m)
end

def restr (env : Env) : List Nat → Env
  | [] => []
  | s :: l => match get env s with | some v => (s, v) :: restr env l | none => restr env l
theorem get_restr {env : Env} : ∀ {l : List Nat} {s : Nat}, s ∈ l → get (restr env l) s = get env s
  | k :: l, s, h => by
    simp only [restr]
    split
    · rename_i v hv
      simp only [get]
      split
      · rename_i hk; subst hk; exact hv.symm
      · rename_i hk; exact get_restr ((List.mem_cons.1 h).resolve_left (Ne.symm hk))
    · rename_i hv
      rcases List.mem_cons.1 h with rfl | h
      · by_cases hm : s ∈ l
        · exact get_restr hm
        · rw [hv]
          have : ∀ l : List Nat, s ∉ l → get (restr env l) s = none := fun l => by
            induction l with
            | nil => intro _; rfl
            | cons k l ih =>
              intro hs
              simp only [List.mem_cons, not_or] at hs
              simp only [restr]
              split
              · simp only [get, if_neg (Ne.symm hs.1)]; exact ih hs.2
              · exact ih hs.2
          exact this l hm
      · exact get_restr h
theorem get_restr_mem {env : Env} : ∀ {l : List Nat} {s : Nat} {v : AV}, get (restr env l) s = some v → s ∈ l
  | [], s, v, h => by simp [restr, get] at h
  | k :: l, s, v, h => by
    simp only [restr] at h
    split at h
    · simp only [get] at h
      split at h
      · rename_i hk; simp [hk]
      · exact List.mem_cons_of_mem _ (get_restr_mem h)
    · exact List.mem_cons_of_mem _ (get_restr_mem h)
end
end Go.Proofs.YtmocchnodigmlaaGreatDoor.AL
