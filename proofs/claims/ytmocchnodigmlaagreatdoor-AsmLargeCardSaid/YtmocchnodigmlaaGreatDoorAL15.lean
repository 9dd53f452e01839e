import Derived.Test.YtmocchnodigmlaaGreatDoorAL14
set_option linter.all false
set_option autoImplicit true
set_option relaxedAutoImplicit true
set_option linter.unusedVariables false
set_option linter.unusedSimpArgs false
/-! Regions whose order is drawn: what holds in each order. -/
namespace Go.Proofs.YtmocchnodigmlaaGreatDoor.AL
variable [Tabs]
section
variable {P : Program} {n : Nat} {ops : Array Oper} {L : List Nat}

structure Inv (ops : Array Oper) (L : List Nat) (D : Nat → Bool) (C rest : List Nat) (env0 env : Env) (G : Gh) (tmps : Array Value) : Prop where
  split : L = C ++ rest
  closed : Closed ops D
  sub : ∀ i, D i = true → i ∈ C
  same : ∀ s, (∀ i o, i ∈ C → ops[i]? = some o → o.dst ≠ some s) → get env s = get env0 s
  old : ∀ s v, (∃ i o, ops[i]? = some o ∧ o.dst = some s ∧ D i = false) → get env0 s = some v → ∃ x, tmps[s]? = some x ∧ Rep G v x
  new : ∀ s v, (∀ i o, ops[i]? = some o → o.dst = some s → D i = true) → get env s = some v → ∃ x, tmps[s]? = some x ∧ Rep G v x

/-- The slots as an operation sees them. -/
structure Sees (ops : Array Oper) (i : Nat) (o : Oper) (env0 env envq : Env) : Prop where
  r1 : ∀ s ∈ o.looksAt ops, (∃ (i0 : Nat) (o0 : Oper), ops[i0]? = some o0 ∧ o0.dst = some s ∧ Must ops i0 i) → get envq s = get env s
  r2 : ∀ s ∈ o.looksAt ops, (¬ ∃ (i0 : Nat) (o0 : Oper), ops[i0]? = some o0 ∧ o0.dst = some s ∧ Must ops i0 i) → get envq s = get env0 s

def guardIs (ops : Array Oper) (o : Oper) (envq : Env) (b : Bool) : Prop :=
  match o.guard with
  | none => b = true
  | some (j, want) => ∃ sl, (ops[j]?).bind (·.dst) = some sl ∧ (get envq sl = some (B (b == want)) ∨ (b = false ∧ get envq sl = some (.tup [])))

structure Known (P : Program) (n : Nat) (ops : Array Oper) (i : Nat) (o : Oper) (env0 env : Env) (h : AHeap) (pend : Pend) : Prop where
  mk :: (out : dstOk n o.dst = true ∧ ∃ envq v, Sees ops i o env0 env envq ∧ (∀ d, o.dst = some d → get env d = some v) ∧
    ((guardIs ops o envq false ∧ v = .tup []) ∨
     (guardIs ops o envq true ∧ qOp P o.op = true ∧ (aop P envq h o fun r h' => r = v ∧ h' = h) ∧ (hOp P o.op = true → (i, fun h2 => aop P envq h2 o fun r _ => r = v) ∈ pend))))

variable {D : Nat → Bool} {C rest : List Nat} {env0 env : Env} {G : Gh} {tmps : Array Value} (hc : Canon P ops L)
include hc

theorem Inv.reads (I : Inv ops L D C rest env0 env G tmps) {i : Nat} {o : Oper} (hi : ops[i]? = some o) (hD : D i = false) (hp : ∀ p ∈ preds o, D p = true) {envq : Env} (se : Sees ops i o env0 env envq) :
    EnvRep G (restr envq (o.looksAt ops)) tmps := by
  intro s v e
  have hs := get_restr_mem e
  rw [get_restr hs] at e
  have hpr : ∀ o', ops[i]? = some o' → ∀ p ∈ preds o', D p = true := fun o' ho' => by rw [hi] at ho'; cases ho'; exact hp
  by_cases hw : ∃ (i0 : Nat) (o0 : Oper), ops[i0]? = some o0 ∧ o0.dst = some s ∧ Must ops i0 i
  · have hw' := hw
    obtain ⟨i0, o0, h1, h2, h3⟩ := hw'
    refine I.new s v (fun i1 o1 h4 h5 => ?_) (by rw [← se.r1 s hs hw]; exact e)
    have := hc.uniq h1 h4 h2 h5
    subst this
    exact h3 D I.closed hpr
  · rw [se.r2 s hs hw] at e
    by_cases hex : ∃ (i0 : Nat) (o0 : Oper), ops[i0]? = some o0 ∧ o0.dst = some s
    · obtain ⟨i0, o0, h1, h2⟩ := hex
      refine I.old s v ⟨i0, o0, h1, h2, ?_⟩ e
      rcases hc.cmp h1 hi h2 hs with rfl | h | h
      · exact hD
      · exact (hw ⟨i0, o0, h1, h2, h⟩).elim
      · cases hd : D i0 with
        | false => rfl
        | true =>
          have := h D I.closed fun o' ho' p hp' => I.closed i0 o' ho' hd p hp'
          rw [hD] at this; cases this
    · refine I.new s v (fun i1 o1 h4 h5 => (hex ⟨i1, o1, h4, h5⟩).elim) ?_
      rw [I.same s fun i1 o1 _ h4 h5 => hex ⟨i1, o1, h4, h5⟩]
      exact e

/-- The slots as the next operation in the order sees them. -/
theorem Inv.sees (I : Inv ops L D C rest env0 env G tmps) {i : Nat} {post : List Nat} (hr : rest = i :: post) {o : Oper} (hi : ops[i]? = some o) {env1 : Env} (he : ∀ s, get env1 s = get env s) : Sees ops i o env0 env env1 where
  r1 := fun s _ _ => he s
  r2 := fun s hs hw => by
    rw [he, I.same s fun i1 o1 hm h4 h5 => ?_]
    have e : L = C ++ i :: post := by rw [I.split, hr]
    rcases hc.cmp h4 hi h5 hs with rfl | h | h
    · exact hc.notMem e hm
    · exact hw ⟨i1, o1, h4, h5, h⟩
    · obtain ⟨A, B, rfl⟩ := List.append_of_mem hm
      have h1 := hc.must (A := A) (i := i1) (B := B ++ i :: post) (by rw [e]; simp) h
      have := hc.notMem e
      simp [h1] at this

theorem Inv.get_put (I : Inv ops L D C rest env0 env G tmps) {i : Nat} {post : List Nat} (hr : rest = i :: post) {o : Oper} (hi : ops[i]? = some o) {env1 : Env} (he : ∀ s, get env1 s = get env s) {v : AV} {s : Nat} (hs : o.dst ≠ some s) :
    get (putD env1 o.dst v) s = get env s := by
  rw [← he s]
  cases hd : o.dst with
  | none => rfl
  | some d => rw [hd] at hs; simp only [putD, get, if_neg (fun e => hs (congrArg some e))]

theorem Inv.grow (I : Inv ops L D C rest env0 env G tmps) {i : Nat} {post : List Nat} (hr : rest = i :: post) {o : Oper} (hi : ops[i]? = some o) {env1 : Env} (he : ∀ s, get env1 s = get env s) {v : AV} :
    Inv ops L D (C ++ [i]) post env0 (putD env1 o.dst v) G tmps where
  split := by rw [I.split, hr]; simp
  closed := I.closed
  sub := fun j hj => by simp [I.sub j hj]
  same := fun s hs => by
    rw [I.get_put hc hr hi he (hs i o (by simp) hi)]
    exact I.same s fun j oj hj => hs j oj (by simp [hj])
  old := I.old
  new := fun s u hs e => by
    rw [I.get_put hc hr hi he ?_] at e
    · exact I.new s u hs e
    · intro hd
      have := I.sub i (hs i o hi hd)
      exact hc.notMem (by rw [I.split, hr]) this

omit hc in
theorem Inv.mono (I : Inv ops L D C rest env0 env G tmps) {G' : Gh} (le : G.le G') : Inv ops L D C rest env0 env G' tmps where
  split := I.split
  closed := I.closed
  sub := I.sub
  same := I.same
  old := fun s v h e => let ⟨x, h1, h2⟩ := I.old s v h e; ⟨x, h1, Rep.mono le _ _ h2⟩
  new := fun s v h e => let ⟨x, h1, h2⟩ := I.new s v h e; ⟨x, h1, Rep.mono le _ _ h2⟩

theorem Inv.done (I : Inv ops L D C rest env0 env G tmps) {i : Nat} {o : Oper} (hi : ops[i]? = some o) (hm : i ∈ C) (hp : ∀ p ∈ preds o, D p = true) {D' : Nat → Bool} (hD' : ∀ k, D' k = true ↔ k = i ∨ D k = true) {a : Act} (ha : a.tmps = tmps) (hd : dstOk a.tmps.size o.dst = true)
    {v : AV} (hv : ∀ d, o.dst = some d → get env d = some v) {x : Value} (hx : Rep G v x) : Inv ops L D' C rest env0 env G (a.put o.dst x).tmps := by
  have keep : ∀ s, o.dst ≠ some s → (a.put o.dst x).tmps[s]? = tmps[s]? := fun s hs => by
    rw [← ha]
    cases hdd : o.dst with
    | none => rfl
    | some d => rw [hdd] at hs; simp only [Act.put]; rw [Array.getElem?_setIfInBounds_ne (fun e => hs (congrArg some e))]
  refine ⟨I.split, ?_, ?_, I.same, ?_, ?_⟩
  · intro k ok hk hDk p hpm
    rcases (hD' k).1 hDk with rfl | hDk
    · rw [hi] at hk; cases hk
      exact (hD' p).2 (.inr (hp p hpm))
    · exact (hD' p).2 (.inr (I.closed k ok hk hDk p hpm))
  · intro k hk
    rcases (hD' k).1 hk with rfl | hk
    · exact hm
    · exact I.sub k hk
  · rintro s u ⟨k, ok, h1, h2, h3⟩ e
    have hne : k ≠ i ∧ D k = false := by
      constructor
      · rintro rfl
        have := (hD' k).2 (.inl rfl)
        rw [h3] at this; cases this
      · cases hDk : D k with
        | false => rfl
        | true => have := (hD' k).2 (.inr hDk); rw [h3] at this; cases this
    rw [keep s fun hds => hne.1 (hc.uniq h1 hi h2 hds)]
    exact I.old s u ⟨k, ok, h1, h2, hne.2⟩ e
  · intro s u hs e
    by_cases hds : o.dst = some s
    · rw [hv s hds] at e
      cases e
      refine ⟨x, ?_, hx⟩
      rw [hds]
      rw [hds] at hd
      simp only [dstOk, decide_eq_true_eq] at hd
      simp [Act.put, hd]
    · rw [keep s hds]
      refine I.new s u (fun k ok h1 h2 => ?_) e
      rcases (hD' k).1 (hs k ok h1 h2) with rfl | h
      · rw [hi] at h1; cases h1; exact (hds h2).elim
      · exact h

theorem Known.grow (I : Inv ops L D C rest env0 env G tmps) {i : Nat} {post : List Nat} (hr : rest = i :: post) {o : Oper} (hi : ops[i]? = some o) {env1 : Env} (he : ∀ s, get env1 s = get env s) {v : AV} {q : Nat} {oq : Oper} (hq : ops[q]? = some oq) (hm : q ∈ C)
    {h : AHeap} {pend pend' : Pend} (hpe : ∀ p ∈ pend, p ∈ pend') (k : Known P n ops q oq env0 env h pend) : Known P n ops q oq env0 (putD env1 o.dst v) h pend' := by
  obtain ⟨hd, envq, vq, se, hv, hk⟩ := k.out
  have e : L = C ++ i :: post := by rw [I.split, hr]
  refine ⟨hd, envq, vq, ⟨fun s hs hw => ?_, se.r2⟩, fun d hdd => ?_, ?_⟩
  · rw [se.r1 s hs hw, I.get_put hc hr hi he]
    obtain ⟨i0, o0, h1, h2, h3⟩ := hw
    intro hds
    have := hc.uniq h1 hi h2 hds
    subst this
    obtain ⟨A, B, rfl⟩ := List.append_of_mem hm
    have hA := hc.must (A := A) (i := q) (B := B ++ i0 :: post) (by rw [e]; simp) h3
    have := hc.notMem e
    simp [hA] at this
  · rw [I.get_put hc hr hi he, hv d hdd]
    intro hds
    have := hc.uniq hq hi hdd hds
    subst this
    exact hc.notMem e hm
  · exact hk.imp id fun ⟨h1, h2, h3, h4⟩ => ⟨h1, h2, h3, fun hh => hpe _ (h4 hh)⟩

omit hc in
theorem pendOk_out {m : Nat} {h : AHeap} {k : Prop} : ∀ {pend : Pend}, pendOk m pend h k → k ∧ ∀ p ∈ pend, m.testBit p.1 = false → p.2 h
  | [], hk => ⟨hk, fun p hp => by cases hp⟩
  | (q, c) :: r, hk => by
    simp only [pendOk] at hk
    split at hk
    · rename_i hb
      obtain ⟨h1, h2⟩ := pendOk_out hk
      refine ⟨h1, fun p hp hb' => ?_⟩
      rcases List.mem_cons.1 hp with rfl | hp
      · rw [hb] at hb'; cases hb'
      · exact h2 p hp hb'
    · obtain ⟨hc', hk⟩ := hk
      obtain ⟨h1, h2⟩ := pendOk_out hk
      refine ⟨h1, fun p hp hb' => ?_⟩
      rcases List.mem_cons.1 hp with rfl | hp
      · exact hc'
      · exact h2 p hp hb'
omit hc in
theorem guard_wanted' {o : Oper} {envq : Env} {b : Bool} {a : Act} (r : EnvRep G (restr envq (o.looksAt ops)) a.tmps) (hg : guardIs ops o envq b) : Region.wanted o (yielded ops a.tmps) = b := by
  unfold guardIs at hg
  split at hg
  · rename_i h0
    subst hg
    simp [Region.wanted, h0]
  · rename_i j want h0
    obtain ⟨sl, h1, h2⟩ := hg
    have hs : sl ∈ o.looksAt ops := by simp [Oper.looksAt, h0, h1]
    rw [← get_restr hs] at h2
    rcases h2 with h2 | ⟨rfl, h2⟩
    · rw [guard_wanted h0 h1 r h2]
      cases b <;> cases want <;> rfl
    · exact guard_passed h0 h1 r h2
end
end Go.Proofs.YtmocchnodigmlaaGreatDoor.AL
