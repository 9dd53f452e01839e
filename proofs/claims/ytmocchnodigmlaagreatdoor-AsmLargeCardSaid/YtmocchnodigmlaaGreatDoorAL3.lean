import Derived.Test.YtmocchnodigmlaaGreatDoorAL2
set_option linter.all false
set_option autoImplicit true
set_option relaxedAutoImplicit true
set_option linter.unusedVariables false
/-! Memory: what becomes of it. -/
namespace Go.Proofs.YtmocchnodigmlaaGreatDoor.AL
variable [Tabs]

def Gh.add (G : Gh) (i : Nat) (p : Nat × Nat) (c : Nat) : Gh :=
  { G with loc := fun j => if j = i then some p else G.loc j, cap := fun j => if j = i then c else G.cap j }

theorem Sim.fresh {G : Gh} {h : AHeap} {w : World} (s : Sim G h w) : G.loc h.length = none := by
  cases e : G.loc h.length with
  | none => rfl
  | some p => have := s.dom _ _ e; omega

theorem Gh.le_add {G : Gh} {i : Nat} (hn : G.loc i = none) (p : Nat × Nat) (c : Nat) : G.le (G.add i p c) where
  loc j q e := by
    simp only [Gh.add]
    split
    · rename_i hj; subst hj; rw [hn] at e; cases e
    · exact e
  cap j q e := by
    simp only [Gh.add]
    split
    · rename_i hj; subst hj; rw [hn] at e; cases e
    · rfl
  F _ _ _ e := e

theorem ObjAt.keep {G G' : Gh} {w w' : World} {i : Nat} {o : AObj} (le : G.le G') (x : ObjAt G w i o) (hb : ∀ p, G.loc i = some p → o.live = true → w'.heap[p.1]? = w.heap[p.1]?) : ObjAt G' w' i o := by
  cases o with
  | cells cs =>
    obtain ⟨b, o, arr, el, lo, hi, e1, e2, e3, e4, e5, e6⟩ := x
    refine ⟨b, o, arr, el, lo, hi, le.loc _ _ e1, by rw [hb _ e1 rfl]; exact e2, e3, by rw [le.cap _ _ e1]; exact e4, by rw [le.cap _ _ e1]; exact e5, fun j a ha => ?_⟩
    obtain ⟨v, h1, h2⟩ := e6 j a ha
    exact ⟨v, h1, Rep.mono le a v h2⟩
  | amap es clock =>
    obtain ⟨b, arr, e1, e2, e6⟩ := x
    exact ⟨b, arr, le.loc _ _ e1, by rw [hb _ e1 rfl]; exact e2, RepE.mono le _ _ e6⟩
  | miter m since seen last =>
    obtain ⟨b, mb, e1, e2, e3⟩ := x
    refine ⟨b, mb, le.loc _ _ e1, by rw [hb _ e1 rfl]; exact e2, ?_⟩
    cases m with
    | none => exact e3
    | some j => obtain ⟨q, h1, h2⟩ := e3; exact ⟨q, le.loc _ _ h1, h2⟩
  | siter s pos =>
    obtain ⟨b, e1, e2⟩ := x
    exact ⟨b, le.loc _ _ e1, by rw [hb _ e1 rfl]; exact e2⟩
  | keys m =>
    obtain ⟨b, el, q, e1, e2, e3⟩ := x
    exact ⟨b, el, q, le.loc _ _ e1, by rw [hb _ e1 rfl]; exact e2, le.loc _ _ e3⟩
  | dead => trivial

theorem Sim.loc_lt {G : Gh} {h : AHeap} {w : World} (s : Sim G h w) {i : Nat} {o : AObj} {p : Nat × Nat} (h1 : h[i]? = some o) (h2 : o.live = true) (h3 : G.loc i = some p) : p.1 < w.heap.size :=
  s.owned_lt ⟨i, o, p, h1, h2, h3, rfl⟩

theorem frz_block {G : Gh} {h : AHeap} {w : World} (s : Sim G h w) {b o : Nat} {v : Value} (e : G.F b o = some v) : b < w.heap.size := by
  have := World.block_lt_of_cell? w _ (s.frz b o v e)
  simpa using this

/-- A new block, a new object. -/
theorem sim_push {G : Gh} {h : AHeap} {w : World} (s : Sim G h w) (ob : Obj) (o : AObj) (c : Nat) (x : ObjAt (G.add h.length (w.heap.size, 0) c) (w.alloc ob) h.length o) :
    Sim (G.add h.length (w.heap.size, 0) c) (h ++ [o]) (w.alloc ob) ∧ Evo G h w (G.add h.length (w.heap.size, 0) c) (h ++ [o]) (w.alloc ob) := by
  have le := Gh.le_add s.fresh (w.heap.size, 0) c
  have hold : ∀ b, b < w.heap.size → (w.alloc ob).heap[b]? = w.heap[b]? := fun b hb => by
    show (w.heap.push ob)[b]? = _
    rw [Array.getElem?_push, if_neg (by omega)]
  refine ⟨⟨?_, ?_, ?_, ?_, ?_, s.tab⟩, ⟨le, by simp, rfl, rfl, rfl, fun b hb _ => hold b hb, ?_⟩⟩
  · intro i oi hi
    rcases Nat.lt_or_ge i h.length with hlt | hge
    · rw [List.getElem?_append_left hlt] at hi
      exact (s.obj i oi hi).keep le fun p hp hl => hold _ (s.loc_lt hi hl hp)
    · rw [List.getElem?_append_right hge] at hi
      have : i = h.length := by
        rcases Nat.eq_or_lt_of_le hge with h1 | h1
        · exact h1.symm
        · rw [List.getElem?_eq_none (by simp; omega)] at hi; cases hi
      subst this
      simp at hi
      subst hi
      exact x
  · intro i p hp
    simp only [Gh.add] at hp
    split at hp
    · simp; omega
    · have := s.dom i p hp; simp; omega
  · intro i j oi oj p q hi hj li lj hp hq hpq
    simp only [Gh.add] at hp hq
    rcases Nat.lt_or_ge i h.length with hli | hgi <;> rcases Nat.lt_or_ge j h.length with hlj | hgj
    · rw [if_neg (by omega)] at hp hq
      rw [List.getElem?_append_left hli] at hi
      rw [List.getElem?_append_left hlj] at hj
      exact s.apart i j oi oj p q hi hj li lj hp hq hpq
    · rw [if_neg (by omega)] at hp
      rw [List.getElem?_append_left hli] at hi
      have h1 := s.loc_lt hi li hp
      have hjl : j < (h ++ [o]).length := (List.getElem?_eq_some_iff.1 hj).1
      have : j = h.length := by simp at hjl; omega
      rw [if_pos this] at hq
      cases hq
      simp at hpq
      omega
    · rw [if_neg (by omega)] at hq
      rw [List.getElem?_append_left hlj] at hj
      have h1 := s.loc_lt hj lj hq
      have hil : i < (h ++ [o]).length := (List.getElem?_eq_some_iff.1 hi).1
      have : i = h.length := by simp at hil; omega
      rw [if_pos this] at hp
      cases hp
      simp at hpq
      omega
    · have hil : i < (h ++ [o]).length := (List.getElem?_eq_some_iff.1 hi).1
      have hjl : j < (h ++ [o]).length := (List.getElem?_eq_some_iff.1 hj).1
      simp at hil hjl
      omega
  · intro b off v e
    have e' : G.F b off = some v := e
    rw [World.cell?_alloc_lt w ob _ (frz_block s e')]
    exact s.frz b off v e'
  · intro i oi p hi li hp off
    simp only [Gh.add] at hp ⊢
    rcases Nat.lt_or_ge i h.length with hlt | hge
    · rw [if_neg (by omega)] at hp
      rw [List.getElem?_append_left hlt] at hi
      exact s.sep i oi p hi li hp off
    · have hil : i < (h ++ [o]).length := (List.getElem?_eq_some_iff.1 hi).1
      have : i = h.length := by simp at hil; omega
      rw [if_pos this] at hp
      cases hp
      cases e : G.F w.heap.size off with
      | none => rfl
      | some v => have := frz_block s e; omega
  · intro b ⟨i, oi, p, hi, li, hp, hb⟩
    simp only [Gh.add] at hp
    rcases Nat.lt_or_ge i h.length with hlt | hge
    · rw [if_neg (by omega)] at hp
      rw [List.getElem?_append_left hlt] at hi
      exact .inl ⟨i, oi, p, hi, li, hp, hb⟩
    · have hil : i < (h ++ [o]).length := (List.getElem?_eq_some_iff.1 hi).1
      have : i = h.length := by simp at hil; omega
      rw [if_pos this] at hp
      cases hp
      exact .inr (by simp at hb; omega)

/-- The world with one block turned. -/
def putBlk (w : World) (b : Nat) (o : Obj) : World := { w with heap := w.heap.setIfInBounds b o }
theorem putBlk_ne (w : World) (b : Nat) (o : Obj) (k : Nat) (h : k ≠ b) : (putBlk w b o).heap[k]? = w.heap[k]? := by
  simp only [putBlk]; rw [Array.getElem?_setIfInBounds_ne (Ne.symm h)]
theorem putBlk_eq (w : World) (b : Nat) (o : Obj) (h : b < w.heap.size) : (putBlk w b o).heap[b]? = some o := by
  simp [putBlk, h]
theorem putBlk_cell (w : World) (b : Nat) (o : Obj) (a : Addr) (h : a.block ≠ b) : (putBlk w b o).cell? a = w.cell? a := by
  unfold World.cell?; rw [putBlk_ne w b o _ h]

/-- An object in place of what it was. -/
theorem sim_turn {G : Gh} {h : AHeap} {w : World} (s : Sim G h w) {i : Nat} {o o' : AObj} {p : Nat × Nat} {ob : Obj} (hi : h[i]? = some o) (hl : o.live = true) (hp : G.loc i = some p) (hl' : o'.live = true)
    (x : ObjAt G (putBlk w p.1 ob) i o') : Sim G (h.set i o') (putBlk w p.1 ob) ∧ Evo G h w G (h.set i o') (putBlk w p.1 ob) := by
  have hlt := s.loc_lt hi hl hp
  have hil : i < h.length := (List.getElem?_eq_some_iff.1 hi).1
  have key : ∀ k ok, (h.set i o')[k]? = some ok → k ≠ i → h[k]? = some ok := fun k ok hk hne => by
    rwa [List.getElem?_set_ne (Ne.symm hne)] at hk
  have keyl : ∀ (k : Nat) (ok : AObj), (h.set i o')[k]? = some ok → ok.live = true → ∃ ok' : AObj, h[k]? = some ok' ∧ ok'.live = true := fun k ok hk hlk => by
    by_cases hne : k = i
    · subst hne; exact ⟨o, hi, hl⟩
    · exact ⟨ok, key k ok hk hne, hlk⟩
  refine ⟨⟨?_, ?_, ?_, ?_, ?_, s.tab⟩, ⟨Gh.le.refl G, by simp [putBlk], rfl, rfl, rfl, ?_, ?_⟩⟩
  · intro k ok hk
    by_cases hne : k = i
    · subst hne
      rw [List.getElem?_set_self hil] at hk
      cases hk
      exact x
    · have hk' := key k ok hk hne
      refine (s.obj k ok hk').keep (Gh.le.refl G) fun q hq hlk => putBlk_ne _ _ _ _ fun e => ?_
      exact hne (s.apart k i ok o q p hk' hi hlk hl hq hp e)
  · intro k q hq
    simpa using s.dom k q hq
  · intro a b oa ob' q r ha hb la lb hq hr e
    obtain ⟨oa', ha', la'⟩ := keyl a oa ha la
    obtain ⟨ob'', hb', lb'⟩ := keyl b ob' hb lb
    exact s.apart a b oa' ob'' q r ha' hb' la' lb' hq hr e
  · intro b off v e
    rw [putBlk_cell]
    · exact s.frz b off v e
    · intro hb
      simp only at hb
      have := s.sep i o p hi hl hp off
      rw [← hb, e] at this
      cases this
  · intro k ok q hk hlk hq off
    obtain ⟨ok', hk', hlk'⟩ := keyl k ok hk hlk
    exact s.sep k ok' q hk' hlk' hq off
  · intro b hb hno
    exact putBlk_ne _ _ _ _ fun e => hno ⟨i, o, p, hi, hl, hp, e.symm⟩
  · intro b ⟨k, ok, q, hk, hlk, hq, e⟩
    obtain ⟨ok', hk', hlk'⟩ := keyl k ok hk hlk
    exact .inl ⟨k, ok', q, hk', hlk', hq, e⟩

/-- What is not needed any more is let go. -/
theorem sim_kill {G : Gh} {h : AHeap} {w : World} (s : Sim G h w) (i : Nat) : Sim G (h.set i .dead) w ∧ Evo G h w G (h.set i .dead) w := by
  have keyl : ∀ (k : Nat) (ok : AObj), (h.set i .dead)[k]? = some ok → ok.live = true → h[k]? = some ok := fun k ok hk hlk => by
    by_cases hne : k = i
    · subst hne
      rw [List.getElem?_set] at hk
      simp at hk
      obtain ⟨_, rfl⟩ := hk
      simp [AObj.live] at hlk
    · rwa [List.getElem?_set_ne (Ne.symm hne)] at hk
  refine ⟨⟨?_, ?_, ?_, s.frz, ?_, s.tab⟩, ⟨Gh.le.refl G, Nat.le_refl _, rfl, rfl, rfl, fun _ _ _ => rfl, ?_⟩⟩
  · intro k ok hk
    cases hl : ok.live with
    | false => cases ok <;> simp_all [AObj.live, ObjAt]
    | true => exact s.obj k ok (keyl k ok hk hl)
  · intro k q hq; simpa using s.dom k q hq
  · intro a b oa ob q r ha hb la lb hq hr e
    exact s.apart a b oa ob q r (keyl a oa ha la) (keyl b ob hb lb) la lb hq hr e
  · intro k ok q hk hlk hq off
    exact s.sep k ok q (keyl k ok hk hlk) hlk hq off
  · intro b ⟨k, ok, q, hk, hlk, hq, e⟩
    exact .inl ⟨k, ok, q, keyl k ok hk hlk, hlk, hq, e⟩

/-- A new object in a block that nobody else has any more. -/
theorem sim_take {G : Gh} {h : AHeap} {w : World} (s : Sim G h w) {i : Nat} {o : AObj} {p : Nat × Nat} (hi : h[i]? = some o) (hl : o.live = true) (hp : G.loc i = some p) (off c : Nat) (ob : Obj) (o' : AObj) (hl' : o'.live = true)
    (x : ObjAt (G.add h.length (p.1, off) c) (putBlk w p.1 ob) h.length o') :
    Sim (G.add h.length (p.1, off) c) (h.set i .dead ++ [o']) (putBlk w p.1 ob) ∧ Evo G h w (G.add h.length (p.1, off) c) (h.set i .dead ++ [o']) (putBlk w p.1 ob) := by
  have hlt := s.loc_lt hi hl hp
  have hil : i < h.length := (List.getElem?_eq_some_iff.1 hi).1
  have le := Gh.le_add s.fresh (p.1, off) c
  have lens : (h.set i .dead).length = h.length := by simp
  -- an old one that lives
  have keyl : ∀ (k : Nat) (ok : AObj), (h.set i .dead ++ [o'])[k]? = some ok → ok.live = true → (k < h.length ∧ h[k]? = some ok ∧ k ≠ i) ∨ (k = h.length ∧ ok = o') := fun k ok hk hlk => by
    rcases Nat.lt_or_ge k h.length with hlt' | hge
    · rw [List.getElem?_append_left (by simpa using hlt')] at hk
      by_cases hne : k = i
      · subst hne
        rw [List.getElem?_set_self hil] at hk
        cases hk
        simp [AObj.live] at hlk
      · rw [List.getElem?_set_ne (Ne.symm hne)] at hk
        exact .inl ⟨hlt', hk, hne⟩
    · have hkl : k < (h.set i .dead ++ [o']).length := (List.getElem?_eq_some_iff.1 hk).1
      have : k = h.length := by simp at hkl; omega
      subst this
      rw [List.getElem?_append_right (by simp)] at hk
      simp at hk
      exact .inr ⟨rfl, hk.symm⟩
  have hloc : ∀ k, k < h.length → (G.add h.length (p.1, off) c).loc k = G.loc k := fun k hk => by simp only [Gh.add]; rw [if_neg (by omega)]
  have hnew : (G.add h.length (p.1, off) c).loc h.length = some (p.1, off) := by simp [Gh.add]
  refine ⟨⟨?_, ?_, ?_, ?_, ?_, s.tab⟩, ⟨le, by simp [putBlk], rfl, rfl, rfl, ?_, ?_⟩⟩
  · intro k ok hk
    cases hlk : ok.live with
    | false => cases ok <;> simp_all [AObj.live, ObjAt]
    | true =>
      rcases keyl k ok hk hlk with ⟨hkl, hk', hne⟩ | ⟨rfl, rfl⟩
      · refine (s.obj k ok hk').keep le fun q hq hlk => putBlk_ne _ _ _ _ fun e => ?_
        exact hne (s.apart k i ok o q p hk' hi hlk hl hq hp e)
      · exact x
  · intro k q hq
    simp only [Gh.add] at hq
    split at hq
    · simp; omega
    · have := s.dom k q hq; simp; omega
  · intro a b oa ob' q r ha hb la lb hq hr e
    rcases keyl a oa ha la with ⟨hal, ha', hna⟩ | ⟨rfl, rfl⟩ <;> rcases keyl b ob' hb lb with ⟨hbl, hb', hnb⟩ | ⟨rfl, rfl⟩
    · rw [hloc _ hal] at hq
      rw [hloc _ hbl] at hr
      exact s.apart a b oa ob' q r ha' hb' la lb hq hr e
    · rw [hloc _ hal] at hq
      rw [hnew] at hr
      cases hr
      exact absurd (s.apart a i oa o q p ha' hi la hl hq hp e) hna
    · rw [hloc _ hbl] at hr
      rw [hnew] at hq
      cases hq
      exact absurd (s.apart b i ob' o r p hb' hi lb hl hr hp e.symm) hnb
    · rfl
  · intro b off' v e
    rw [putBlk_cell]
    · exact s.frz b off' v e
    · intro hb
      simp only at hb
      have := s.sep i o p hi hl hp off'
      rw [← hb] at this
      have e' : G.F b off' = some v := e
      rw [e'] at this
      cases this
  · intro k ok q hk hlk hq off'
    rcases keyl k ok hk hlk with ⟨hkl, hk', hne⟩ | ⟨rfl, rfl⟩
    · rw [hloc _ hkl] at hq
      exact s.sep k ok q hk' hlk hq off'
    · rw [hnew] at hq
      cases hq
      exact s.sep i o p hi hl hp off'
  · intro b hb hno
    exact putBlk_ne _ _ _ _ fun e => hno ⟨i, o, p, hi, hl, hp, e.symm⟩
  · intro b ⟨k, ok, q, hk, hlk, hq, e⟩
    rcases keyl k ok hk hlk with ⟨hkl, hk', hne⟩ | ⟨rfl, rfl⟩
    · rw [hloc _ hkl] at hq
      exact .inl ⟨k, ok, q, hk', hlk, hq, e⟩
    · rw [hnew] at hq
      cases hq
      exact .inl ⟨i, o, p, hi, hl, hp, e⟩

/-- A draw turns nothing. -/
theorem Sim.drawn {G : Gh} {h : AHeap} {w : World} (s : Sim G h w) (n : Nat) : Sim G h { w with drawn := n } ∧ Evo G h w G h { w with drawn := n } := by
  refine ⟨⟨fun i o hi => (s.obj i o hi).keep (Gh.le.refl G) fun _ _ _ => rfl, s.dom, s.apart, s.frz, s.sep, s.tab⟩, ⟨Gh.le.refl G, Nat.le_refl _, rfl, rfl, rfl, fun _ _ _ => rfl, fun _ h => .inl h⟩⟩
end Go.Proofs.YtmocchnodigmlaaGreatDoor.AL
