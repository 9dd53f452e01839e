import Derived.Test.YtmocchnodigmlaaGreatDoorAL28
set_option linter.all false
set_option autoImplicit true
set_option relaxedAutoImplicit true
set_option linter.unusedVariables false
set_option linter.unusedSimpArgs false
/-! Going over a map in whatever order. -/
namespace Go.Proofs.YtmocchnodigmlaaGreatDoor.AL
noncomputable section
abbrev Ent := Value × Nat × AV
def oneAll (es : MEnts) : Bool := match es with
  | [] => true
  | e :: es => bA e.1.oneCell' (oneAll es)
theorem oneAll_ok : ∀ {es : MEnts}, oneAll es = true → es.all (fun e => e.1.oneCell') = true
  | [], _ => rfl
  | e :: es, h => by simp only [oneAll, bA_eq] at h; simp [h.1, oneAll_ok h.2]
/-- A map's entries, as a range over it meets them. -/
structure Meets (h : AHeap) (j : Nat) (es : MEnts) (clock : Nat) : Prop where
  map : h[j]? = some (.amap es clock)
  born : bornUp 0 clock es = true
  one : oneAll es = true
theorem Meets.ne {h : AHeap} {j : Nat} {es : MEnts} {clock : Nat} (M : Meets h j es clock) : j < h.length := (List.getElem?_eq_some_iff.1 M.map).1
def mit (j clock : Nat) (ds : MEnts) : AObj := .miter (some j) clock (ds.map (·.2.1)) clock
theorem Meets.at {h : AHeap} {j : Nat} {es : MEnts} {clock : Nat} (M : Meets h j es clock) (o : AObj) : (h ++ [o])[j]? = some (.amap es clock) := by
  rw [List.getElem?_append_left M.ne]; exact M.map
theorem at_end (h : AHeap) (o : AObj) : (h ++ [o])[h.length]? = some o := by simp
theorem set_end (h : AHeap) (o o' : AObj) : (h ++ [o]).set h.length o' = h ++ [o'] := by simp
theorem bornFind_at {clock : Nat} : ∀ {es : MEnts} {lo : Nat}, bornUp lo clock es = true → ∀ e ∈ es, bornFind e.2.1 es = some (e.1, e.2.2)
  | [], lo, h, e, he => by cases he
  | (k, b, v) :: es, lo, h, e, he => by
    have hb := bornUp_ok h
    simp only [bornUp, bA_eq] at h
    unfold bornFind
    rcases List.mem_cons.1 he with rfl | he
    · simp
    · have : ¬ (b == e.2.1) = true := fun hh => by
        have hn := hb.2
        simp only [List.map_cons, List.nodup_cons] at hn
        exact hn.1 (List.mem_map.2 ⟨e, he, (by simpa using hh : b = e.2.1).symm⟩)
      rw [if_neg this]
      exact bornFind_at h.2.2 e he
theorem nodup_len {α : Type} : ∀ {ds es : List α}, ds.Nodup → (∀ e ∈ ds, e ∈ es) → ds.length ≤ es.length
  | [], es, _, _ => by simp
  | d :: ds, es, hn, h => by
    obtain ⟨s, t, rfl⟩ := List.append_of_mem (h d (by simp))
    rw [List.nodup_cons] at hn
    have := nodup_len (ds := ds) (es := s ++ t) hn.2 fun e he => by
      have := h e (by simp [he])
      simp only [List.mem_append, List.mem_cons] at this ⊢
      rcases this with h1 | h1 | h1
      · exact .inl h1
      · subst h1; exact (hn.1 he).elim
      · exact .inr h1
    simp at this ⊢; omega
variable [Tabs]
/-- One round. -/
theorem next_round {h : AHeap} {j : Nat} {es ds : MEnts} {clock : Nat} (M : Meets h j es clock) (hds : ∀ e ∈ ds, e ∈ es) {K : AV → AHeap → Prop}
    (hend : (∀ e ∈ es, e ∈ ds) → K (.tup [B false]) (h ++ [mit j clock ds])) (hstep : ∀ e ∈ es, e ∉ ds → K (.tup [B true, .lit e.1, e.2.2]) (h ++ [mit j clock (ds ++ [e])])) : qNextM (.ptr h.length 0) (h ++ [mit j clock ds]) K := by
  have hb := bornUp_ok M.born
  have inj : ∀ e ∈ es, ∀ d ∈ es, e.2.1 = d.2.1 → e = d := fun e he d hd hh => by
    have h1 := bornFind_at M.born e he
    have h2 := bornFind_at M.born d hd
    rw [hh] at h1
    rw [h1] at h2
    cases e; rename_i ek eb; cases eb; cases d; rename_i dk db; cases db
    simp at h2 hh
    simp [h2, hh]
  refine ⟨?_⟩
  unfold eNextM
  simp only [at_end, mit, M.at]
  refine ⟨⟨oneAll_ok M.one, ?_⟩, fun ha => ?_, fun e he hn => ?_⟩
  · cases es with
    | nil => simp
    | cons e es =>
      have := (hb.1 e (by simp)).2
      simp only [List.isEmpty_cons, Bool.not_false, Bool.and_true, List.all_cons, Bool.and_eq_false_iff]
      exact .inr (.inl (by simpa using this))
  · refine hend fun e he => ?_
    rcases ha e he with h1 | h1
    · obtain ⟨d, hd, hh⟩ := List.mem_map.1 h1
      have := inj d (hds d hd) e he hh
      subst this; exact hd
    · have := (hb.1 e he).2; omega
  · have hne : e ∉ ds := fun hm => hn (List.mem_map.2 ⟨e, hm, rfl⟩)
    have := hstep e he hne
    rw [set_end]
    simpa [mit] using this
theorem entry_now {h : AHeap} {j : Nat} {es ds : MEnts} {clock : Nat} (M : Meets h j es clock) {e : Ent} (he : e ∈ es) {K : AV → Prop} (k : K (.tup [.lit e.1, e.2.2])) : qEntry (.ptr h.length 0) (h ++ [mit j clock (ds ++ [e])]) K := by
  refine ⟨?_⟩
  unfold pEntry
  simp only [at_end, mit, M.at, List.map_append, List.map_cons, List.map_nil, List.getLast?_append, List.getLast?_singleton, Option.some_or]
  rw [bornFind_at M.born e he]
  have : e.1.oneCell' = true := by
    have := oneAll_ok M.one
    rw [List.all_eq_true] at this
    exact this e he
  simp only [this, beq_self_eq_true, Bool.and_self, if_true]
  exact k
/-- A range over a map: what is held of the entries that were met. -/
theorem range_loop {h : AHeap} {j : Nat} {es : MEnts} {clock : Nat} (M : Meets h j es clock) (Inv : MEnts → List AV → Prop) {vs0 : List AV} {Bd : List AV → AHeap → (List AV → AHeap → Prop) → Prop} (h0 : Inv [] vs0)
    (round : ∀ (ds : MEnts) (vs : List AV) (next : List AV → AHeap → Prop), ds.Nodup → (∀ e ∈ ds, e ∈ es) → Inv ds vs → (∀ (e : Ent) (vs' : List AV), e ∈ es → e ∉ ds → Inv (ds ++ [e]) vs' → next vs' (h ++ [mit j clock (ds ++ [e])])) → Bd vs (h ++ [mit j clock ds]) next) :
    Loop vs0 (h ++ [mit j clock []]) Bd := by
  refine ⟨⟨fun k vs hh => ∃ ds : MEnts, k = es.length - ds.length ∧ ds.Nodup ∧ (∀ e ∈ ds, e ∈ es) ∧ hh = h ++ [mit j clock ds] ∧ Inv ds vs, ⟨_, [], rfl, by simp, by simp, rfl, h0⟩, ?_⟩⟩
  rintro k vs hh ⟨ds, rfl, hnd, hds, rfl, hi⟩
  refine round ds vs _ hnd hds hi fun e vs' he hn hi' => ?_
  have hnd' : (ds ++ [e]).Nodup := by
    rw [List.nodup_append]
    exact ⟨hnd, by simp, fun a ha b hb => by simp at hb; subst hb; exact fun e => hn (e ▸ ha)⟩
  have hlen : (ds ++ [e]).length ≤ es.length := nodup_len hnd' fun x hx => by
    rcases List.mem_append.1 hx with hx | hx
    · exact hds x hx
    · simp at hx; subst hx; exact he
  refine ⟨es.length - (ds ++ [e]).length, ?_, ds ++ [e], rfl, hnd', fun x hx => ?_, rfl, hi'⟩
  · simp at hlen ⊢; omega
  · rcases List.mem_append.1 hx with hx | hx
    · exact hds x hx
    · simp at hx; subst hx; exact he
theorem nodup_of_born {clock lo : Nat} {es : MEnts} (h : bornUp lo clock es = true) : es.Nodup :=
  (List.pairwise_map.1 (bornUp_ok h).2).imp fun h e => h (by rw [e])
end
end Go.Proofs.YtmocchnodigmlaaGreatDoor.AL
