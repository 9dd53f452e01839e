import Derived.Test.YtmocchnodigmlaaGreatDoorAL7
set_option linter.all false
set_option autoImplicit true
set_option relaxedAutoImplicit true
set_option linter.unusedVariables false
/-! Stores, appends. -/
namespace Go.Proofs.YtmocchnodigmlaaGreatDoor.AL
variable [Tabs]
section
variable {P : Program} {G : Gh} {h : AHeap} {w : World}

theorem putBlk_putBlk (w : World) (b : Nat) (x y : Obj) : putBlk (putBlk w b x) b y = putBlk w b y := by
  unfold putBlk
  simp [Array.setIfInBounds_setIfInBounds]
theorem putBlk_self (w : World) (b : Nat) (x : Obj) (h : w.heap[b]? = some x) : putBlk w b x = w := by
  unfold putBlk
  have : w.heap.setIfInBounds b x = w.heap := by
    apply Array.ext_getElem?
    intro i
    rw [Array.getElem?_setIfInBounds]
    split
    · rename_i hb
      subst hb
      split
      · exact h.symm
      · rename_i hn; rw [Array.getElem?_eq_none (by omega)] at h; cases h
    · rfl
  rw [this]

theorem store_one (w : World) (b o : Nat) (arr : Array Value) (el : TypeId) (lo hi : Nat) (v : Value) (hb : w.heap[b]? = some (.cells arr el (lo, hi))) (hf : ∀ k, k < arr.size → ¬(lo ≤ k ∧ k < hi)) (ho : o < arr.size) (h1 : v.oneCell' = true) :
    (store ⟨b, o, none⟩ v).run P w = .ok () (putBlk w b (.cells (arr.setIfInBounds o v) el (lo, hi))) := by
  have hc : w.cell? ⟨b, o, none⟩ = some arr[o] := by simp [World.cell?, hb, ho]
  have hz : w.frozen? ⟨b, o, none⟩ = false := by
    have := hf o ho
    simp only [World.frozen?, hb]
    simp only [Bool.and_eq_false_iff, decide_eq_false_iff_not]
    omega
  rw [run_store P w _ v _ h1, hc]
  simp only [hz, Bool.false_eq_true, if_false]
  congr 1
  unfold World.setCell putBlk
  congr 1
  apply Array.ext_getElem?
  intro i
  simp only [Array.getElem?_modify, Array.getElem?_setIfInBounds]
  have hbl : b < w.heap.size := (Array.getElem?_eq_some_iff.1 hb).1
  by_cases hi' : b = i
  · subst hi'
    rw [hb]
    simp [hbl]
  · simp [hi']

theorem store_list (b o : Nat) (el : TypeId) (lo hi : Nat) : ∀ (vs : List Value) (i : Nat) (arr : Array Value) (w : World), w.heap[b]? = some (.cells arr el (lo, hi)) → (∀ k, k < arr.size → ¬(lo ≤ k ∧ k < hi)) → o + i + vs.length ≤ arr.size → (∀ v ∈ vs, v.oneCell' = true) →
    ∃ arr' : Array Value, (storeCells ⟨b, o, none⟩ vs i).run P w = .ok () (putBlk w b (.cells arr' el (lo, hi))) ∧ arr'.toList = splice arr.toList (o + i) vs
  | [], i, arr, w, hb, hf, hl, h1 => ⟨arr, by simp [storeCells, putBlk_self w b _ hb], by simp [splice]⟩
  | v :: vs, i, arr, w, hb, hf, hl, h1 => by
    simp only [List.length_cons] at hl
    have hs := store_one (P := P) w b (o + i) arr el lo hi v hb hf (by omega) (h1 v (by simp))
    have hbl : b < w.heap.size := (Array.getElem?_eq_some_iff.1 hb).1
    obtain ⟨arr', h2, h3⟩ := store_list b o el lo hi vs (i + 1) (arr.setIfInBounds (o + i) v) (putBlk w b (.cells (arr.setIfInBounds (o + i) v) el (lo, hi))) (putBlk_eq w b _ hbl) (by simpa using hf) (by simp; omega) (fun x hx => h1 x (by simp [hx]))
    refine ⟨arr', ?_, ?_⟩
    · simp only [storeCells, Sem.run_bind, add_plain, hs, Result.andThen_ok, h2, putBlk_putBlk]
    · rw [h3]
      apply List.ext_getElem?
      intro j
      rw [splice_get (by simp; omega), splice_get (by simp; omega)]
      simp only [Array.toList_setIfInBounds, List.getElem?_set, List.length_cons, Array.length_toList]
      by_cases c1 : j < o + i
      · rw [if_pos (by omega), if_pos c1, if_neg (by omega)]
      · rw [if_neg c1]
        by_cases c2 : j = o + i
        · subst c2
          rw [if_pos (by omega), if_pos rfl, if_pos (by omega), if_pos (by omega)]
          simp
        · rw [if_neg (by omega), if_neg (show ¬ o + i = j by omega)]
          by_cases c3 : j < o + i + (vs.length + 1)
          · rw [if_pos (by omega), if_pos c3]
            rw [show j - (o + i) = (j - (o + (i + 1))) + 1 by omega, List.getElem?_cons_succ]
          · rw [if_neg (by omega), if_neg c3]

theorem one_all {vs : List Value} : ∀ {as : List AV}, RepL G as vs → as.all AV.one = true → ∀ v ∈ vs, v.oneCell' = true
  | [], r, _ => by simp only [RepL] at r; subst r; simp
  | a :: as, r, ha => by
    simp only [RepL] at r
    obtain ⟨x, xs, rfl, r1, r2⟩ := r
    simp only [List.all_cons, Bool.and_eq_true] at ha
    intro v hv
    simp only [List.mem_cons] at hv
    rcases hv with rfl | hv
    · exact r1.one ha.1
    · exact one_all r2 ha.2 v hv

/-- A store through a pointer. -/
def eStore (n : Nat) (v u : AV) (h : AHeap) (K : AHeap → Prop) : Prop :=
  match v with
  | .ptr i o => (match h[i]? with
    | some (.cells cs) => (u.isTup = false ∧ u.cells.length = n ∧ u.cells.all AV.one = true ∧ o + n ≤ cs.length) ∧ K (h.set i (.cells (splice cs o u.cells)))
    | _ => False)
  | _ => False

theorem objAt_cells (s : Sim G h w) {i : Nat} {cs : List AV} (hi : h[i]? = some (.cells cs)) : ∃ b o arr el lo hi', G.loc i = some (b, o) ∧ w.heap[b]? = some (.cells arr el (lo, hi')) ∧ (∀ k, k < arr.size → ¬(lo ≤ k ∧ k < hi')) ∧
      cs.length ≤ G.cap i ∧ o + G.cap i ≤ arr.size ∧ ∀ (j : Nat) (a : AV), cs[j]? = some a → ∃ v, arr[o + j]? = some v ∧ Rep G a v := s.obj i _ hi

theorem eStore_ok (s : Sim G h w) {t : TypeId} {i : TypeInfo} (hi : P.info? t = some i) {v u : AV} {x y : Value} {K : AHeap → Prop} (hx : Rep G v x) (hy : Rep G u y) (k : eStore i.size v u h K) :
    ∃ h' G' w', (Instr.storeAt t x y).run P w = .ok () w' ∧ K h' ∧ Sim G' h' w' ∧ Evo G h w G' h' w' := by
  unfold eStore at k
  split at k
  · rename_i j off
    split at k
    · rename_i cs hcs
      obtain ⟨⟨ht, hn, ho, hle⟩, k⟩ := k
      simp only [Rep] at hx
      obtain ⟨b, o, h1, rfl⟩ := hx
      obtain ⟨b', o', arr, el, lo, hi', e1, e2, e3, e4, e5, e6⟩ := objAt_cells s hcs
      rw [h1] at e1
      cases e1
      have hc := hy.cells ht
      have hlen : y.cells.size = i.size := by have := hc.length; simp at this; omega
      have hlen' : y.cells.toList.length = i.size := by simpa using hlen
      obtain ⟨arr', h2, h3⟩ := store_list (P := P) b (o + off) el lo hi' y.cells.toList 0 arr w e2 e3 (by omega) (one_all hc ho)
      have hsz : arr'.size = arr.size := by
        have := congrArg List.length h3
        rw [splice_length (by simp; omega)] at this
        simpa using this
      have x : ObjAt G (putBlk w b (.cells arr' el (lo, hi'))) j (.cells (splice cs off u.cells)) := by
        refine ⟨b, o, arr', el, lo, hi', h1, putBlk_eq w b _ (Array.getElem?_eq_some_iff.1 e2).1, by rw [hsz]; exact e3, by rw [splice_length (by omega)]; exact e4, by rw [hsz]; exact e5, ?_⟩
        intro q a ha
        rw [splice_get (by omega)] at ha
        have hget : arr'[o + q]? = arr'.toList[o + q]? := by simp
        rw [hget, h3, splice_get (by simp; omega)]
        by_cases c1 : q < off
        · rw [if_pos c1] at ha
          rw [if_pos (by omega)]
          simpa using e6 q a ha
        · rw [if_neg c1] at ha
          rw [if_neg (by omega)]
          by_cases c2 : q < off + u.cells.length
          · rw [if_pos c2] at ha
            rw [if_pos (by omega)]
            obtain ⟨v, h4, h5⟩ := hc.at _ a ha
            exact ⟨v, by rw [← h4]; congr 1; omega, h5⟩
          · rw [if_neg c2] at ha
            rw [if_neg (by omega)]
            simpa using e6 q a ha
      obtain ⟨s', ev⟩ := sim_turn s hcs rfl h1 rfl x
      refine ⟨_, _, _, ?_, k, s', ev⟩
      simp only [Instr.storeAt, Instr.sureAddr, Sem.run_bind, Sem.run_pure, Result.andThen_ok, storeVar, sizeOf, typeInfo, run_program, hi]
      rw [if_neg (by simp; omega)]
      exact h2
    · exact k.elim
  · exact k.elim

/-! ### append -/
def aElems (h : AHeap) (size : Nat) : AV → Option (Nat × List AV)
  | .snap n cs => if cs.length = n * size then some (n, cs) else none
  | .full n cs => if cs.length = n * size then some (n, cs) else none
  | .sl i off len sz => match h[i]? with
    | some (.cells cs) => if sz = size ∧ off + len * size ≤ cs.length then some (len, (cs.drop off).take (len * size)) else none
    | _ => none
  | .lit (.string s) => if size = 1 then some (s.size, s.data.toList.map fun b => .lit (.int .u8 b.toNat)) else none
  | _ => none

theorem repL_bytes (G : Gh) : ∀ l : List UInt8, RepL G (l.map fun b => .lit (.int .u8 b.toNat)) (l.map fun b => Value.int .u8 b.toNat)
  | [] => by simp [RepL]
  | b :: l => by simp only [List.map_cons, RepL]; exact ⟨_, _, rfl, by simp [Rep, Value.oneCell'], repL_bytes G l⟩

/-- What is loaded off a row of cells that is frozen. -/
theorem frozen_cells (s : Sim G h w) {b o n : Nat} {cs : List AV} (r : RepAt G cs b o) (hn : cs.length = n) : ∃ vs : List Value, vs.length = n ∧ RepL G cs vs ∧ ∀ j u, vs[j]? = some u → w.cell? ⟨b, o + j, none⟩ = some u := by
  refine ⟨(List.range n).map fun j => (G.F b (o + j)).getD undef, by simp, ?_, ?_⟩
  · refine repL_of_at (by simp; omega) fun j a ha => ?_
    obtain ⟨u, h2, h3⟩ := r.at j a ha
    have : j < n := by have := (List.getElem?_eq_some_iff.1 ha).1; omega
    exact ⟨u, by simp [this, h2], h3⟩
  · intro j u hu
    by_cases hj : j < n
    · obtain ⟨u', h2, _⟩ := r.at j cs[j] (by simp)
      simp [hj, h2] at hu
      subst hu
      exact s.frz b (o + j) _ h2
    · simp [hj] at hu

theorem aElems_ok (s : Sim G h w) {size : Nat} {v : AV} {x : Value} (hx : Rep G v x) {m : Nat} {xs : List AV} (e : aElems h size v = some (m, xs)) :
    ∃ vs : List Value, vs.length = m * size ∧ RepL G xs vs ∧ (Builtin.lenOf x).run P w = .ok m w ∧ (Builtin.firstCells size m x).run P w = .ok vs.toArray w := by
  have row : ∀ (b o c : Nat) (vs : List Value), vs.length = m * size → (∀ j u, vs[j]? = some u → w.cell? ⟨b, o + j, none⟩ = some u) →
      (Builtin.firstCells size m (.slice (some ⟨b, o, none⟩) m c)).run P w = .ok vs.toArray w := fun b o c vs hl hv => by
    have := run_loadCells_list (P := P) w ⟨b, o, none⟩ vs (fun j v hj => by rw [add_plain]; exact hv j v hj)
    rw [hl] at this
    simpa [Builtin.firstCells] using this
  unfold aElems at e
  split at e
  · rename_i n cs
    split at e
    · rename_i hl
      cases e
      simp only [Rep] at hx
      rcases hx with ⟨rfl, rfl, rfl⟩ | ⟨b, o, c, h1, rfl, h2⟩
      · exact ⟨[], by simp, by simp [RepL], by simp [Builtin.lenOf], by simp [Builtin.firstCells]⟩
      · obtain ⟨vs, h3, h4, h5⟩ := frozen_cells s h2 hl
        exact ⟨vs, h3, h4, by simp [Builtin.lenOf], row _ _ _ _ h3 h5⟩
    · cases e
  · rename_i n cs
    split at e
    · rename_i hl
      cases e
      simp only [Rep] at hx
      rcases hx with ⟨rfl, rfl, rfl⟩ | ⟨b, o, rfl, h2⟩
      · exact ⟨[], by simp, by simp [RepL], by simp [Builtin.lenOf], by simp [Builtin.firstCells]⟩
      · obtain ⟨vs, h3, h4, h5⟩ := frozen_cells s h2 hl
        exact ⟨vs, h3, h4, by simp [Builtin.lenOf], row _ _ _ _ h3 h5⟩
    · cases e
  · rename_i i off len sz
    split at e
    · rename_i cs hcs
      split at e
      · rename_i hc
        obtain ⟨rfl, hle⟩ := hc
        cases e
        simp only [Rep] at hx
        obtain ⟨b, o, c, ad, h1, h2, h3, h4, rfl⟩ := hx
        obtain ⟨b', o', arr, el, lo, hi', e1, e2, e3, e4, e5, e6⟩ := objAt_cells s hcs
        rw [h1] at e1
        cases e1
        rcases Nat.eq_zero_or_pos c with hc0 | hc0
        · have : m = 0 := by omega
          subst this
          refine ⟨[], by simp, by simp [RepL], by simp [Builtin.lenOf], ?_⟩
          have := row b ad c [] (by simp) (by simp)
          simpa using this
        · obtain rfl := h4 hc0
          have hsz : off + m * sz ≤ G.cap i := by omega
          refine ⟨(arr.toList.drop (o + off)).take (m * sz), by simp; omega, ?_, by simp [Builtin.lenOf], row _ _ _ _ (by simp; omega) ?_⟩
          · refine repL_of_at (by simp; omega) fun j a ha => ?_
            rw [List.getElem?_take] at ha ⊢
            split at ha
            · rename_i hj
              rw [if_pos hj]
              rw [List.getElem?_drop] at ha ⊢
              obtain ⟨v, h5, h6⟩ := e6 (off + j) a ha
              exact ⟨v, by rw [Array.getElem?_toList, ← h5]; congr 1; omega, h6⟩
            · cases ha
          · intro j u hu
            rw [List.getElem?_take] at hu
            split at hu
            · rw [List.getElem?_drop, Array.getElem?_toList] at hu
              simp [World.cell?, e2, hu]
            · cases hu
      · cases e
    · cases e
  · rename_i s'
    split at e
    · rename_i h1
      subst h1
      cases e
      simp only [Rep] at hx
      obtain ⟨rfl, _⟩ := hx
      refine ⟨s'.data.toList.map fun b => Value.int .u8 b.toNat, by simp, repL_bytes G _, by simp [Builtin.lenOf], ?_⟩
      have : (s'.extract 0 s'.size) = s' := by
        apply ByteArray.ext
        simp
      simp only [Builtin.firstCells, this, Sem.run_pure]
      congr 1
      apply Array.toList_inj.1
      simp
    · cases e
  · cases e
end
end Go.Proofs.YtmocchnodigmlaaGreatDoor.AL
