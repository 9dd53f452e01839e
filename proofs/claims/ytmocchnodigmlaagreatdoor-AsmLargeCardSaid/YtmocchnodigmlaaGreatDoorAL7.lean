import Derived.Test.YtmocchnodigmlaaGreatDoorAL6
set_option linter.all false
set_option autoImplicit true
set_option relaxedAutoImplicit true
set_option linter.unusedVariables false
/-! Steps that make memory, or write it. -/
namespace Go.Proofs.YtmocchnodigmlaaGreatDoor.AL
variable [Tabs]
section
variable {P : Program} {G : Gh} {h : AHeap} {w : World}

/-- Cells that nobody will write. -/
def Gh.freeze (G : Gh) (b : Nat) (vs : List Value) : Gh := { G with F := fun c o => if c = b then vs[o]? else G.F c o }

theorem sim_freeze (s : Sim G h w) (vs : Array Value) (t : TypeId) :
    Sim (G.freeze w.heap.size vs.toList) h (w.alloc (.cells vs t)) ∧ Evo G h w (G.freeze w.heap.size vs.toList) h (w.alloc (.cells vs t)) := by
  have hF : ∀ o, G.F w.heap.size o = none := fun o => by
    cases e : G.F w.heap.size o with
    | none => rfl
    | some v => have := frz_block s e; omega
  have le : G.le (G.freeze w.heap.size vs.toList) := ⟨fun _ _ e => e, fun _ _ _ => rfl, fun b o v e => by
    simp only [Gh.freeze]
    split
    · rename_i hb; subst hb; rw [hF] at e; cases e
    · exact e⟩
  have hold : ∀ b, b < w.heap.size → (w.alloc (.cells vs t)).heap[b]? = w.heap[b]? := fun b hb => by
    show (w.heap.push _)[b]? = _
    rw [Array.getElem?_push, if_neg (by omega)]
  refine ⟨⟨fun i o hi => (s.obj i o hi).keep le fun p hp hl => hold _ (s.loc_lt hi hl hp), s.dom, s.apart, ?_, ?_, Tabs.mono le.F s.tab⟩, ⟨le, by simp, rfl, rfl, rfl, fun b hb _ => hold b hb, fun b hb => .inl hb⟩⟩
  · intro b o v e
    simp only [Gh.freeze] at e
    split at e
    · rename_i hb
      subst hb
      rw [World.cell?_alloc_new]
      simpa using e
    · rw [World.cell?_alloc_lt w _ _ (frz_block s e)]
      exact s.frz b o v e
  · intro i o p hi hl hp off
    simp only [Gh.freeze]
    have := s.loc_lt hi hl hp
    rw [if_neg (by omega)]
    exact s.sep i o p hi hl hp off

theorem repAt_freeze (le : G.le (G.freeze w.heap.size vs)) {cs : List AV} (r : RepL G cs vs) : RepAt (G.freeze w.heap.size vs) cs w.heap.size 0 :=
  repAt_of_at fun j a e => by
    obtain ⟨v, h1, h2⟩ := r.at j a e
    exact ⟨v, by simp [Gh.freeze, h1], Rep.mono le a v h2⟩

/-! ### New variables -/
def eNew (cs : List AV) (h : AHeap) (K : AV → AHeap → Prop) : Prop := K (.ptr h.length 0) (h ++ [.cells cs])
theorem eNew_ok (s : Sim G h w) {cs : List AV} {vs : Array Value} {t : TypeId} (r : RepL G cs vs.toList) {K : AV → AHeap → Prop} (k : eNew cs h K) :
    ∃ r' h' G', Rep G' r' (.pointer (some ⟨w.heap.size, 0, none⟩)) ∧ K r' h' ∧ Sim G' h' (w.alloc (.cells vs t)) ∧ Evo G h w G' h' (w.alloc (.cells vs t)) := by
  have hl := r.length
  have le := Gh.le_add s.fresh (w.heap.size, 0) vs.size
  have x : ObjAt (G.add h.length (w.heap.size, 0) vs.size) (w.alloc (.cells vs t)) h.length (.cells cs) := by
    refine ⟨w.heap.size, 0, vs, t, 0, 0, by simp [Gh.add], ?_, by omega, ?_, ?_, ?_⟩
    · show (w.heap.push _)[w.heap.size]? = _
      simp
    · simp [Gh.add]; simp at hl; omega
    · simp [Gh.add]
    · intro j a e
      obtain ⟨v, h1, h2⟩ := r.at j a e
      exact ⟨v, by simpa using h1, Rep.mono le a v h2⟩
  obtain ⟨s', ev⟩ := sim_push s (.cells vs t) (.cells cs) vs.size x
  exact ⟨_, _, _, by simp only [Rep]; exact ⟨w.heap.size, 0, by simp [Gh.add], rfl⟩, k, s', ev⟩

/-! ### A literal of a slice -/
def pBuildSlice (n size : Nat) (vs : List AV) (K : AV → Prop) : Prop := (vs.length = n ∧ (vs.all fun v => !v.isTup && v.cells.length == size) = true) ∧ K (.full n (vs.flatMap (·.cells)))

theorem flatMap_rep (size : Nat) : ∀ {vs : List AV} {xs : List Value}, RepL G vs xs → (vs.all fun v => !v.isTup && v.cells.length == size) = true → RepL G (vs.flatMap (·.cells)) (xs.flatMap fun x => x.cells.toList) ∧ (vs.flatMap (·.cells)).length = vs.length * size
  | [], xs, r, _ => by simp only [RepL] at r; subst r; simp [RepL]
  | v :: vs, xs, r, ha => by
    simp only [RepL] at r
    obtain ⟨x, xs', rfl, r1, r2⟩ := r
    simp only [List.all_cons, Bool.and_eq_true, Bool.not_eq_true', beq_iff_eq] at ha
    obtain ⟨h1, h2⟩ := flatMap_rep size r2 ha.2
    simp only [List.flatMap_cons, List.length_append, List.length_cons, Nat.succ_mul]
    exact ⟨(r1.cells ha.1.1).append h1, by omega⟩

theorem fill_row (size : Nat) : ∀ (vs : List AV) (xs : List Value) (k : Nat) (arr : Array Value), RepL G vs xs → (vs.all fun v => !v.isTup && v.cells.length == size) = true → (k + vs.length) * size ≤ arr.size →
    ∃ arr' : Array Value, Instr.fill (fun i => some (i * size, size)) arr ((xs.zipIdx k).map fun p => (p.2, p.1)) = some arr' ∧ arr'.toList = splice arr.toList (k * size) (xs.flatMap fun x => x.cells.toList)
  | [], xs, k, arr, r, ha, hl => by
    simp only [RepL] at r
    subst r
    exact ⟨arr, by simp [Instr.fill], by simp [splice]⟩
  | v :: vs, xs, k, arr, r, ha, hl => by
    simp only [RepL] at r
    obtain ⟨x, xs', rfl, r1, r2⟩ := r
    simp only [List.all_cons, Bool.and_eq_true, Bool.not_eq_true', beq_iff_eq] at ha
    obtain ⟨⟨ht, hn⟩, ha⟩ := ha
    have hc := r1.cells ht
    have hsz : x.cells.size = size := by have := hc.length; simp at this; omega
    have hmul : (k + (v :: vs).length) * size = k * size + size + vs.length * size := by
      simp only [List.length_cons]
      rw [Nat.add_mul, Nat.succ_mul]; omega
    have key := foldl_cells (k * size) x.cells.toList 0 arr (by simp; omega)
    have e1 : (x.cells.zipIdx.foldl (fun (cs : Array Value) (x : Value × Nat) => cs.setIfInBounds (k * size + x.2) x.1) arr).toList = splice arr.toList (k * size) x.cells.toList := by
      rw [← Array.foldl_toList]
      have : x.cells.zipIdx.toList = x.cells.toList.zipIdx 0 := by simp
      rw [this]
      simpa using key
    have hsz2 : (x.cells.zipIdx.foldl (fun (cs : Array Value) (x : Value × Nat) => cs.setIfInBounds (k * size + x.2) x.1) arr).size = arr.size := by
      have := congrArg List.length e1
      rw [splice_length (by simp; omega)] at this
      simpa using this
    obtain ⟨arr', h1, h2⟩ := fill_row size vs xs' (k + 1) (x.cells.zipIdx.foldl (fun (cs : Array Value) (x : Value × Nat) => cs.setIfInBounds (k * size + x.2) x.1) arr) r2 ha (by rw [hsz2, Nat.add_mul, Nat.succ_mul]; omega)
    refine ⟨arr', ?_, ?_⟩
    · simp only [List.zipIdx_cons, List.map_cons, Instr.fill]
      rw [if_neg (by simp; omega)]
      exact h1
    · rw [h2, e1]
      have hf : (xs'.flatMap fun x => x.cells.toList).length = vs.length * size := by
        obtain ⟨q1, q2⟩ := flatMap_rep (G := G) size r2 ha
        rw [q1.length, q2]
      apply List.ext_getElem?
      intro j
      have hx : x.cells.toList.length = size := by simpa using hsz
      have hle : k * size + (x.cells.toList ++ xs'.flatMap fun x => x.cells.toList).length ≤ arr.toList.length := by simp [hf, hx]; simp at hx; omega
      have hle1 : k * size + x.cells.toList.length ≤ arr.toList.length := by simp at hle ⊢; omega
      rw [splice_get (by rw [splice_length hle1]; simp [hf, Nat.add_mul]; simp at hle; omega), List.flatMap_cons, splice_get hle]
      rw [splice_get hle1]
      simp only [List.length_append, hf, hx, Nat.add_mul, Nat.one_mul]
      by_cases c1 : j < k * size
      · rw [if_pos (by omega), if_pos c1, if_pos c1]
      · rw [if_neg c1, if_neg c1]
        by_cases c2 : j < k * size + size
        · rw [if_pos c2, if_pos c2, if_pos (by omega), List.getElem?_append_left (by omega)]
        · rw [if_neg c2, if_neg c2]
          by_cases c3 : j < k * size + size + vs.length * size
          · rw [if_pos c3, if_pos (by omega), List.getElem?_append_right (by omega), hx]
            congr 1
            omega
          · rw [if_neg c3, if_neg (by omega)]

theorem pBuildSlice_ok (s : Sim G h w) {t e : TypeId} {i : TypeInfo} {z : Value} {n : Nat} {vs : List AV} {xs : List Value} {ps : Array (Nat × Value)} {K : AV → Prop} (ht : P.underlying t = some (.slice e)) (hi : P.info? e = some i)
    (hz : i.zero = some z) (hp : ps.toList = xs.zipIdx.map fun p => (p.2, p.1)) (hr : RepL G vs xs) (hn : n * i.size ≤ 2 ^ 24) (k : pBuildSlice n i.size vs K) :
    Ye P G h w (Instr.buildSlice t n ps) fun r h' => K r ∧ h' = h := by
  obtain ⟨⟨rfl, ha⟩, k⟩ := k
  let zs : Array Value := if vs.length * i.size = 0 then #[] else z.cells
  obtain ⟨arr', h1, h2⟩ := fill_row i.size vs xs 0 ((Array.range (vs.length * i.size)).map (zs[· % zs.size]!)) hr ha (by simp)
  obtain ⟨hf1, hf2⟩ := flatMap_rep i.size hr ha
  have harr : arr'.toList = xs.flatMap fun x => x.cells.toList := by
    rw [h2]
    have : (xs.flatMap fun x => x.cells.toList).length = vs.length * i.size := by rw [hf1.length, hf2]
    simp [splice, this]
  obtain ⟨s', ev⟩ := sim_freeze s arr' e
  refine ⟨_, .slice (some ⟨w.heap.size, 0, none⟩) vs.length vs.length, h, _, w.alloc (.cells arr' e), ?_, ?_, ⟨k, rfl⟩, s', ev⟩
  · simp only [Instr.buildSlice, Sem.run_bind, run_underlying ht, Result.andThen_ok, sizeOf, typeInfo, run_program, hi, Sem.run_pure]
    rw [if_neg (by omega)]
    rw [← hp] at h1
    by_cases h0 : vs.length * i.size = 0
    · rw [if_pos h0]
      simp only [zs, if_pos h0] at h1
      simp only [Sem.run_bind, Sem.run_pure, Result.andThen_ok, h1, newRow, run_newObj]
      rfl
    · rw [if_neg h0]
      simp only [zs, if_neg h0] at h1
      simp only [Sem.run_bind, Sem.run_pure, Result.andThen_ok, zeroValue, typeInfo, run_program, hi, hz, h1, newRow, run_newObj]
      rfl
  · simp only [Rep]
    exact .inr ⟨w.heap.size, 0, rfl, repAt_freeze ev.le (by rw [harr]; exact hf1)⟩
end
end Go.Proofs.YtmocchnodigmlaaGreatDoor.AL
