import Derived.Test.YtmocchnodigmlaaGreatDoorAL5
set_option linter.all false
set_option autoImplicit true
set_option relaxedAutoImplicit true
set_option linter.unusedVariables false
/-! Steps that make memory, or write it. -/
namespace Go.Proofs.YtmocchnodigmlaaGreatDoor.AL
variable [Tabs]
section
variable {P : Program} {G : Gh} {h : AHeap} {w : World}

def splice {α : Type} (l : List α) (off : Nat) (xs : List α) : List α := l.take off ++ xs ++ l.drop (off + xs.length)
theorem splice_length {α : Type} {l xs : List α} {off : Nat} (h : off + xs.length ≤ l.length) : (splice l off xs).length = l.length := by
  simp [splice]; omega
theorem splice_get {α : Type} {l xs : List α} {off : Nat} (h : off + xs.length ≤ l.length) (j : Nat) : (splice l off xs)[j]? = if j < off then l[j]? else if j < off + xs.length then xs[j - off]? else l[j]? := by
  have ht : (l.take off).length = off := by simp; omega
  unfold splice
  by_cases h1 : j < off
  · rw [if_pos h1, List.append_assoc, List.getElem?_append_left (by omega), List.getElem?_take, if_pos h1]
  · rw [if_neg h1]
    by_cases h2 : j < off + xs.length
    · rw [if_pos h2, List.append_assoc, List.getElem?_append_right (by omega), ht, List.getElem?_append_left (by omega)]
    · rw [if_neg h2, List.getElem?_append_right (by simp; omega), List.getElem?_drop]
      congr 1
      simp
      omega
theorem RepL.splice {G : Gh} {l xs : List AV} {vs us : List Value} {off : Nat} (h : RepL G l vs) (k : RepL G xs us) : RepL G (splice l off xs) (splice vs off us) := by
  unfold AL.splice
  rw [show us.length = xs.length from k.length]
  exact ((h.take off).append k).append (h.drop _)

/-! ### A struct's value -/
theorem foldl_cells (off : Nat) : ∀ (xs : List Value) (k : Nat) (arr : Array Value), off + k + xs.length ≤ arr.size →
    ((xs.zipIdx k).foldl (fun (cs : Array Value) (x : Value × Nat) => cs.setIfInBounds (off + x.2) x.1) arr).toList = splice arr.toList (off + k) xs
  | [], k, arr, _ => by simp [splice]
  | x :: xs, k, arr, hl => by
    simp only [List.length_cons] at hl
    simp only [List.zipIdx_cons, List.foldl_cons]
    rw [foldl_cells off xs (k + 1) _ (by simp; omega)]
    apply List.ext_getElem?
    intro j
    rw [splice_get (by simp; omega), splice_get (by simp; omega)]
    simp only [Array.toList_setIfInBounds, List.getElem?_set, List.length_cons, Array.length_toList]
    by_cases h1 : j < off + k
    · rw [if_pos (by omega), if_pos h1, if_neg (by omega)]
    · rw [if_neg h1]
      by_cases h2 : j = off + k
      · subst h2
        rw [if_pos (by omega), if_pos rfl, if_pos (by omega), if_pos (by omega)]
        simp
      · rw [if_neg (by omega), if_neg (show ¬ off + k = j by omega)]
        by_cases h3 : j < off + k + (xs.length + 1)
        · rw [if_pos (by omega), if_pos h3]
          rw [show j - (off + k) = (j - (off + (k + 1))) + 1 by omega, List.getElem?_cons_succ]
        · rw [if_neg (by omega), if_neg h3]

def fillL : List AV → List (Nat × Nat × AV) → Option (List AV)
  | cs, [] => some cs
  | cs, (off, n, v) :: rest => if (!v.isTup && (v.cells.length == n && decide (off + n ≤ cs.length))) = true then fillL (splice cs off v.cells) rest else none
/-- The parts of a composite value, with their places. -/
def placed (place : Nat → Option (Nat × Nat)) : List (Nat × AV) → Option (List (Nat × Nat × AV))
  | [] => some []
  | (i, v) :: rest => match place i, placed place rest with
    | some (off, n), some ps => some ((off, n, v) :: ps)
    | _, _ => none
theorem fill_ok {place : Nat → Option (Nat × Nat)} : ∀ {ps : List (Nat × AV)} {xs : List (Nat × Value)} {qs : List (Nat × Nat × AV)} {cs : List AV} {arr : Array Value} {l : List AV},
    placed place ps = some qs → ps.map (·.1) = xs.map (·.1) → RepL G (ps.map (·.2)) (xs.map (·.2)) → RepL G cs arr.toList → fillL cs qs = some l →
    ∃ arr' : Array Value, Instr.fill place arr xs = some arr' ∧ RepL G l arr'.toList
  | [], xs, qs, cs, arr, l, hp, hk, hr, hc, e => by
    have : xs = [] := by simpa using hk.symm
    subst this
    simp only [placed, Option.some.injEq] at hp
    subst hp
    simp only [fillL, Option.some.injEq] at e
    subst e
    exact ⟨arr, by simp [Instr.fill], hc⟩
  | (i, v) :: ps, [], qs, cs, arr, l, hp, hk, hr, hc, e => by simp at hk
  | (i, v) :: ps, (i', x) :: xs, qs, cs, arr, l, hp, hk, hr, hc, e => by
    simp only [List.map_cons, List.cons.injEq] at hk
    obtain ⟨rfl, hk⟩ := hk
    simp only [List.map_cons, RepL] at hr
    obtain ⟨x', xs', hx, hr1, hr2⟩ := hr
    simp only [List.cons.injEq] at hx
    obtain ⟨rfl, rfl⟩ := hx
    simp only [placed] at hp
    split at hp
    · rename_i off n qs' h1 h2
      cases hp
      simp only [fillL] at e
      split at e
      · rename_i hcond
        simp only [Bool.and_eq_true, Bool.not_eq_true', beq_iff_eq, decide_eq_true_eq] at hcond
        obtain ⟨ht, hn, hle⟩ := hcond
        have hv := hr1.cells ht
        have hlen : x.cells.size = n := by have := hv.length; simp at this; omega
        have hcl : arr.size = cs.length := by have := hc.length; simpa using this
        have key := foldl_cells off x.cells.toList 0 arr (by simp; omega)
        have := fill_ok (place := place) (arr := x.cells.zipIdx.foldl (fun cs (c, j) => cs.setIfInBounds (off + j) c) arr) h2 hk hr2 (by
          have e1 : (x.cells.zipIdx.foldl (fun (cs : Array Value) (x : Value × Nat) => cs.setIfInBounds (off + x.2) x.1) arr).toList = splice arr.toList off x.cells.toList := by
            rw [← Array.foldl_toList]
            have : x.cells.zipIdx.toList = x.cells.toList.zipIdx 0 := by simp
            rw [this]
            simpa using key
          exact (by rw [e1]; exact hc.splice hv : RepL G (splice cs off v.cells) (x.cells.zipIdx.foldl (fun (cs : Array Value) (x : Value × Nat) => cs.setIfInBounds (off + x.2) x.1) arr).toList)) e
        obtain ⟨arr', h3, h4⟩ := this
        refine ⟨arr', ?_, h4⟩
        simp only [Instr.fill, h1]
        rw [if_neg (by simp; omega)]
        exact h3
      · cases e
    · cases hp

def pBuild (zs : List AV) (ps : List (Nat × Nat × AV)) (K : AV → Prop) : Prop := match fillL zs ps with | some cs => K (.agg cs) | none => False

def fieldPlaces (P : Program) : List Field → Option (List (Nat × Nat))
  | [] => some []
  | f :: fs => match P.info? f.type, fieldPlaces P fs with
    | some i, some l => some ((f.offset, i.size) :: l)
    | _, _ => none
theorem fieldPlaces_run : ∀ {fs : List Field} {l : List (Nat × Nat)}, fieldPlaces P fs = some l → (fs.mapM fun f => (do pure (f.offset, ← sizeOf f.type) : Sem (Nat × Nat))).run P w = .ok l w
  | [], l, e => by simp only [fieldPlaces, Option.some.injEq] at e; subst e; simp
  | f :: fs, l, e => by
    simp only [fieldPlaces] at e
    split at e
    · rename_i i l' h1 h2
      cases e
      have ih := fieldPlaces_run h2
      simp only [List.mapM_cons, Sem.run_bind]
      have hs : (sizeOf f.type).run P w = .ok i.size w := by simp [sizeOf, typeInfo, h1]
      simp only [bind_pure_comp] at ih
      simp only [bind_pure_comp, Sem.run_map, Sem.run_bind, hs, Result.andThen_ok, Sem.run_pure, ih]
    · cases e

theorem pBuild_ok {t : TypeId} {fs : Array Field} {i : TypeInfo} {z : Value} {l : List (Nat × Nat)} {ps : List (Nat × AV)} {qs : List (Nat × Nat × AV)} {xs : Array (Nat × Value)} {K : AV → Prop} (ht : P.underlying t = some (.struct fs)) (hi : P.info? t = some i)
    (hz : i.zero = some z) (hzo : okV z = true) (hl : fieldPlaces P fs.toList = some l) (hp : placed (fun j => l[j]?) ps = some qs) (hk : ps.map (·.1) = xs.toList.map (·.1)) (hr : RepL G (ps.map (·.2)) (xs.toList.map (·.2)))
    (k : pBuild (ofV z).cells qs K) : Yl P G w (Instr.build t xs) K := by
  unfold pBuild at k
  split at k
  · rename_i cs hcs
    have hzc : RepL G (ofV z).cells z.cells.toList := (rep_ofV G z hzo).cells (by
      unfold ofV ofV1; split <;> (try split) <;> rfl)
    obtain ⟨arr', h1, h2⟩ := fill_ok hp hk hr hzc hcs
    refine ⟨_, .agg arr', ?_, by simp only [Rep]; exact ⟨arr'.toList, by simp, h2⟩, k⟩
    have hf := fieldPlaces_run (w := w) hl
    have hm : (fs.mapM fun f => (do pure (f.offset, ← sizeOf f.type) : Sem (Nat × Nat))).run P w = .ok l.toArray w := by
      rw [Array.mapM_eq_mapM_toList]
      simp only [Sem.run_map, hf, Result.andThen_ok]
    have h1' : Instr.fill (fun (x : Nat) => l.toArray[x]?) z.cells xs.toList = some arr' := by
      have : (fun (x : Nat) => l.toArray[x]?) = (fun (x : Nat) => l[x]?) := by funext x; simp
      rw [this]; exact h1
    simp only [Instr.build, Sem.run_bind, zeroValue, typeInfo, run_program, Result.andThen_ok, hi, hz, Sem.run_pure, run_underlying ht, hm, h1']
  · exact k.elim
end
end Go.Proofs.YtmocchnodigmlaaGreatDoor.AL
