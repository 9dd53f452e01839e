import Derived.Test.YtmocchnodigmlaaGreatDoorAL26
import Derived.Shelf.SlIter.Nil
set_option linter.all false
set_option autoImplicit true
set_option relaxedAutoImplicit true
set_option linter.unusedVariables false
set_option linter.unusedSimpArgs false
/-! Contracts of others: memory that a call has made is taken over; the keys of a map, sorted. -/
namespace Go.Proofs.YtmocchnodigmlaaGreatDoor.AL
noncomputable section
open Go.RowKit Go.Maps Go.Sort Go.Shelf
open Go.Proofs (encStr)
variable [Tabs]
section
variable {P : Program} {G : Gh} {h : AHeap} {w w' : World}

theorem sim_below (s : Sim G h w) (hb : Below w.heap.size w w') : Sim G h w' ∧ Evo G h w G h w' := by
  refine ⟨⟨fun i o hi => (s.obj i o hi).keep (Gh.le.refl G) fun p hp hl => hb.block _ (s.loc_lt hi hl hp), s.dom, s.apart, fun b o v e => ?_, s.sep, s.tab⟩,
    ⟨Gh.le.refl G, hb.size, hb.os, hb.tape, hb.output, fun k hk _ => hb.block k hk, fun k ho => .inl ho⟩⟩
  exact (hb.cell (p := ⟨b, o, none⟩) (frz_block s e)).trans (s.frz b o v e)

theorem sim_adopt (s : Sim G h w) (hw : Below w.heap.size w w') (g : Nat) (hg : w.heap.size ≤ g) (o : AObj) (c : Nat) (x : ObjAt (G.add h.length (g, 0) c) w' h.length o) :
    Sim (G.add h.length (g, 0) c) (h ++ [o]) w' ∧ Evo G h w (G.add h.length (g, 0) c) (h ++ [o]) w' := by
  have le := Gh.le_add s.fresh (g, 0) c
  have hold : ∀ b, b < w.heap.size → w'.heap[b]? = w.heap[b]? := hw.block
  refine ⟨⟨?_, ?_, ?_, ?_, ?_, s.tab⟩, ⟨le, hw.size, hw.os, hw.tape, hw.output, fun b hb _ => hold b hb, ?_⟩⟩
  · intro i oi hi
    rcases Nat.lt_or_ge i h.length with hlt | hge
    · rw [List.getElem?_append_left hlt] at hi
      exact (s.obj i oi hi).keep le fun p hp hl => hold _ (s.loc_lt hi hl hp)
    · rw [List.getElem?_append_right hge] at hi
      have : i = h.length := by
        rcases Nat.eq_or_lt_of_le hge with h1 | h1
        · exact h1.symm
        · rw [List.getElem?_eq_none (by simp; omega)] at hi; cases hi
      subst this
      simp at hi
      subst hi
      exact x
  · intro i p hp
    simp only [Gh.add] at hp
    split at hp
    · simp; omega
    · have := s.dom i p hp; simp; omega
  · intro i j oi oj p q hi hj li lj hp hq hpq
    simp only [Gh.add] at hp hq
    rcases Nat.lt_or_ge i h.length with hli | hgi <;> rcases Nat.lt_or_ge j h.length with hlj | hgj
    · rw [if_neg (by omega)] at hp hq
      rw [List.getElem?_append_left hli] at hi
      rw [List.getElem?_append_left hlj] at hj
      exact s.apart i j oi oj p q hi hj li lj hp hq hpq
    · rw [if_neg (by omega)] at hp
      rw [List.getElem?_append_left hli] at hi
      have h1 := s.loc_lt hi li hp
      have hjl : j < (h ++ [o]).length := (List.getElem?_eq_some_iff.1 hj).1
      have : j = h.length := by simp at hjl; omega
      rw [if_pos this] at hq
      cases hq
      simp at hpq
      omega
    · rw [if_neg (by omega)] at hq
      rw [List.getElem?_append_left hlj] at hj
      have h1 := s.loc_lt hj lj hq
      have hil : i < (h ++ [o]).length := (List.getElem?_eq_some_iff.1 hi).1
      have : i = h.length := by simp at hil; omega
      rw [if_pos this] at hp
      cases hp
      simp at hpq
      omega
    · have hil : i < (h ++ [o]).length := (List.getElem?_eq_some_iff.1 hi).1
      have hjl : j < (h ++ [o]).length := (List.getElem?_eq_some_iff.1 hj).1
      simp at hil hjl
      omega
  · intro b off v e
    have e' : G.F b off = some v := e
    exact (hw.cell (p := ⟨b, off, none⟩) (frz_block s e')).trans (s.frz b off v e')
  · intro i oi p hi li hp off
    simp only [Gh.add] at hp ⊢
    rcases Nat.lt_or_ge i h.length with hlt | hge
    · rw [if_neg (by omega)] at hp
      rw [List.getElem?_append_left hlt] at hi
      exact s.sep i oi p hi li hp off
    · have hil : i < (h ++ [o]).length := (List.getElem?_eq_some_iff.1 hi).1
      have : i = h.length := by simp at hil; omega
      rw [if_pos this] at hp
      cases hp
      cases e : G.F g off with
      | none => rfl
      | some v => have := frz_block s e; omega
  · intro b ⟨i, oi, p, hi, li, hp, hb⟩
    simp only [Gh.add] at hp
    rcases Nat.lt_or_ge i h.length with hlt | hge
    · rw [if_neg (by omega)] at hp
      rw [List.getElem?_append_left hlt] at hi
      exact .inl ⟨i, oi, p, hi, li, hp, hb⟩
    · have hil : i < (h ++ [o]).length := (List.getElem?_eq_some_iff.1 hi).1
      have : i = h.length := by simp at hil; omega
      rw [if_pos this] at hp
      cases hp
      exact .inr (by simp at hb; omega)

end
/-! ### Rising -/
section
omit [Tabs]
theorem lLt_iff : ∀ a b : List UInt8, lLt a b = true ↔ a < b
  | [], [] => by simp [lLt]
  | a :: x, [] => by simp [lLt]
  | [], b :: y => by simp [lLt]
  | a :: x, b :: y => by
    simp only [lLt, bI_eq, bA_eq, uEq_eq, beq_iff_eq, lLt_iff x y, List.cons_lt_cons_iff]
    have : uLt a b = true ↔ a < b := by rw [uLt, blt_iff, UInt8.lt_iff_toNat_lt]
    constructor
    · rintro (⟨h1, _⟩ | ⟨_, h2⟩)
      · exact .inl (this.1 h1)
      · exact .inr h2
    · intro hh
      cases hu : uLt a b
      · rcases hh with h1 | h2
        · rw [← this, hu] at h1; cases h1
        · exact .inr ⟨rfl, h2⟩
      · exact .inl ⟨rfl, trivial⟩
def insL (a : List UInt8) : List (List UInt8) → List (List UInt8)
  | [] => [a]
  | b :: l => @Bool.casesOn (fun _ => List (List UInt8)) (lLt b a) (a :: b :: l) (b :: insL a l)
def sortL : List (List UInt8) → List (List UInt8)
  | [] => []
  | a :: l => insL a (sortL l)
theorem insL_cons (a b : List UInt8) (l : List (List UInt8)) : insL a (b :: l) = if b < a then b :: insL a l else a :: b :: l := by
  show @Bool.casesOn (fun _ => List (List UInt8)) (lLt b a) (a :: b :: l) (b :: insL a l) = _
  cases h : lLt b a
  · rw [if_neg (fun e => by rw [← lLt_iff, h] at e; cases e)]
  · rw [if_pos ((lLt_iff _ _).1 h)]
theorem insL_perm (a : List UInt8) : ∀ l : List (List UInt8), (insL a l).Perm (a :: l)
  | [] => List.Perm.refl _
  | b :: l => by
    rw [insL_cons]
    split
    · exact ((insL_perm a l).cons b).trans (List.Perm.swap a b l)
    · exact List.Perm.refl _
theorem sortL_perm : ∀ l : List (List UInt8), (sortL l).Perm l
  | [] => List.Perm.refl _
  | a :: l => (insL_perm a _).trans ((sortL_perm l).cons a)
theorem insL_sorted (a : List UInt8) : ∀ l : List (List UInt8), l.Pairwise (· ≤ ·) → (insL a l).Pairwise (· ≤ ·)
  | [], _ => by simp [insL]
  | b :: l, h => by
    rw [insL_cons]
    rw [List.pairwise_cons] at h
    split
    · rename_i hlt
      refine List.pairwise_cons.2 ⟨fun x hx => ?_, insL_sorted a l h.2⟩
      rcases List.mem_cons.1 ((insL_perm a l).mem_iff.1 hx) with rfl | hx
      · exact List.le_of_lt hlt
      · exact h.1 x hx
    · rename_i hlt
      have hab : a ≤ b := List.not_lt.1 hlt
      refine List.pairwise_cons.2 ⟨fun x hx => ?_, List.pairwise_cons.2 h⟩
      rcases List.mem_cons.1 hx with rfl | hx
      · exact hab
      · exact List.le_trans hab (h.1 x hx)
theorem sortL_sorted : ∀ l : List (List UInt8), (sortL l).Pairwise (· ≤ ·)
  | [] => List.Pairwise.nil
  | a :: l => insL_sorted a _ (sortL_sorted l)
theorem mergeSort_sortL {l l' : List (List UInt8)} (h : l.Perm l') : l.mergeSort leB = sortL l' := by
  have tr : ∀ a b c : List UInt8, leB a b = true → leB b c = true → leB a c = true := fun a b c h1 h2 => by simp only [leB, decide_eq_true_eq] at *; exact List.le_trans h1 h2
  have to : ∀ a b : List UInt8, (leB a b || leB b a) = true := fun a b => by simp only [leB, Bool.or_eq_true, decide_eq_true_eq]; exact List.le_total a b
  refine List.Perm.eq_of_pairwise (le := fun a b => leB a b = true) (fun a b _ _ h1 h2 => ?_) (List.pairwise_mergeSort tr to l) ((sortL_sorted l').imp fun h => by simpa [leB] using h) (((List.mergeSort_perm l leB).trans h).trans (sortL_perm l').symm)
  simp only [leB, decide_eq_true_eq] at h1 h2
  exact List.le_antisymm h1 h2
end
end
end Go.Proofs.YtmocchnodigmlaaGreatDoor.AL
