import Derived.Test.YtmocchnodigmlaaGreatDoorAL1
import Derived.Laws.Sem
import Derived.Laws.World
import Derived.Laws.Cells
import Derived.Laws.CopyRow
set_option linter.all false
set_option autoImplicit true
set_option relaxedAutoImplicit true
set_option linter.unusedVariables false
/-! Operations: what each gives. -/
namespace Go.Proofs.YtmocchnodigmlaaGreatDoor.AL
variable [Tabs]

abbrev I (n : Int) : AV := .lit (.int .i64 n)
abbrev B (b : Bool) : AV := .lit (.bool b)
abbrev S (s : ByteArray) : AV := .lit (.string s)

def AV.one : AV → Bool
  | .lit v => v.oneCell'
  | .agg _ => false
  | .tup _ => false
  | _ => true

def ofV1 : Value → AV
  | .slice none 0 0 => .full 0 []
  | v => .lit v
def ofV : Value → AV
  | .agg cs => .agg (cs.toList.map ofV1)
  | v => ofV1 v
def okV : Value → Bool
  | .agg cs => cs.toList.all (·.oneCell')
  | v => v.oneCell'

theorem rep_ofV1 (G : Gh) (v : Value) (h : v.oneCell' = true) : Rep G (ofV1 v) v := by
  unfold ofV1
  split <;> simp [Rep, h]
theorem repL_map_ofV1 (G : Gh) : ∀ l : List Value, l.all (·.oneCell') = true → RepL G (l.map ofV1) l
  | [], _ => by simp [RepL]
  | v :: l, h => by
    simp only [List.all_cons, Bool.and_eq_true] at h
    simp only [List.map_cons, RepL]; exact ⟨v, l, rfl, rep_ofV1 G v h.1, repL_map_ofV1 G l h.2⟩
theorem rep_ofV (G : Gh) (v : Value) (h : okV v = true) : Rep G (ofV v) v := by
  unfold ofV
  split
  · rename_i cs
    simp only [Rep]
    exact ⟨cs.toList, by simp, repL_map_ofV1 G _ h⟩
  · rename_i hna
    refine rep_ofV1 G _ ?_
    unfold okV at h
    split at h
    · exact absurd rfl (hna _)
    · exact h

def opv (env : Env) : Operand → Option AV
  | .tmp t => get env t
  | .const v => if okV v then some (ofV v) else none
  | .global _ => none
  | .func f => some (.fn (.func f) [] [])

def opvs (env : Env) : List Operand → Option (List AV)
  | [] => some []
  | x :: xs => match opv env x with
    | none => none
    | some v => match opvs env xs with
      | none => none
      | some vs => some (v :: vs)

theorem opv_rep {G : Gh} {env : Env} {a : Act} (r : EnvRep G env a.tmps) {x : Operand} {v : AV} (h : opv env x = some v) : Rep G v (a.eval x) := by
  cases x with
  | tmp t =>
    obtain ⟨u, h1, h2⟩ := r t v h
    simpa [Act.eval, Array.getD_eq_getD_getElem?, h1] using h2
  | const c =>
    simp only [opv] at h
    split at h
    · cases h; exact rep_ofV G _ (by assumption)
    · cases h
  | global g => simp [opv] at h
  | func f => simp only [opv, Option.some.injEq] at h; subst h; simp [Rep, RepL, Act.eval]

theorem opvs_rep {G : Gh} {env : Env} {a : Act} (r : EnvRep G env a.tmps) : ∀ {xs : List Operand} {vs : List AV}, opvs env xs = some vs → RepL G vs (xs.map a.eval)
  | [], vs, h => by simp only [opvs, Option.some.injEq] at h; subst h; simp [RepL]
  | x :: xs, vs, h => by
    simp only [opvs] at h
    split at h
    · cases h
    · rename_i v hv
      split at h
      · cases h
      · rename_i us hu
        cases h
        simp only [RepL, List.map_cons]
        exact ⟨_, _, rfl, opv_rep r hv, opvs_rep r hu⟩

/-! ### RepL, RepAt by place -/
theorem RepL.length {G : Gh} : ∀ {as : List AV} {vs : List Value}, RepL G as vs → vs.length = as.length
  | [], vs, h => by simp only [RepL] at h; simp [h]
  | a :: as, vs, h => by
    simp only [RepL] at h
    obtain ⟨v, ws, rfl, _, h⟩ := h
    simp [RepL.length h]
theorem RepL.at {G : Gh} : ∀ {as : List AV} {vs : List Value}, RepL G as vs → ∀ (j : Nat) (a : AV), as[j]? = some a → ∃ v, vs[j]? = some v ∧ Rep G a v
  | [], vs, h, j, a, e => by simp at e
  | b :: as, vs, h, j, a, e => by
    simp only [RepL] at h
    obtain ⟨v, ws, rfl, h1, h2⟩ := h
    cases j with
    | zero => simp at e; subst e; exact ⟨v, by simp, h1⟩
    | succ j => simpa using RepL.at h2 j a (by simpa using e)
theorem repL_of_at {G : Gh} : ∀ {as : List AV} {vs : List Value}, vs.length = as.length → (∀ (j : Nat) (a : AV), as[j]? = some a → ∃ v, vs[j]? = some v ∧ Rep G a v) → RepL G as vs
  | [], vs, hl, _ => by simp [RepL]; simpa using hl
  | a :: as, [], hl, _ => by simp at hl
  | a :: as, v :: vs, hl, h => by
    simp only [RepL]
    obtain ⟨u, h1, h2⟩ := h 0 a (by simp)
    simp at h1
    subst h1
    exact ⟨v, vs, rfl, h2, repL_of_at (by simpa using hl) fun j b e => by simpa using h (j + 1) b (by simpa using e)⟩
theorem RepL.append {G : Gh} : ∀ {as bs : List AV} {vs ws : List Value}, RepL G as vs → RepL G bs ws → RepL G (as ++ bs) (vs ++ ws)
  | [], bs, vs, ws, h, k => by simp only [RepL] at h; subst h; simpa using k
  | a :: as, bs, vs, ws, h, k => by
    simp only [RepL] at h
    obtain ⟨v, us, rfl, h1, h2⟩ := h
    simp only [List.cons_append, RepL]
    exact ⟨v, us ++ ws, rfl, h1, RepL.append h2 k⟩
theorem RepL.drop {G : Gh} {as : List AV} {vs : List Value} (h : RepL G as vs) (n : Nat) : RepL G (as.drop n) (vs.drop n) :=
  repL_of_at (by simp [h.length]) fun j a e => by
    rw [List.getElem?_drop] at e ⊢
    exact h.at _ a e
theorem RepL.take {G : Gh} {as : List AV} {vs : List Value} (h : RepL G as vs) (n : Nat) : RepL G (as.take n) (vs.take n) :=
  repL_of_at (by simp [h.length]) fun j a e => by
    rw [List.getElem?_take] at e ⊢
    split at e
    · rename_i hj; rw [if_pos hj]; exact h.at _ a e
    · cases e
theorem RepAt.at {G : Gh} : ∀ {as : List AV} {b o : Nat}, RepAt G as b o → ∀ (j : Nat) (a : AV), as[j]? = some a → ∃ v, G.F b (o + j) = some v ∧ Rep G a v
  | [], b, o, h, j, a, e => by simp at e
  | c :: as, b, o, h, j, a, e => by
    simp only [RepAt] at h
    cases j with
    | zero => simp at e; subst e; exact h.1
    | succ j =>
      have := RepAt.at h.2 j a (by simpa using e)
      rwa [show o + 1 + j = o + (j + 1) by omega] at this
theorem repAt_of_at {G : Gh} : ∀ {as : List AV} {b o : Nat}, (∀ (j : Nat) (a : AV), as[j]? = some a → ∃ v, G.F b (o + j) = some v ∧ Rep G a v) → RepAt G as b o
  | [], b, o, h => by simp [RepAt]
  | c :: as, b, o, h => by
    simp only [RepAt]
    refine ⟨by simpa using h 0 c (by simp), repAt_of_at fun j a e => ?_⟩
    have := h (j + 1) a (by simpa using e)
    rwa [show o + (j + 1) = o + 1 + j by omega] at this
theorem RepAt.drop {G : Gh} {as : List AV} {b o : Nat} (h : RepAt G as b o) (n : Nat) : RepAt G (as.drop n) b (o + n) :=
  repAt_of_at fun j a e => by
    rw [List.getElem?_drop] at e
    have := h.at _ a e
    rwa [← Nat.add_assoc] at this
theorem RepAt.take {G : Gh} {as : List AV} {b o : Nat} (h : RepAt G as b o) (n : Nat) : RepAt G (as.take n) b o :=
  repAt_of_at fun j a e => by
    rw [List.getElem?_take] at e
    split at e
    · exact h.at _ a e
    · cases e

theorem add_plain (b o n : Nat) : (⟨b, o, none⟩ : Addr).add n = ⟨b, o + n, none⟩ := by unfold Addr.add; split <;> simp_all

/-- What stands in one cell, or in a row of cells. -/
def AV.isTup : AV → Bool
  | .tup _ => true
  | _ => false
theorem Rep.one {G : Gh} {v : AV} {x : Value} (h : Rep G v x) (ho : v.one = true) : x.oneCell' = true := by
  cases v with
  | lit v => simp only [Rep] at h; obtain ⟨rfl, h⟩ := h; exact h
  | ptr i off => simp only [Rep] at h; obtain ⟨b, o, _, rfl⟩ := h; rfl
  | cptr cs => simp only [Rep] at h; obtain ⟨b, o, rfl, _⟩ := h; rfl
  | sl i off len sz => simp only [Rep] at h; obtain ⟨b, o, c, ad, _, _, _, _, rfl⟩ := h; rfl
  | snap n cs => simp only [Rep] at h; rcases h with ⟨_, _, rfl⟩ | ⟨b, o, c, _, rfl, _⟩ <;> rfl
  | full n cs => simp only [Rep] at h; rcases h with ⟨_, _, rfl⟩ | ⟨b, o, rfl, _⟩ <;> rfl
  | map i => simp only [Rep] at h; obtain ⟨b, _, rfl⟩ := h; rfl
  | fn f fi ca => simp only [Rep] at h; obtain ⟨vs, ws, rfl, _, _⟩ := h; rfl
  | iface t v => simp only [Rep] at h; obtain ⟨y, rfl, _⟩ := h; rfl
  | agg cs => simp [AV.one] at ho
  | tup cs => simp [AV.one] at ho
  | sym j => simp only [Rep] at h; subst h; exact Syms.one j
theorem cells_of_one {x : Value} (h : x.oneCell' = true) : x.cells = #[x] := by cases x <;> simp_all [Value.oneCell', Value.cells]
theorem one_or (v : AV) (h : v.isTup = false) : v.one = true ∨ (∃ cs, v = .agg cs) ∨ (∃ u, v = .lit u) := by
  cases v <;> simp_all [AV.one, AV.isTup]
theorem Rep.cells {G : Gh} {v : AV} {x : Value} (h : Rep G v x) (ht : v.isTup = false) : RepL G v.cells x.cells.toList := by
  rcases one_or v ht with h1 | ⟨cs, rfl⟩ | ⟨u, rfl⟩
  · have hx := h.one h1
    rw [cells_of_one hx]
    have : v.cells = [v] := by cases v <;> simp_all [AV.one, AV.cells]
    rw [this]
    simp only [RepL]
    exact ⟨x, [], rfl, h, rfl⟩
  · simp only [Rep] at h
    obtain ⟨vs, rfl, h⟩ := h
    simpa [AV.cells, Value.cells] using h
  · have hx : x.oneCell' = true := by simp only [Rep] at h; obtain ⟨rfl, h⟩ := h; exact h
    rw [cells_of_one hx]
    simp only [AV.cells, RepL]
    exact ⟨x, [], rfl, h, rfl⟩

/-! ### Kinds of results -/
/-- A step that leaves memory alone. -/
def Yl (P : Program) (G : Gh) (w : World) (m : Sem Value) (K : AV → Prop) : Prop := ∃ r v, m.run P w = .ok v w ∧ Rep G r v ∧ K r
/-- A step that may turn memory. -/
def Ye (P : Program) (G : Gh) (h : AHeap) (w : World) (m : Sem Value) (K : AV → AHeap → Prop) : Prop :=
  ∃ r v h' G' w', m.run P w = .ok v w' ∧ Rep G' r v ∧ K r h' ∧ Sim G' h' w' ∧ Evo G h w G' h' w'

end Go.Proofs.YtmocchnodigmlaaGreatDoor.AL
