import Derived.Test.YtmocchnodigmlaaGreatDoorAL9c
set_option linter.all false
set_option autoImplicit true
set_option relaxedAutoImplicit true
set_option linter.unusedVariables false
/-! Whether structs are alike. -/
namespace Go.Proofs.YtmocchnodigmlaaGreatDoor.AL
variable [Tabs]
section
variable {P : Program} {G : Gh} {h : AHeap} {w : World}

def sEqK : TypeDesc → AV → AV → Option Bool
  | .bool, .lit (.bool a), .lit (.bool b) => some (a == b)
  | .int _, .lit (.int j a), .lit (.int k b) => if j = k then some (a == b) else none
  | .string, .lit (.string a), .lit (.string b) => some (a == b)
  | _, _, _ => none
def eqCells : List TypeDesc → List AV → List AV → Option Bool
  | [], [], [] => some true
  | d :: ds, a :: as, b :: bs => match sEqK d a b with
    | some x => (match eqCells ds as bs with | some y => some (x && y) | none => none)
    | none => none
  | _, _, _ => none
def pEqS (op : BinOp) (ds : List TypeDesc) (x y : AV) (K : AV → Prop) : Prop :=
  match x, y with
  | .agg as, .agg bs => (match eqCells ds as bs with | some b => nilK op b K | none => False)
  | _, _ => False
/-- The fields of a struct that has but plain ones, a cell each. -/
def flatS (P : Program) : List Field → Nat → Option (List TypeDesc)
  | [], _ => some []
  | f :: fs, k => if (f.offset == k && f.name != "_") = true then (match P.underlying f.type with
    | some .bool => (flatS P fs (k + 1)).map (.bool :: ·)
    | some (.int j) => (flatS P fs (k + 1)).map (.int j :: ·)
    | some .string => (flatS P fs (k + 1)).map (.string :: ·)
    | _ => none) else none

theorem sEqK_ok {d : TypeDesc} {a b : AV} {x y : Value} {r : Bool} (hx : Rep G a x) (hy : Rep G b y) (h : sEqK d a b = some r) {t : TypeId} (ht : P.underlying t = some d) (n : Nat) : (Op.equalIn (n + 1) t x y).run P w = .ok r w := by
  unfold sEqK at h
  split at h
  · simp only [Rep] at hx hy
    obtain ⟨rfl, _⟩ := hx
    obtain ⟨rfl, _⟩ := hy
    cases h
    simp [Op.equalIn, run_underlying ht]
  · simp only [Rep] at hx hy
    obtain ⟨rfl, _⟩ := hx
    obtain ⟨rfl, _⟩ := hy
    split at h
    · rename_i hk
      cases h
      subst hk
      simp [Op.equalIn, run_underlying ht]
    · cases h
  · simp only [Rep] at hx hy
    obtain ⟨rfl, _⟩ := hx
    obtain ⟨rfl, _⟩ := hy
    cases h
    simp [Op.equalIn, run_underlying ht]
  · cases h

theorem part_one {t : TypeId} {d : TypeDesc} (ht : P.underlying t = some d) (hd : isAggD d = false) {cs : Array Value} {k : Nat} {v : Value} (h : cs[k]? = some v) : (part t cs k).run P w = .ok v w := by
  simp [part, run_isAgg ht, hd, h]

theorem eqCells_ok (n : Nat) : ∀ (fs : List Field) (k : Nat) (ds : List TypeDesc) (as bs : List AV) (xs ys : Array Value) (r : Bool), flatS P fs k = some ds → RepL G as (xs.toList.drop k) → RepL G bs (ys.toList.drop k) → eqCells ds as bs = some r →
    (Op.eqFields (n + 1) xs ys fs).run P w = .ok r w
  | [], k, ds, as, bs, xs, ys, r, hf, hx, hy, h => by
    simp only [flatS, Option.some.injEq] at hf
    subst hf
    unfold eqCells at h
    split at h
    · cases h; simp [Op.eqFields]
    · rename_i hn; cases hn
    · cases h
  | f :: fs, k, ds, as, bs, xs, ys, r, hf, hx, hy, h => by
    simp only [flatS] at hf
    split at hf
    · rename_i hc
      simp only [Bool.and_eq_true, beq_iff_eq, bne_iff_ne, ne_eq] at hc
      have key : ∀ (d : TypeDesc), P.underlying f.type = some d → isAggD d = false → (flatS P fs (k + 1)).map (d :: ·) = some ds → (Op.eqFields (n + 1) xs ys (f :: fs)).run P w = .ok r w := by
        intro d hd hag hm
        cases hfs : flatS P fs (k + 1) with
        | none => rw [hfs] at hm; cases hm
        | some ds' =>
          rw [hfs] at hm
          simp only [Option.map_some, Option.some.injEq] at hm
          subst hm
          unfold eqCells at h
          split at h
          · rename_i hn; cases hn
          · rename_i d' ds2 a as' b bs' hn
            cases hn
            split at h
            · rename_i x hx1
              split at h
              · rename_i y hy1
                cases h
                simp only [RepL] at hx hy
                obtain ⟨v, vs, e1, r1, r2⟩ := hx
                obtain ⟨u, us, e2, r3, r4⟩ := hy
                have hv : xs[k]? = some v := by have := congrArg (·[0]?) e1; simpa using this
                have hu : ys[k]? = some u := by have := congrArg (·[0]?) e2; simpa using this
                have hvs : vs = xs.toList.drop (k + 1) := by have := congrArg List.tail e1; simpa using this.symm
                have hus : us = ys.toList.drop (k + 1) := by have := congrArg List.tail e2; simpa using this.symm
                have ih := eqCells_ok n fs (k + 1) ds' as' bs' xs ys y hfs (hvs ▸ r2) (hus ▸ r4) hy1
                simp only [Op.eqFields, Sem.run_bind, Sem.run_ite, hc.1]
                rw [if_pos (by simpa using hc.2)]
                simp only [part_one hd hag hv, part_one hd hag hu, Result.andThen_ok, sEqK_ok r1 r3 hx1 hd n]
                cases x
                · simp
                · simpa using ih
              · cases h
            · cases h
          · cases h
      split at hf
      · exact key _ ‹_› rfl hf
      · exact key _ ‹_› rfl hf
      · exact key _ ‹_› rfl hf
      · cases hf
    · cases hf

theorem pEqS_ok {t : TypeId} {fs : Array Field} {ds : List TypeDesc} (ht : P.underlying t = some (.struct fs)) (hf : flatS P fs.toList 0 = some ds) (hp : P.stoodInHeld t = false) (hm : P.eqGuardType P.depth t = false) {op : BinOp} {xo yo : Operand} {x y : AV} {a b : Value} (hx : Rep G x a) (hy : Rep G y b)
    {K : AV → Prop} (k : pEqS op ds x y K) : Yl P G w (do eqGuard op t xo yo a b; binOp op t a b) K := by
  unfold pEqS at k
  split at k
  · rename_i as bs
    split at k
    · rename_i r hr
      simp only [Rep] at hx hy
      obtain ⟨vs, rfl, hx⟩ := hx
      obtain ⟨us, rfl, hy⟩ := hy
      have hfo : P.fieldsOf t = fs := by simp [Program.fieldsOf, ht]
      have he : ∀ n, (Op.equalIn (n + 2) t (.agg vs.toArray) (.agg us.toArray)).run P w = .ok r w := fun n => by
        rw [run_equalIn_struct w (n + 1) t _ _ (by rw [hfo]; exact ht) hp, hfo]
        exact eqCells_ok n _ 0 ds as bs _ _ r hf (by simpa using hx) (by simpa using hy) hr
      have hg := run_eqGuard_agg (P := P) w op t xo yo vs.toArray us.toArray hm
      cases op <;> simp only [nilK] at k
      case eql => exact ⟨_, .bool r, by rw [Sem.run_bind, hg, Result.andThen_ok, run_eql_struct, he 9998]; rfl, repB G _, k⟩
      case neq => exact ⟨_, .bool (!r), by rw [Sem.run_bind, hg, Result.andThen_ok, run_neq_struct, he 9998]; rfl, repB G _, k⟩
    · exact k.elim
  · exact k.elim
end
end Go.Proofs.YtmocchnodigmlaaGreatDoor.AL
