import Derived.Test.YtmocchnodigmlaaGreatDoorAL22
set_option linter.all false
set_option autoImplicit true
set_option relaxedAutoImplicit true
set_option linter.unusedVariables false
/-! Slots that are quick to be looked up. -/
namespace Go.Proofs.YtmocchnodigmlaaGreatDoor.AL
noncomputable section

structure V16 where
  (a0 a1 a2 a3 a4 a5 a6 a7 a8 a9 a10 a11 a12 a13 a14 a15 : Option AV)

structure E16 where
  (b0 b1 b2 b3 b4 b5 b6 b7 b8 b9 b10 b11 b12 b13 b14 b15 : V16)

structure LensV where
  g : V16 → Option AV
  s : V16 → AV → V16
structure Lens where
  g : E16 → Option AV
  s : E16 → AV → E16

def v0 : V16 := ⟨none, none, none, none, none, none, none, none, none, none, none, none, none, none, none, none⟩
def ee0 : E16 := ⟨v0, v0, v0, v0, v0, v0, v0, v0, v0, v0, v0, v0, v0, v0, v0, v0⟩
def lensV (i : Nat) : LensV := match i with
  | 0 => ⟨fun v => v.a0, fun v x => match v with | ⟨a0, a1, a2, a3, a4, a5, a6, a7, a8, a9, a10, a11, a12, a13, a14, a15⟩ => ⟨some x, a1, a2, a3, a4, a5, a6, a7, a8, a9, a10, a11, a12, a13, a14, a15⟩⟩
  | 1 => ⟨fun v => v.a1, fun v x => match v with | ⟨a0, a1, a2, a3, a4, a5, a6, a7, a8, a9, a10, a11, a12, a13, a14, a15⟩ => ⟨a0, some x, a2, a3, a4, a5, a6, a7, a8, a9, a10, a11, a12, a13, a14, a15⟩⟩
  | 2 => ⟨fun v => v.a2, fun v x => match v with | ⟨a0, a1, a2, a3, a4, a5, a6, a7, a8, a9, a10, a11, a12, a13, a14, a15⟩ => ⟨a0, a1, some x, a3, a4, a5, a6, a7, a8, a9, a10, a11, a12, a13, a14, a15⟩⟩
  | 3 => ⟨fun v => v.a3, fun v x => match v with | ⟨a0, a1, a2, a3, a4, a5, a6, a7, a8, a9, a10, a11, a12, a13, a14, a15⟩ => ⟨a0, a1, a2, some x, a4, a5, a6, a7, a8, a9, a10, a11, a12, a13, a14, a15⟩⟩
  | 4 => ⟨fun v => v.a4, fun v x => match v with | ⟨a0, a1, a2, a3, a4, a5, a6, a7, a8, a9, a10, a11, a12, a13, a14, a15⟩ => ⟨a0, a1, a2, a3, some x, a5, a6, a7, a8, a9, a10, a11, a12, a13, a14, a15⟩⟩
  | 5 => ⟨fun v => v.a5, fun v x => match v with | ⟨a0, a1, a2, a3, a4, a5, a6, a7, a8, a9, a10, a11, a12, a13, a14, a15⟩ => ⟨a0, a1, a2, a3, a4, some x, a6, a7, a8, a9, a10, a11, a12, a13, a14, a15⟩⟩
  | 6 => ⟨fun v => v.a6, fun v x => match v with | ⟨a0, a1, a2, a3, a4, a5, a6, a7, a8, a9, a10, a11, a12, a13, a14, a15⟩ => ⟨a0, a1, a2, a3, a4, a5, some x, a7, a8, a9, a10, a11, a12, a13, a14, a15⟩⟩
  | 7 => ⟨fun v => v.a7, fun v x => match v with | ⟨a0, a1, a2, a3, a4, a5, a6, a7, a8, a9, a10, a11, a12, a13, a14, a15⟩ => ⟨a0, a1, a2, a3, a4, a5, a6, some x, a8, a9, a10, a11, a12, a13, a14, a15⟩⟩
  | 8 => ⟨fun v => v.a8, fun v x => match v with | ⟨a0, a1, a2, a3, a4, a5, a6, a7, a8, a9, a10, a11, a12, a13, a14, a15⟩ => ⟨a0, a1, a2, a3, a4, a5, a6, a7, some x, a9, a10, a11, a12, a13, a14, a15⟩⟩
  | 9 => ⟨fun v => v.a9, fun v x => match v with | ⟨a0, a1, a2, a3, a4, a5, a6, a7, a8, a9, a10, a11, a12, a13, a14, a15⟩ => ⟨a0, a1, a2, a3, a4, a5, a6, a7, a8, some x, a10, a11, a12, a13, a14, a15⟩⟩
  | 10 => ⟨fun v => v.a10, fun v x => match v with | ⟨a0, a1, a2, a3, a4, a5, a6, a7, a8, a9, a10, a11, a12, a13, a14, a15⟩ => ⟨a0, a1, a2, a3, a4, a5, a6, a7, a8, a9, some x, a11, a12, a13, a14, a15⟩⟩
  | 11 => ⟨fun v => v.a11, fun v x => match v with | ⟨a0, a1, a2, a3, a4, a5, a6, a7, a8, a9, a10, a11, a12, a13, a14, a15⟩ => ⟨a0, a1, a2, a3, a4, a5, a6, a7, a8, a9, a10, some x, a12, a13, a14, a15⟩⟩
  | 12 => ⟨fun v => v.a12, fun v x => match v with | ⟨a0, a1, a2, a3, a4, a5, a6, a7, a8, a9, a10, a11, a12, a13, a14, a15⟩ => ⟨a0, a1, a2, a3, a4, a5, a6, a7, a8, a9, a10, a11, some x, a13, a14, a15⟩⟩
  | 13 => ⟨fun v => v.a13, fun v x => match v with | ⟨a0, a1, a2, a3, a4, a5, a6, a7, a8, a9, a10, a11, a12, a13, a14, a15⟩ => ⟨a0, a1, a2, a3, a4, a5, a6, a7, a8, a9, a10, a11, a12, some x, a14, a15⟩⟩
  | 14 => ⟨fun v => v.a14, fun v x => match v with | ⟨a0, a1, a2, a3, a4, a5, a6, a7, a8, a9, a10, a11, a12, a13, a14, a15⟩ => ⟨a0, a1, a2, a3, a4, a5, a6, a7, a8, a9, a10, a11, a12, a13, some x, a15⟩⟩
  | 15 => ⟨fun v => v.a15, fun v x => match v with | ⟨a0, a1, a2, a3, a4, a5, a6, a7, a8, a9, a10, a11, a12, a13, a14, a15⟩ => ⟨a0, a1, a2, a3, a4, a5, a6, a7, a8, a9, a10, a11, a12, a13, a14, some x⟩⟩
  | _ => ⟨fun _ => none, fun v _ => v⟩
def lensE (j : Nat) (l : LensV) : Lens := match j with
  | 0 => ⟨fun e => l.g e.b0, fun e x => match e with | ⟨b0, b1, b2, b3, b4, b5, b6, b7, b8, b9, b10, b11, b12, b13, b14, b15⟩ => ⟨l.s b0 x, b1, b2, b3, b4, b5, b6, b7, b8, b9, b10, b11, b12, b13, b14, b15⟩⟩
  | 1 => ⟨fun e => l.g e.b1, fun e x => match e with | ⟨b0, b1, b2, b3, b4, b5, b6, b7, b8, b9, b10, b11, b12, b13, b14, b15⟩ => ⟨b0, l.s b1 x, b2, b3, b4, b5, b6, b7, b8, b9, b10, b11, b12, b13, b14, b15⟩⟩
  | 2 => ⟨fun e => l.g e.b2, fun e x => match e with | ⟨b0, b1, b2, b3, b4, b5, b6, b7, b8, b9, b10, b11, b12, b13, b14, b15⟩ => ⟨b0, b1, l.s b2 x, b3, b4, b5, b6, b7, b8, b9, b10, b11, b12, b13, b14, b15⟩⟩
  | 3 => ⟨fun e => l.g e.b3, fun e x => match e with | ⟨b0, b1, b2, b3, b4, b5, b6, b7, b8, b9, b10, b11, b12, b13, b14, b15⟩ => ⟨b0, b1, b2, l.s b3 x, b4, b5, b6, b7, b8, b9, b10, b11, b12, b13, b14, b15⟩⟩
  | 4 => ⟨fun e => l.g e.b4, fun e x => match e with | ⟨b0, b1, b2, b3, b4, b5, b6, b7, b8, b9, b10, b11, b12, b13, b14, b15⟩ => ⟨b0, b1, b2, b3, l.s b4 x, b5, b6, b7, b8, b9, b10, b11, b12, b13, b14, b15⟩⟩
  | 5 => ⟨fun e => l.g e.b5, fun e x => match e with | ⟨b0, b1, b2, b3, b4, b5, b6, b7, b8, b9, b10, b11, b12, b13, b14, b15⟩ => ⟨b0, b1, b2, b3, b4, l.s b5 x, b6, b7, b8, b9, b10, b11, b12, b13, b14, b15⟩⟩
  | 6 => ⟨fun e => l.g e.b6, fun e x => match e with | ⟨b0, b1, b2, b3, b4, b5, b6, b7, b8, b9, b10, b11, b12, b13, b14, b15⟩ => ⟨b0, b1, b2, b3, b4, b5, l.s b6 x, b7, b8, b9, b10, b11, b12, b13, b14, b15⟩⟩
  | 7 => ⟨fun e => l.g e.b7, fun e x => match e with | ⟨b0, b1, b2, b3, b4, b5, b6, b7, b8, b9, b10, b11, b12, b13, b14, b15⟩ => ⟨b0, b1, b2, b3, b4, b5, b6, l.s b7 x, b8, b9, b10, b11, b12, b13, b14, b15⟩⟩
  | 8 => ⟨fun e => l.g e.b8, fun e x => match e with | ⟨b0, b1, b2, b3, b4, b5, b6, b7, b8, b9, b10, b11, b12, b13, b14, b15⟩ => ⟨b0, b1, b2, b3, b4, b5, b6, b7, l.s b8 x, b9, b10, b11, b12, b13, b14, b15⟩⟩
  | 9 => ⟨fun e => l.g e.b9, fun e x => match e with | ⟨b0, b1, b2, b3, b4, b5, b6, b7, b8, b9, b10, b11, b12, b13, b14, b15⟩ => ⟨b0, b1, b2, b3, b4, b5, b6, b7, b8, l.s b9 x, b10, b11, b12, b13, b14, b15⟩⟩
  | 10 => ⟨fun e => l.g e.b10, fun e x => match e with | ⟨b0, b1, b2, b3, b4, b5, b6, b7, b8, b9, b10, b11, b12, b13, b14, b15⟩ => ⟨b0, b1, b2, b3, b4, b5, b6, b7, b8, b9, l.s b10 x, b11, b12, b13, b14, b15⟩⟩
  | 11 => ⟨fun e => l.g e.b11, fun e x => match e with | ⟨b0, b1, b2, b3, b4, b5, b6, b7, b8, b9, b10, b11, b12, b13, b14, b15⟩ => ⟨b0, b1, b2, b3, b4, b5, b6, b7, b8, b9, b10, l.s b11 x, b12, b13, b14, b15⟩⟩
  | 12 => ⟨fun e => l.g e.b12, fun e x => match e with | ⟨b0, b1, b2, b3, b4, b5, b6, b7, b8, b9, b10, b11, b12, b13, b14, b15⟩ => ⟨b0, b1, b2, b3, b4, b5, b6, b7, b8, b9, b10, b11, l.s b12 x, b13, b14, b15⟩⟩
  | 13 => ⟨fun e => l.g e.b13, fun e x => match e with | ⟨b0, b1, b2, b3, b4, b5, b6, b7, b8, b9, b10, b11, b12, b13, b14, b15⟩ => ⟨b0, b1, b2, b3, b4, b5, b6, b7, b8, b9, b10, b11, b12, l.s b13 x, b14, b15⟩⟩
  | 14 => ⟨fun e => l.g e.b14, fun e x => match e with | ⟨b0, b1, b2, b3, b4, b5, b6, b7, b8, b9, b10, b11, b12, b13, b14, b15⟩ => ⟨b0, b1, b2, b3, b4, b5, b6, b7, b8, b9, b10, b11, b12, b13, l.s b14 x, b15⟩⟩
  | 15 => ⟨fun e => l.g e.b15, fun e x => match e with | ⟨b0, b1, b2, b3, b4, b5, b6, b7, b8, b9, b10, b11, b12, b13, b14, b15⟩ => ⟨b0, b1, b2, b3, b4, b5, b6, b7, b8, b9, b10, b11, b12, b13, b14, l.s b15 x⟩⟩
  | _ => ⟨fun _ => none, fun e _ => e⟩
def lens (s : Nat) : Lens := lensE (Nat.div s 16) (lensV (Nat.mod s 16))
theorem lt16 {i : Nat} (h : i < 16) : i = 0 ∨ i = 1 ∨ i = 2 ∨ i = 3 ∨ i = 4 ∨ i = 5 ∨ i = 6 ∨ i = 7 ∨ i = 8 ∨ i = 9 ∨ i = 10 ∨ i = 11 ∨ i = 12 ∨ i = 13 ∨ i = 14 ∨ i = 15 := by omega
theorem lensV_same {i : Nat} (h : i < 16) (v : V16) (x : AV) : (lensV i).g ((lensV i).s v x) = some x := by
  rcases lt16 h with rfl|rfl|rfl|rfl|rfl|rfl|rfl|rfl|rfl|rfl|rfl|rfl|rfl|rfl|rfl|rfl <;> rfl
theorem lensV_other {i j : Nat} (h : i < 16) (hj : j < 16) (e : i ≠ j) (v : V16) (x : AV) : (lensV i).g ((lensV j).s v x) = (lensV i).g v := by
  rcases lt16 h with rfl|rfl|rfl|rfl|rfl|rfl|rfl|rfl|rfl|rfl|rfl|rfl|rfl|rfl|rfl|rfl <;> rcases lt16 hj with rfl|rfl|rfl|rfl|rfl|rfl|rfl|rfl|rfl|rfl|rfl|rfl|rfl|rfl|rfl|rfl <;> first | exact absurd rfl e | rfl
def bAtE (j : Nat) (e : E16) : V16 := match j with
  | 0 => e.b0
  | 1 => e.b1
  | 2 => e.b2
  | 3 => e.b3
  | 4 => e.b4
  | 5 => e.b5
  | 6 => e.b6
  | 7 => e.b7
  | 8 => e.b8
  | 9 => e.b9
  | 10 => e.b10
  | 11 => e.b11
  | 12 => e.b12
  | 13 => e.b13
  | 14 => e.b14
  | 15 => e.b15
  | _ => v0
theorem lensE_g {j : Nat} (h : j < 16) (l : LensV) (e : E16) : (lensE j l).g e = l.g (bAtE j e) := by
  rcases lt16 h with rfl|rfl|rfl|rfl|rfl|rfl|rfl|rfl|rfl|rfl|rfl|rfl|rfl|rfl|rfl|rfl <;> rfl
theorem bAtE_same {j : Nat} (h : j < 16) (m : LensV) (e : E16) (x : AV) : bAtE j ((lensE j m).s e x) = m.s (bAtE j e) x := by
  rcases lt16 h with rfl|rfl|rfl|rfl|rfl|rfl|rfl|rfl|rfl|rfl|rfl|rfl|rfl|rfl|rfl|rfl <;> rfl
theorem bAtE_other {j k : Nat} (h : j < 16) (hk : k < 16) (ne : j ≠ k) (m : LensV) (e : E16) (x : AV) : bAtE j ((lensE k m).s e x) = bAtE j e := by
  rcases lt16 h with rfl|rfl|rfl|rfl|rfl|rfl|rfl|rfl|rfl|rfl|rfl|rfl|rfl|rfl|rfl|rfl <;> rcases lt16 hk with rfl|rfl|rfl|rfl|rfl|rfl|rfl|rfl|rfl|rfl|rfl|rfl|rfl|rfl|rfl|rfl <;> first | exact absurd rfl ne | rfl
theorem lensE_far {j : Nat} (h : ¬ j < 16) (l : LensV) : lensE j l = ⟨fun _ => none, fun e _ => e⟩ := by
  unfold lensE
  split <;> first | (exfalso; omega) | rfl
theorem lens_get {k d : Nat} {e : E16} {x v : AV} (h : (lens k).g ((lens d).s e x) = some v) : (k = d ∧ v = x) ∨ (k ≠ d ∧ (lens k).g e = some v) := by
  unfold lens at *
  have hk : Nat.mod k 16 < 16 := Nat.mod_lt _ (by omega)
  have hd : Nat.mod d 16 < 16 := Nat.mod_lt _ (by omega)
  by_cases hK : Nat.div k 16 < 16
  · by_cases hD : Nat.div d 16 < 16
    · rw [lensE_g hK] at h ⊢
      by_cases e1 : Nat.div k 16 = Nat.div d 16
      · rw [e1] at h ⊢
        rw [bAtE_same hD] at h
        by_cases e2 : Nat.mod k 16 = Nat.mod d 16
        · rw [e2, lensV_same hd] at h
          cases h
          refine .inl ⟨?_, rfl⟩
          have a1 : k / 16 = d / 16 := e1
          have a2 : k % 16 = d % 16 := e2
          omega
        · rw [lensV_other hk hd e2] at h
          exact .inr ⟨fun e => e2 (by rw [e]), h⟩
      · rw [bAtE_other hK hD e1] at h
        exact .inr ⟨fun e => e1 (by rw [e]), h⟩
    · rw [lensE_far hD] at h
      exact .inr ⟨fun e => hD (by rw [← e]; exact hK), h⟩
  · rw [lensE_far hK] at h
    cases h
theorem ee0_get (k : Nat) : (lens k).g ee0 = none := by
  unfold lens
  have hk : Nat.mod k 16 < 16 := Nat.mod_lt _ (by omega)
  by_cases hK : Nat.div k 16 < 16
  · rw [lensE_g hK]
    have : bAtE (Nat.div k 16) ee0 = v0 := by rcases lt16 hK with h|h|h|h|h|h|h|h|h|h|h|h|h|h|h|h <;> rw [h] <;> rfl
    rw [this]
    rcases lt16 hk with h|h|h|h|h|h|h|h|h|h|h|h|h|h|h|h <;> rw [h] <;> rfl
  · rw [lensE_far hK]
end
end Go.Proofs.YtmocchnodigmlaaGreatDoor.AL