import Derived.Test.YtochldeokjifkaaGreatDoorAM4toAM6
import Derived.Test.YtochldeokjifkaaGreatDoorAL27toAL31
import Derived.MapKept
import Derived.Test.YtochldeokjifkaaGreatDoorF5
import Derived.Lib.Index
set_option linter.all false
set_option autoImplicit true
set_option relaxedAutoImplicit true
set_option maxRecDepth 100000
namespace Go.Proofs.YtochldeokjifkaaGreatDoor.AL
noncomputable section
class Ky (κ : Type) where
  dec : DecidableEq κ
  lt : κ → κ → Prop
  dlt : DecidableRel lt
  irr : ∀ a, ¬ lt a a
  trans : ∀ {a b c}, lt a b → lt b c → lt a c
  tri : ∀ {a b}, ¬ lt a b → a ≠ b → lt b a
  val : κ → Value
  kd : TypeDesc
  kok : ∀ k, kOk kd (val k) = true
  keq : ∀ a b, AL.keq (val a) (val b) = @decide (a = b) (dec a b)
  one : ∀ k, (val k).oneCell' = true
instance (κ : Type) [Ky κ] : DecidableEq κ := Ky.dec
instance (κ : Type) [Ky κ] : DecidableRel (Ky.lt (κ := κ)) := Ky.dlt
section
variable {κ α : Type} [Ky κ]
abbrev KM (κ α : Type) := List (κ × α)
abbrev KL (α : Type) := KM (List UInt8) α
def lookK (k : κ) : KM κ α → Option α
  | [] => none
  | (a, v) :: r => if k = a then some v else lookK k r
def insK (k : κ) (v : α) : KM κ α → KM κ α
  | [] => [(k, v)]
  | (a, w) :: r => if k = a then (k, v) :: r else if Ky.lt k a then (k, v) :: (a, w) :: r else (a, w) :: insK k v r
def SoK (l : KM κ α) : Prop := l.Pairwise fun a b => Ky.lt a.1 b.1
theorem lt_ne {a b : κ} (h : Ky.lt a b) : a ≠ b := fun e => by subst e; exact Ky.irr _ h
theorem lt_tri {a b : κ} (h1 : ¬ Ky.lt a b) (h2 : a ≠ b) : Ky.lt b a := Ky.tri h1 h2
theorem SoK.nd {l : KM κ α} (s : SoK l) : (l.map (·.1)).Nodup := by
  rw [List.nodup_iff_pairwise_ne, List.pairwise_map]
  exact s.imp fun h => lt_ne h
theorem insK_mem {k : κ} {v : α} : ∀ {l : KM κ α}, SoK l → ∀ x, x ∈ insK k v l ↔ x = (k, v) ∨ (x ∈ l ∧ x.1 ≠ k)
  | [], _, x => by simp [insK]
  | (a, w) :: r, s, x => by
    obtain ⟨s1, s2⟩ := List.pairwise_cons.1 s
    unfold insK
    by_cases h : k = a
    · subst h
      rw [if_pos rfl]
      simp only [List.mem_cons]
      constructor
      · rintro (h | h)
        · exact .inl h
        · exact .inr ⟨.inr h, fun e => lt_ne (s1 x h) e.symm⟩
      · rintro (h | ⟨h | h, h2⟩)
        · exact .inl h
        · subst h; exact (h2 rfl).elim
        · exact .inr h
    · rw [if_neg h]
      split
      · rename_i h1
        simp only [List.mem_cons]
        constructor
        · rintro (h2 | h2 | h2)
          · exact .inl h2
          · exact .inr ⟨.inl h2, by subst h2; exact Ne.symm h⟩
          · exact .inr ⟨.inr h2, fun e => lt_ne (Ky.trans h1 (s1 x h2)) e.symm⟩
        · rintro (h2 | ⟨h2, _⟩)
          · exact .inl h2
          · exact .inr h2
      · simp only [List.mem_cons, insK_mem s2 x]
        constructor
        · rintro (h2 | h2 | ⟨h2, h3⟩)
          · exact .inr ⟨.inl h2, by subst h2; exact Ne.symm h⟩
          · exact .inl h2
          · exact .inr ⟨.inr h2, h3⟩
        · rintro (h2 | ⟨h2 | h2, h3⟩)
          · exact .inr (.inl h2)
          · exact .inl h2
          · exact .inr (.inr ⟨h2, h3⟩)
theorem insK_so {k : κ} {v : α} : ∀ {l : KM κ α}, SoK l → SoK (insK k v l)
  | [], _ => by simp [insK, SoK]
  | (a, w) :: r, s => by
    obtain ⟨s1, s2⟩ := List.pairwise_cons.1 s
    unfold insK
    by_cases h : k = a
    · subst h
      rw [if_pos rfl]
      exact List.pairwise_cons.2 ⟨s1, s2⟩
    · rw [if_neg h]
      split
      · rename_i h1
        refine List.pairwise_cons.2 ⟨fun x hx => ?_, s⟩
        rcases List.mem_cons.1 hx with rfl | hx
        · exact h1
        · exact Ky.trans h1 (s1 x hx)
      · rename_i h1
        refine List.pairwise_cons.2 ⟨fun x hx => ?_, insK_so s2⟩
        rcases (insK_mem s2 x).1 hx with rfl | ⟨h2, _⟩
        · exact lt_tri h1 h
        · exact s1 x h2
theorem lookK_none {k : κ} : ∀ {l : KM κ α}, lookK k l = none ↔ ∀ x ∈ l, x.1 ≠ k
  | [] => by simp [lookK]
  | (a, w) :: r => by
    unfold lookK
    split
    · rename_i h; subst h; simp
    · rename_i h
      rw [lookK_none (l := r)]
      simp only [List.mem_cons, forall_eq_or_imp]
      exact ⟨fun hh => ⟨Ne.symm h, hh⟩, fun hh => hh.2⟩
theorem lookK_mem {k : κ} {v : α} : ∀ {l : KM κ α}, (l.map (·.1)).Nodup → (lookK k l = some v ↔ (k, v) ∈ l)
  | [], _ => by simp [lookK]
  | (a, w) :: r, nd => by
    simp only [List.map_cons, List.nodup_cons] at nd
    unfold lookK
    by_cases h : k = a
    · subst h
      rw [if_pos rfl]
      simp only [Option.some.injEq, List.mem_cons, Prod.mk.injEq, true_and]
      constructor
      · intro h; exact .inl h.symm
      · rintro (h | h)
        · exact h.symm
        · exact (nd.1 (List.mem_map.2 ⟨_, h, rfl⟩)).elim
    · rw [if_neg h, lookK_mem (l := r) nd.2]; simp [h]
theorem perm_of_mem {a b : KM κ α} (na : (a.map (·.1)).Nodup) (nb : (b.map (·.1)).Nodup) (e : ∀ x, x ∈ a ↔ x ∈ b) : a.Perm b :=
  (List.perm_ext_iff_of_nodup (List.Pairwise.of_map _ (fun _ _ h e => h (by rw [e])) na) (List.Pairwise.of_map _ (fun _ _ h e => h (by rw [e])) nb)).2 e
end
instance kyS : Ky (List UInt8) where
  dec := inferInstance
  lt := (· < ·)
  dlt := inferInstance
  irr _ := List.lt_irrefl _
  trans := List.lt_trans
  tri h1 h2 := Std.lt_of_le_of_ne (List.not_lt.1 h1) (Ne.symm h2)
  val k := .string ⟨⟨k⟩⟩
  kd := .string
  kok _ := rfl
  keq x y := by
    show ((⟨x⟩ : Array UInt8) == ⟨y⟩) = decide (x = y)
    rw [Bool.eq_iff_iff, decide_eq_true_eq]; simp
  one _ := rfl
instance kyI : Ky Int where
  dec := inferInstance
  lt := (· < ·)
  dlt := inferInstance
  irr _ := Int.lt_irrefl _
  trans := Int.lt_trans
  tri h1 h2 := by omega
  val k := .int .i64 k
  kd := .int .i64
  kok _ := rfl
  keq x y := by
    show (x == y) = decide (x = y)
    rw [Bool.eq_iff_iff, decide_eq_true_eq]; simp
  one _ := rfl
def mE {κ α : Type} [Ky κ] (enc : α → AV) (es : List (κ × Nat × α)) : MEnts := es.map fun e => (Ky.val e.1, e.2.1, enc e.2.2)
structure MapR {κ α : Type} [Ky κ] (enc : α → AV) (es : List (κ × Nat × α)) (n : Nat) (l : KM κ α) : Prop where
  up : (es.map (·.2.1)).Pairwise (· < ·)
  lt : ∀ e ∈ es, e.2.1 < n
  nd : (es.map (·.1)).Nodup
  eq : ∀ x, x ∈ es.map (fun e => (e.1, e.2.2)) ↔ x ∈ l
  so : SoK l
def MapS {κ α : Type} [Ky κ] (enc : α → AV) (l : KM κ α) (o : AObj) : Prop := ∃ (es : List (κ × Nat × α)) (n : Nat), o = .amap (mE enc es) n ∧ MapR enc es n l
theorem MapS.nil {κ α : Type} [Ky κ] (enc : α → AV) : MapS enc ([] : KM κ α) (.amap [] 0) := ⟨[], 0, rfl, by simp, by simp, by simp, by simp, by simp [SoK]⟩
section
variable {κ α : Type} [Ky κ] {enc : α → AV} {es : List (κ × Nat × α)} {n : Nat} {l : KM κ α}
theorem MapR.kv (m : MapR enc es n l) : ((es.map (fun e => (e.1, e.2.2))).map (·.1)).Nodup := by rw [List.map_map]; exact m.nd
theorem MapR.perm (m : MapR enc es n l) : (es.map (fun e => (e.1, e.2.2))).Perm l := perm_of_mem m.kv m.so.nd m.eq
theorem MapR.len (m : MapR enc es n l) : es.length = l.length := by have := m.perm.length_eq; simpa using this
variable [Tabs]
theorem mfind_mE (k : κ) : ∀ (i : Nat) (es : List (κ × Nat × α)), (mfind (Ky.val k) (mE enc es) i = none ∧ ∀ e ∈ es, e.1 ≠ k) ∨ ∃ j, ∃ hj : j < es.length, mfind (Ky.val k) (mE enc es) i = some (i + j, es[j].2.1, enc es[j].2.2) ∧ es[j].1 = k
  | i, [] => .inl ⟨rfl, by simp⟩
  | i, (a, b, v) :: r => by
    unfold mE
    rw [List.map_cons, mfind, Ky.keq]
    by_cases h : k = a
    · subst h
      exact .inr ⟨0, by simp, by simp, rfl⟩
    · rw [if_neg (by simpa using h)]
      rcases mfind_mE k (i + 1) r with ⟨h1, h2⟩ | ⟨j, hj, h1, h2⟩
      · exact .inl ⟨h1, by simpa using ⟨Ne.symm h, fun x y z => h2 (x, y, z)⟩⟩
      · exact .inr ⟨j + 1, by simpa using hj, by unfold mE at h1; rw [h1]; simp; omega, by simpa using h2⟩
theorem MapR.find (m : MapR enc es n l) (k : κ) : (mfind (Ky.val k) (mE enc es) 0 = none ∧ lookK k l = none ∧ ∀ e ∈ es, e.1 ≠ k) ∨ ∃ j, ∃ hj : j < es.length, mfind (Ky.val k) (mE enc es) 0 = some (j, es[j].2.1, enc es[j].2.2) ∧ es[j].1 = k ∧ lookK k l = some es[j].2.2 := by
  rcases mfind_mE (enc := enc) k 0 es with ⟨h1, h2⟩ | ⟨j, hj, h1, h2⟩
  · refine .inl ⟨h1, lookK_none.2 fun x hx => ?_, h2⟩
    obtain ⟨e, he, rfl⟩ := List.mem_map.1 ((m.eq x).2 hx)
    exact h2 e he
  · refine .inr ⟨j, hj, by simpa using h1, h2, ?_⟩
    rw [lookK_mem m.so.nd, ← m.eq]
    exact List.mem_map.2 ⟨es[j], List.getElem_mem _, by rw [h2]⟩
theorem MapR.app (m : MapR enc es n l) {k : κ} {v : α} (hn : ∀ e ∈ es, e.1 ≠ k) : MapR enc (es ++ [(k, n, v)]) (n + 1) (insK k v l) where
  up := by
    rw [List.map_append, List.pairwise_append]
    refine ⟨m.up, by simp, fun a ha b hb => ?_⟩
    obtain ⟨e, he, rfl⟩ := List.mem_map.1 ha
    simp at hb; subst hb; exact m.lt e he
  lt e he := by
    rcases List.mem_append.1 he with h | h
    · have := m.lt e h; omega
    · simp at h; subst h; simp
  nd := by
    rw [List.map_append, List.nodup_append]
    refine ⟨m.nd, by simp, fun a ha b hb e => ?_⟩
    obtain ⟨x, hx, rfl⟩ := List.mem_map.1 ha
    simp at hb; subst hb; exact hn x hx e
  eq x := by
    rw [List.map_append, List.mem_append, m.eq, insK_mem m.so]
    simp only [List.map_cons, List.map_nil, List.mem_singleton]
    constructor
    · rintro (h | h)
      · obtain ⟨e, he, rfl⟩ := List.mem_map.1 ((m.eq x).2 h)
        exact .inr ⟨h, hn e he⟩
      · exact .inl h
    · rintro (h | ⟨h, _⟩)
      · exact .inr h
      · exact .inl h
  so := insK_so m.so
theorem nd_inj {β : Type} {l : List β} (nd : l.Nodup) {i j : Nat} (hi : i < l.length) (hj : j < l.length) (e : l[i] = l[j]) : i = j := by
  rw [List.nodup_iff_pairwise_ne, List.pairwise_iff_getElem] at nd
  rcases Nat.lt_trichotomy i j with h | h | h
  · exact (nd i j hi hj h e).elim
  · exact h
  · exact (nd j i hj hi h e.symm).elim
theorem mem_setIx {β : Type} {l : List β} {i : Nat} (hi : i < l.length) (nd : l.Nodup) (b x : β) : x ∈ l.set i b ↔ x = b ∨ (x ∈ l ∧ x ≠ l[i]) := by
  constructor
  · intro h
    obtain ⟨j, hj, rfl⟩ := List.getElem_of_mem h
    rw [List.getElem_set]
    split
    · exact .inl rfl
    · rename_i hne
      rw [List.length_set] at hj
      exact .inr ⟨List.getElem_mem _, fun e => hne (nd_inj nd hj hi e).symm⟩
  · rintro (rfl | ⟨h, hne⟩)
    · exact List.mem_iff_getElem.2 ⟨i, by simpa using hi, by simp⟩
    · obtain ⟨j, hj, rfl⟩ := List.getElem_of_mem h
      refine List.mem_iff_getElem.2 ⟨j, by simpa using hj, ?_⟩
      rw [List.getElem_set, if_neg]
      intro e; subst e; exact hne rfl
theorem MapR.set (m : MapR enc es n l) {k : κ} {v : α} {j : Nat} (hj : j < es.length) (hk : es[j].1 = k) : MapR enc (es.set j (k, es[j].2.1, v)) n (insK k v l) := by
  have e1 : (es.set j (k, es[j].2.1, v)).map (·.2.1) = es.map (·.2.1) := by rw [List.map_set]; refine List.ext_getElem (by simp) fun i h1 h2 => ?_; rw [List.getElem_set]; split <;> simp_all
  have e2 : (es.set j (k, es[j].2.1, v)).map (·.1) = es.map (·.1) := by rw [List.map_set]; refine List.ext_getElem (by simp) fun i h1 h2 => ?_; rw [List.getElem_set]; split <;> simp_all
  refine ⟨by rw [e1]; exact m.up, fun e he => ?_, by rw [e2]; exact m.nd, fun x => ?_, insK_so m.so⟩
  · have : e.2.1 ∈ (es.set j (k, es[j].2.1, v)).map (·.2.1) := List.mem_map_of_mem he
    rw [e1] at this
    obtain ⟨x, hx, he⟩ := List.mem_map.1 this
    rw [← he]; exact m.lt x hx
  · rw [List.map_set, insK_mem m.so, ← m.eq]
    have nd : (es.map (fun e => (e.1, e.2.2))).Nodup := List.Pairwise.of_map _ (fun _ _ h e => h (by rw [e])) m.kv
    rw [mem_setIx (by simpa using hj) nd]
    refine or_congr Iff.rfl (and_congr_right fun hx => not_congr ?_)
    rw [List.getElem_map]
    constructor
    · intro h; rw [h]; exact hk
    · intro h
      obtain ⟨q, hq, rfl⟩ := List.getElem_of_mem hx
      rw [List.length_map] at hq
      simp only [List.getElem_map] at h ⊢
      have := nd_inj m.nd (i := q) (j := j) (by simpa using hq) (by simpa using hj) (by simp [h, hk])
      subst this; rfl
variable {h0 h : AHeap} {M : List Nat} {L L' : Own} {K : AV → Prop} {KH : QT} {KL' : AHeap → Prop}
theorem MapS.put {o : AObj} (m : MapS enc l o) (k : κ) (v : α) : ∃ (es : List (κ × Nat × α)) (n : Nat), o = .amap (mE enc es) n ∧ MapS enc (insK k v l) (mput (Ky.val k) (enc v) n (mE enc es)) := by
  obtain ⟨es, n, rfl, r⟩ := m
  refine ⟨es, n, rfl, ?_⟩
  unfold mput
  rcases r.find k with ⟨h1, h2, h3⟩ | ⟨j, hj, h1, h2, h3⟩
  · rw [h1]; exact ⟨_, _, by simp [mE], r.app h3⟩
  · rw [h1]; exact ⟨_, _, by simp [mE, List.map_set], r.set hj h2⟩
end
section
variable [Tabs]
variable {α : Type} {enc : α → AV} {h0 h : AHeap} {M : List Nat} {L L' : Own} {K : AV → Prop} {KS' : AHeap → Prop}
end
end
end Go.Proofs.YtochldeokjifkaaGreatDoor.AL
namespace Go.Proofs.YtochldeokjifkaaGreatDoor.AL
noncomputable section
open Go.RowKit Go.Maps Go.Sort Go.Shelf Go.WideElems Go.WideShapes
open Go.Proofs (encStr)
variable [Tabs]
section
variable {P : Program}
end
end
end Go.Proofs.YtochldeokjifkaaGreatDoor.AL
namespace Go.Proofs.YtochldeokjifkaaGreatDoor.AL
noncomputable section
variable [Tabs]
def dropB (c : UInt8) : Str → Str
  | [] => []
  | x :: l => if x = c then dropB c l else x :: l
end
end Go.Proofs.YtochldeokjifkaaGreatDoor.AL
namespace Go.Proofs.YtochldeokjifkaaGreatDoor.AL
noncomputable section
variable [Tabs]
end
end Go.Proofs.YtochldeokjifkaaGreatDoor.AL
namespace Go.Proofs.YtochldeokjifkaaGreatDoor.AL
noncomputable section
variable [Tabs]
end
end Go.Proofs.YtochldeokjifkaaGreatDoor.AL
namespace Go.Proofs.YtochldeokjifkaaGreatDoor.AL
noncomputable section
variable [Tabs]
end
end Go.Proofs.YtochldeokjifkaaGreatDoor.AL
namespace Go.Proofs.YtochldeokjifkaaGreatDoor.AL
noncomputable section
structure Rw where
  name : List UInt8
  bits : Nat
  kinds : List UInt8
end
end Go.Proofs.YtochldeokjifkaaGreatDoor.AL
set_option exponentiation.threshold 2000
namespace Go.Proofs.YtochldeokjifkaaGreatDoor.AL
noncomputable section
open Ieee
end
end Go.Proofs.YtochldeokjifkaaGreatDoor.AL
namespace Go.Proofs.YtochldeokjifkaaGreatDoor.AL
noncomputable section
variable [Tabs]
end
end Go.Proofs.YtochldeokjifkaaGreatDoor.AL
namespace Go.Proofs.YtochldeokjifkaaGreatDoor.AL
noncomputable section
variable [Tabs]
end
end Go.Proofs.YtochldeokjifkaaGreatDoor.AL
