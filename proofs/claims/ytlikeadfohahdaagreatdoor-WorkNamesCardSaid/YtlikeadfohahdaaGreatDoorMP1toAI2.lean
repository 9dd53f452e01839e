import Derived.Test.YtlikeadfohahdaaGreatDoorAM4toAM6
import Derived.Test.YtlikeadfohahdaaGreatDoorAL27toAL31
import Derived.MapKept
import Derived.Test.YtlikeadfohahdaaGreatDoorF5
import Derived.Lib.Index
set_option linter.all false
set_option autoImplicit true
set_option relaxedAutoImplicit true
set_option maxRecDepth 100000
namespace Go.Proofs.YtlikeadfohahdaaGreatDoor.AL
noncomputable section
class Ky (κ : Type) where
  dec : DecidableEq κ
  lt : κ → κ → Prop
  dlt : DecidableRel lt
  irr : ∀ a, ¬ lt a a
  trans : ∀ {a b c}, lt a b → lt b c → lt a c
  tri : ∀ {a b}, ¬ lt a b → a ≠ b → lt b a
  val : κ → Value
  kd : TypeDesc
  kok : ∀ k, kOk kd (val k) = true
  keq : ∀ a b, AL.keq (val a) (val b) = @decide (a = b) (dec a b)
  one : ∀ k, (val k).oneCell' = true
instance (κ : Type) [Ky κ] : DecidableEq κ := Ky.dec
instance (κ : Type) [Ky κ] : DecidableRel (Ky.lt (κ := κ)) := Ky.dlt
section
variable {κ α : Type} [Ky κ]
abbrev KM (κ α : Type) := List (κ × α)
abbrev KL (α : Type) := KM (List UInt8) α
def lookK (k : κ) : KM κ α → Option α
  | [] => none
  | (a, v) :: r => if k = a then some v else lookK k r
def insK (k : κ) (v : α) : KM κ α → KM κ α
  | [] => [(k, v)]
  | (a, w) :: r => if k = a then (k, v) :: r else if Ky.lt k a then (k, v) :: (a, w) :: r else (a, w) :: insK k v r
def delK (k : κ) (l : KM κ α) : KM κ α := l.filter fun x => decide (x.1 ≠ k)
def SoK (l : KM κ α) : Prop := l.Pairwise fun a b => Ky.lt a.1 b.1
theorem lt_ne {a b : κ} (h : Ky.lt a b) : a ≠ b := fun e => by subst e; exact Ky.irr _ h
theorem lt_tri {a b : κ} (h1 : ¬ Ky.lt a b) (h2 : a ≠ b) : Ky.lt b a := Ky.tri h1 h2
theorem SoK.nd {l : KM κ α} (s : SoK l) : (l.map (·.1)).Nodup := by
  rw [List.nodup_iff_pairwise_ne, List.pairwise_map]
  exact s.imp fun h => lt_ne h
theorem insK_mem {k : κ} {v : α} : ∀ {l : KM κ α}, SoK l → ∀ x, x ∈ insK k v l ↔ x = (k, v) ∨ (x ∈ l ∧ x.1 ≠ k)
  | [], _, x => by simp [insK]
  | (a, w) :: r, s, x => by
    obtain ⟨s1, s2⟩ := List.pairwise_cons.1 s
    unfold insK
    by_cases h : k = a
    · subst h
      rw [if_pos rfl]
      simp only [List.mem_cons]
      constructor
      · rintro (h | h)
        · exact .inl h
        · exact .inr ⟨.inr h, fun e => lt_ne (s1 x h) e.symm⟩
      · rintro (h | ⟨h | h, h2⟩)
        · exact .inl h
        · subst h; exact (h2 rfl).elim
        · exact .inr h
    · rw [if_neg h]
      split
      · rename_i h1
        simp only [List.mem_cons]
        constructor
        · rintro (h2 | h2 | h2)
          · exact .inl h2
          · exact .inr ⟨.inl h2, by subst h2; exact Ne.symm h⟩
          · exact .inr ⟨.inr h2, fun e => lt_ne (Ky.trans h1 (s1 x h2)) e.symm⟩
        · rintro (h2 | ⟨h2, _⟩)
          · exact .inl h2
          · exact .inr h2
      · simp only [List.mem_cons, insK_mem s2 x]
        constructor
        · rintro (h2 | h2 | ⟨h2, h3⟩)
          · exact .inr ⟨.inl h2, by subst h2; exact Ne.symm h⟩
          · exact .inl h2
          · exact .inr ⟨.inr h2, h3⟩
        · rintro (h2 | ⟨h2 | h2, h3⟩)
          · exact .inr (.inl h2)
          · exact .inl h2
          · exact .inr (.inr ⟨h2, h3⟩)
theorem insK_so {k : κ} {v : α} : ∀ {l : KM κ α}, SoK l → SoK (insK k v l)
  | [], _ => by simp [insK, SoK]
  | (a, w) :: r, s => by
    obtain ⟨s1, s2⟩ := List.pairwise_cons.1 s
    unfold insK
    by_cases h : k = a
    · subst h
      rw [if_pos rfl]
      exact List.pairwise_cons.2 ⟨s1, s2⟩
    · rw [if_neg h]
      split
      · rename_i h1
        refine List.pairwise_cons.2 ⟨fun x hx => ?_, s⟩
        rcases List.mem_cons.1 hx with rfl | hx
        · exact h1
        · exact Ky.trans h1 (s1 x hx)
      · rename_i h1
        refine List.pairwise_cons.2 ⟨fun x hx => ?_, insK_so s2⟩
        rcases (insK_mem s2 x).1 hx with rfl | ⟨h2, _⟩
        · exact lt_tri h1 h
        · exact s1 x h2
theorem delK_mem {k : κ} {l : KM κ α} (x : κ × α) : x ∈ delK k l ↔ x ∈ l ∧ x.1 ≠ k := by simp [delK]
theorem delK_so {k : κ} {l : KM κ α} (s : SoK l) : SoK (delK k l) := s.filter _
theorem lookK_none {k : κ} : ∀ {l : KM κ α}, lookK k l = none ↔ ∀ x ∈ l, x.1 ≠ k
  | [] => by simp [lookK]
  | (a, w) :: r => by
    unfold lookK
    split
    · rename_i h; subst h; simp
    · rename_i h
      rw [lookK_none (l := r)]
      simp only [List.mem_cons, forall_eq_or_imp]
      exact ⟨fun hh => ⟨Ne.symm h, hh⟩, fun hh => hh.2⟩
theorem lookK_mem {k : κ} {v : α} : ∀ {l : KM κ α}, (l.map (·.1)).Nodup → (lookK k l = some v ↔ (k, v) ∈ l)
  | [], _ => by simp [lookK]
  | (a, w) :: r, nd => by
    simp only [List.map_cons, List.nodup_cons] at nd
    unfold lookK
    by_cases h : k = a
    · subst h
      rw [if_pos rfl]
      simp only [Option.some.injEq, List.mem_cons, Prod.mk.injEq, true_and]
      constructor
      · intro h; exact .inl h.symm
      · rintro (h | h)
        · exact h.symm
        · exact (nd.1 (List.mem_map.2 ⟨_, h, rfl⟩)).elim
    · rw [if_neg h, lookK_mem (l := r) nd.2]; simp [h]
theorem perm_of_mem {a b : KM κ α} (na : (a.map (·.1)).Nodup) (nb : (b.map (·.1)).Nodup) (e : ∀ x, x ∈ a ↔ x ∈ b) : a.Perm b :=
  (List.perm_ext_iff_of_nodup (List.Pairwise.of_map _ (fun _ _ h e => h (by rw [e])) na) (List.Pairwise.of_map _ (fun _ _ h e => h (by rw [e])) nb)).2 e
end
instance kyS : Ky (List UInt8) where
  dec := inferInstance
  lt := (· < ·)
  dlt := inferInstance
  irr _ := List.lt_irrefl _
  trans := List.lt_trans
  tri h1 h2 := Std.lt_of_le_of_ne (List.not_lt.1 h1) (Ne.symm h2)
  val k := .string ⟨⟨k⟩⟩
  kd := .string
  kok _ := rfl
  keq x y := by
    show ((⟨x⟩ : Array UInt8) == ⟨y⟩) = decide (x = y)
    rw [Bool.eq_iff_iff, decide_eq_true_eq]; simp
  one _ := rfl
instance kyI : Ky Int where
  dec := inferInstance
  lt := (· < ·)
  dlt := inferInstance
  irr _ := Int.lt_irrefl _
  trans := Int.lt_trans
  tri h1 h2 := by omega
  val k := .int .i64 k
  kd := .int .i64
  kok _ := rfl
  keq x y := by
    show (x == y) = decide (x = y)
    rw [Bool.eq_iff_iff, decide_eq_true_eq]; simp
  one _ := rfl
def mE {κ α : Type} [Ky κ] (enc : α → AV) (es : List (κ × Nat × α)) : MEnts := es.map fun e => (Ky.val e.1, e.2.1, enc e.2.2)
structure MapR {κ α : Type} [Ky κ] (enc : α → AV) (es : List (κ × Nat × α)) (n : Nat) (l : KM κ α) : Prop where
  up : (es.map (·.2.1)).Pairwise (· < ·)
  lt : ∀ e ∈ es, e.2.1 < n
  nd : (es.map (·.1)).Nodup
  eq : ∀ x, x ∈ es.map (fun e => (e.1, e.2.2)) ↔ x ∈ l
  so : SoK l
def MapS {κ α : Type} [Ky κ] (enc : α → AV) (l : KM κ α) (o : AObj) : Prop := ∃ (es : List (κ × Nat × α)) (n : Nat), o = .amap (mE enc es) n ∧ MapR enc es n l
theorem MapS.nil {κ α : Type} [Ky κ] (enc : α → AV) : MapS enc ([] : KM κ α) (.amap [] 0) := ⟨[], 0, rfl, by simp, by simp, by simp, by simp, by simp [SoK]⟩
section
variable {κ α : Type} [Ky κ] {enc : α → AV} {es : List (κ × Nat × α)} {n : Nat} {l : KM κ α}
theorem MapR.kv (m : MapR enc es n l) : ((es.map (fun e => (e.1, e.2.2))).map (·.1)).Nodup := by rw [List.map_map]; exact m.nd
theorem MapR.perm (m : MapR enc es n l) : (es.map (fun e => (e.1, e.2.2))).Perm l := perm_of_mem m.kv m.so.nd m.eq
theorem MapR.len (m : MapR enc es n l) : es.length = l.length := by have := m.perm.length_eq; simpa using this
theorem mE_kOk (es : List (κ × Nat × α)) : (mE enc es).all (fun e => kOk (Ky.kd κ) e.1) = true := by simp [mE, Ky.kok]
variable [Tabs]
theorem mfind_mE (k : κ) : ∀ (i : Nat) (es : List (κ × Nat × α)), (mfind (Ky.val k) (mE enc es) i = none ∧ ∀ e ∈ es, e.1 ≠ k) ∨ ∃ j, ∃ hj : j < es.length, mfind (Ky.val k) (mE enc es) i = some (i + j, es[j].2.1, enc es[j].2.2) ∧ es[j].1 = k
  | i, [] => .inl ⟨rfl, by simp⟩
  | i, (a, b, v) :: r => by
    unfold mE
    rw [List.map_cons, mfind, Ky.keq]
    by_cases h : k = a
    · subst h
      exact .inr ⟨0, by simp, by simp, rfl⟩
    · rw [if_neg (by simpa using h)]
      rcases mfind_mE k (i + 1) r with ⟨h1, h2⟩ | ⟨j, hj, h1, h2⟩
      · exact .inl ⟨h1, by simpa using ⟨Ne.symm h, fun x y z => h2 (x, y, z)⟩⟩
      · exact .inr ⟨j + 1, by simpa using hj, by unfold mE at h1; rw [h1]; simp; omega, by simpa using h2⟩
theorem MapR.find (m : MapR enc es n l) (k : κ) : (mfind (Ky.val k) (mE enc es) 0 = none ∧ lookK k l = none ∧ ∀ e ∈ es, e.1 ≠ k) ∨ ∃ j, ∃ hj : j < es.length, mfind (Ky.val k) (mE enc es) 0 = some (j, es[j].2.1, enc es[j].2.2) ∧ es[j].1 = k ∧ lookK k l = some es[j].2.2 := by
  rcases mfind_mE (enc := enc) k 0 es with ⟨h1, h2⟩ | ⟨j, hj, h1, h2⟩
  · refine .inl ⟨h1, lookK_none.2 fun x hx => ?_, h2⟩
    obtain ⟨e, he, rfl⟩ := List.mem_map.1 ((m.eq x).2 hx)
    exact h2 e he
  · refine .inr ⟨j, hj, by simpa using h1, h2, ?_⟩
    rw [lookK_mem m.so.nd, ← m.eq]
    exact List.mem_map.2 ⟨es[j], List.getElem_mem _, by rw [h2]⟩
theorem MapR.app (m : MapR enc es n l) {k : κ} {v : α} (hn : ∀ e ∈ es, e.1 ≠ k) : MapR enc (es ++ [(k, n, v)]) (n + 1) (insK k v l) where
  up := by
    rw [List.map_append, List.pairwise_append]
    refine ⟨m.up, by simp, fun a ha b hb => ?_⟩
    obtain ⟨e, he, rfl⟩ := List.mem_map.1 ha
    simp at hb; subst hb; exact m.lt e he
  lt e he := by
    rcases List.mem_append.1 he with h | h
    · have := m.lt e h; omega
    · simp at h; subst h; simp
  nd := by
    rw [List.map_append, List.nodup_append]
    refine ⟨m.nd, by simp, fun a ha b hb e => ?_⟩
    obtain ⟨x, hx, rfl⟩ := List.mem_map.1 ha
    simp at hb; subst hb; exact hn x hx e
  eq x := by
    rw [List.map_append, List.mem_append, m.eq, insK_mem m.so]
    simp only [List.map_cons, List.map_nil, List.mem_singleton]
    constructor
    · rintro (h | h)
      · obtain ⟨e, he, rfl⟩ := List.mem_map.1 ((m.eq x).2 h)
        exact .inr ⟨h, hn e he⟩
      · exact .inl h
    · rintro (h | ⟨h, _⟩)
      · exact .inr h
      · exact .inl h
  so := insK_so m.so
theorem nd_inj {β : Type} {l : List β} (nd : l.Nodup) {i j : Nat} (hi : i < l.length) (hj : j < l.length) (e : l[i] = l[j]) : i = j := by
  rw [List.nodup_iff_pairwise_ne, List.pairwise_iff_getElem] at nd
  rcases Nat.lt_trichotomy i j with h | h | h
  · exact (nd i j hi hj h e).elim
  · exact h
  · exact (nd j i hj hi h e.symm).elim
theorem eraseIdx_mapL {β γ : Type} (f : β → γ) : ∀ (l : List β) (j : Nat), (l.map f).eraseIdx j = (l.eraseIdx j).map f
  | [], j => rfl
  | a :: l, 0 => rfl
  | a :: l, j + 1 => by simp [eraseIdx_mapL f l j]
theorem mem_setIx {β : Type} {l : List β} {i : Nat} (hi : i < l.length) (nd : l.Nodup) (b x : β) : x ∈ l.set i b ↔ x = b ∨ (x ∈ l ∧ x ≠ l[i]) := by
  constructor
  · intro h
    obtain ⟨j, hj, rfl⟩ := List.getElem_of_mem h
    rw [List.getElem_set]
    split
    · exact .inl rfl
    · rename_i hne
      rw [List.length_set] at hj
      exact .inr ⟨List.getElem_mem _, fun e => hne (nd_inj nd hj hi e).symm⟩
  · rintro (rfl | ⟨h, hne⟩)
    · exact List.mem_iff_getElem.2 ⟨i, by simpa using hi, by simp⟩
    · obtain ⟨j, hj, rfl⟩ := List.getElem_of_mem h
      refine List.mem_iff_getElem.2 ⟨j, by simpa using hj, ?_⟩
      rw [List.getElem_set, if_neg]
      intro e; subst e; exact hne rfl
theorem MapR.set (m : MapR enc es n l) {k : κ} {v : α} {j : Nat} (hj : j < es.length) (hk : es[j].1 = k) : MapR enc (es.set j (k, es[j].2.1, v)) n (insK k v l) := by
  have e1 : (es.set j (k, es[j].2.1, v)).map (·.2.1) = es.map (·.2.1) := by rw [List.map_set]; refine List.ext_getElem (by simp) fun i h1 h2 => ?_; rw [List.getElem_set]; split <;> simp_all
  have e2 : (es.set j (k, es[j].2.1, v)).map (·.1) = es.map (·.1) := by rw [List.map_set]; refine List.ext_getElem (by simp) fun i h1 h2 => ?_; rw [List.getElem_set]; split <;> simp_all
  refine ⟨by rw [e1]; exact m.up, fun e he => ?_, by rw [e2]; exact m.nd, fun x => ?_, insK_so m.so⟩
  · have : e.2.1 ∈ (es.set j (k, es[j].2.1, v)).map (·.2.1) := List.mem_map_of_mem he
    rw [e1] at this
    obtain ⟨x, hx, he⟩ := List.mem_map.1 this
    rw [← he]; exact m.lt x hx
  · rw [List.map_set, insK_mem m.so, ← m.eq]
    have nd : (es.map (fun e => (e.1, e.2.2))).Nodup := List.Pairwise.of_map _ (fun _ _ h e => h (by rw [e])) m.kv
    rw [mem_setIx (by simpa using hj) nd]
    refine or_congr Iff.rfl (and_congr_right fun hx => not_congr ?_)
    rw [List.getElem_map]
    constructor
    · intro h; rw [h]; exact hk
    · intro h
      obtain ⟨q, hq, rfl⟩ := List.getElem_of_mem hx
      rw [List.length_map] at hq
      simp only [List.getElem_map] at h ⊢
      have := nd_inj m.nd (i := q) (j := j) (by simpa using hq) (by simpa using hj) (by simp [h, hk])
      subst this; rfl
theorem MapR.del (m : MapR enc es n l) {k : κ} {j : Nat} (hj : j < es.length) (hk : es[j].1 = k) : MapR enc (es.eraseIdx j) n (delK k l) := by
  have sub := List.eraseIdx_sublist es j
  refine ⟨m.up.sublist (sub.map _), fun e he => m.lt e (sub.mem he), m.nd.sublist (sub.map _), fun x => ?_, delK_so m.so⟩
  rw [delK_mem, ← m.eq]
  constructor
  · intro h
    obtain ⟨e, he, rfl⟩ := List.mem_map.1 h
    refine ⟨List.mem_map.2 ⟨e, sub.mem he, rfl⟩, fun hx => ?_⟩
    obtain ⟨q, hq, hne, rfl⟩ := List.mem_eraseIdx_iff_getElem.1 he
    exact hne (nd_inj m.nd (i := q) (j := j) (by simpa using hq) (by simpa using hj) (by simp [hk]; exact hx))
  · rintro ⟨h, hne⟩
    obtain ⟨e, he, rfl⟩ := List.mem_map.1 h
    refine List.mem_map.2 ⟨e, ?_, rfl⟩
    obtain ⟨q, hq, rfl⟩ := List.getElem_of_mem he
    refine List.mem_eraseIdx_iff_getElem.2 ⟨q, hq, fun e => hne (by subst e; exact hk), rfl⟩
theorem MapR.delNone (m : MapR enc es n l) {k : κ} (hn : lookK k l = none) : delK k l = l := by
  rw [lookK_none] at hn
  exact List.filter_eq_self.2 fun x hx => by simpa using hn x hx
variable {h0 h : AHeap} {M : List Nat} {L L' : Own} {K : AV → Prop} {KH : QT} {KL' : AHeap → Prop}
theorem st_lookSG {o : AObj} {j : Nat} {k : κ} {z : AV} (e : h[j]? = some o) (m : MapS enc l o) (q : K (.tup [((lookK k l).map enc).getD z, B (lookK k l).isSome])) : qLookup (Ky.kd κ) true z (.map j) (.lit (Ky.val k)) h K := ⟨by
  obtain ⟨es, n, rfl, r⟩ := m
  simp only [pLookup, e]
  rw [if_pos (by rw [mE_kOk, Ky.kok]; rfl)]
  rcases r.find k with ⟨h1, h2, _⟩ | ⟨j, hj, h1, h2, h3⟩
  · rw [h1]; rw [h2] at q; exact q
  · rw [h1]; rw [h3] at q; exact q⟩
theorem st_lookS0G {o : AObj} {j : Nat} {k : κ} {z : AV} (e : h[j]? = some o) (m : MapS enc l o) (q : K (((lookK k l).map enc).getD z)) : qLookup (Ky.kd κ) false z (.map j) (.lit (Ky.val k)) h K := ⟨by
  obtain ⟨es, n, rfl, r⟩ := m
  simp only [pLookup, e]
  rw [if_pos (by rw [mE_kOk, Ky.kok]; rfl)]
  rcases r.find k with ⟨h1, h2, _⟩ | ⟨j, hj, h1, h2, h3⟩
  · rw [h1]; rw [h2] at q; exact q
  · rw [h1]; rw [h3] at q; exact q⟩
theorem st_lenMS {o : AObj} {j : Nat} (e : h[j]? = some o) (m : MapS enc l o) (q : K (I (l.length : Nat))) : qLenM (.map j) h K := ⟨by
  obtain ⟨es, n, rfl, r⟩ := m
  simp only [pLenM, e]
  rw [← r.len] at q
  simpa [mE] using q⟩
theorem MapS.put {o : AObj} (m : MapS enc l o) (k : κ) (v : α) : ∃ (es : List (κ × Nat × α)) (n : Nat), o = .amap (mE enc es) n ∧ MapS enc (insK k v l) (mput (Ky.val k) (enc v) n (mE enc es)) := by
  obtain ⟨es, n, rfl, r⟩ := m
  refine ⟨es, n, rfl, ?_⟩
  unfold mput
  rcases r.find k with ⟨h1, h2, h3⟩ | ⟨j, hj, h1, h2, h3⟩
  · rw [h1]; exact ⟨_, _, by simp [mE], r.app h3⟩
  · rw [h1]; exact ⟨_, _, by simp [mE, List.map_set], r.set hj h2⟩
theorem st_putSG {o : AObj} {j : Nat} {k : κ} {v : α} (s : St h0 M h L) (e : (j, true, o) ∈ L) (m : MapS enc l o) (q : ∀ o', MapS enc (insK k v l) o' → (∀ {L'}, Sub L (j, true, o) L' (j, true, o') → St h0 M (h.set j o') L') → KL' (h.set j o')) : qMapUpdate (Ky.kd κ) (.map j) (.lit (Ky.val k)) (enc v) h KL' := ⟨by
  obtain ⟨es, n, rfl, m'⟩ := m.put k v
  simp only [eMapUpdate, s.get e]
  rw [if_pos (by rw [mE_kOk, Ky.kok]; rfl)]
  exact q _ m' fun u => s.turn u⟩
theorem st_delSG {o : AObj} {j : Nat} {k : κ} (s : St h0 M h L) (e : (j, true, o) ∈ L) (m : MapS enc l o) (q : ∀ o' h', MapS enc (delK k l) o' → (∀ {L'}, Sub L (j, true, o) L' (j, true, o') → St h0 M h' L') → KL' h') : qDelete (Ky.kd κ) (.map j) (.lit (Ky.val k)) h KL' := ⟨by
  obtain ⟨es, n, rfl, r⟩ := m
  simp only [eDelete, s.get e]
  rw [if_pos (by rw [mE_kOk, Ky.kok]; rfl)]
  rcases r.find k with ⟨h1, h2, h3⟩ | ⟨j, hj, h1, h2, h3⟩
  · rw [h1]
    refine q _ _ ⟨es, n, rfl, by rw [r.delNone h2]; exact r⟩ fun u => ?_
    have := s.turn u
    rwa [list_set_self (s.get e)] at this
  · rw [h1]
    exact q _ _ ⟨es.eraseIdx j, n, by simp [mE, eraseIdx_mapL], r.del hj h2⟩ fun u => s.turn u⟩
end
section
variable [Tabs]
variable {α : Type} {enc : α → AV} {h0 h : AHeap} {M : List Nat} {L L' : Own} {K : AV → Prop} {KS' : AHeap → Prop}
theorem st_lookS {l : KL α} {o : AObj} {j : Nat} {k : Str} {z : AV} (e : h[j]? = some o) (m : MapS enc l o) (q : K (.tup [((lookK k l).map enc).getD z, B (lookK k l).isSome])) : qLookup .string true z (.map j) (T k) h K := st_lookSG (κ := List UInt8) e m q
theorem st_lookS0 {l : KL α} {o : AObj} {j : Nat} {k : Str} {z : AV} (e : h[j]? = some o) (m : MapS enc l o) (q : K (((lookK k l).map enc).getD z)) : qLookup .string false z (.map j) (T k) h K := st_lookS0G (κ := List UInt8) e m q
theorem st_putS {l : KL α} {o : AObj} {j : Nat} {k : Str} {v : α} (s : St h0 M h L) (e : (j, true, o) ∈ L) (m : MapS enc l o) (q : ∀ o', MapS enc (insK k v l) o' → (∀ {L'}, Sub L (j, true, o) L' (j, true, o') → St h0 M (h.set j o') L') → KS' (h.set j o')) : qMapUpdate .string (.map j) (T k) (enc v) h KS' := st_putSG (κ := List UInt8) s e m q
theorem st_delS {l : KL α} {o : AObj} {j : Nat} {k : Str} (s : St h0 M h L) (e : (j, true, o) ∈ L) (m : MapS enc l o) (q : ∀ o' h', MapS enc (delK k l) o' → (∀ {L'}, Sub L (j, true, o) L' (j, true, o') → St h0 M h' L') → KS' h') : qDelete .string (.map j) (T k) h KS' := st_delSG (κ := List UInt8) s e m q
end
end
end Go.Proofs.YtlikeadfohahdaaGreatDoor.AL
namespace Go.Proofs.YtlikeadfohahdaaGreatDoor.AL
noncomputable section
open Go.RowKit Go.Maps Go.Sort Go.Shelf Go.WideElems Go.WideShapes
open Go.Proofs (encStr)
variable [Tabs]
section
variable {P : Program}
theorem keys_sp {f g : FuncId} {tm : TypeId} (hK : KeysIs P f g tm) {j : Nat} {h : AHeap} {o : AObj} (e : h[j]? = some o) {Q : QT} (k : Q (.fn (.func g) [] [.ptr h.length 0]) (h ++ [.keys j])) : ACall P f [.map j] h Q := by
  refine ⟨hK.1, fun G w vs s r => ?_⟩
  obtain ⟨x, rfl, hx⟩ := r.single
  simp only [Rep] at hx
  obtain ⟨b, hb, rfl⟩ := hx
  refine (hK.2 b w).mono fun e w' ⟨he, hw⟩ => ?_
  subst hw
  have x : ObjAt (G.add h.length (w.heap.size, 0) 0) (w.alloc (.cells #[.map (some b)] tm)) h.length (.keys j) := by
    have hj : j ≠ h.length := fun e => by have := s.fresh; rw [← e, hb] at this; cases this
    refine ⟨w.heap.size, tm, b, by simp [Gh.add], ?_, by simp only [Gh.add]; rw [if_neg hj]; exact hb⟩
    show (w.heap.push _)[w.heap.size]? = _
    simp
  obtain ⟨s', ev⟩ := sim_push s _ _ 0 x
  refine ⟨.fn (.func g) [] [.ptr h.length 0], _, _, _, he, ?_, k, s', ev⟩
  simp only [Rep, RepL]
  refine ⟨[], [.pointer (some ⟨w.heap.size, 0, none⟩)], rfl, rfl, _, _, rfl, ⟨w.heap.size, 0, ?_, rfl⟩, rfl⟩
  simp [Gh.add]
theorem sorted_sp {α : Type} {enc : α → AV} {l : KL α} {f g : FuncId} {ks : TypeId} (hS : SortedIs P f g ks) {i j : Nat} {h : AHeap} {o : AObj} (hi : h[i]? = some (.keys j)) (hj : h[j]? = some o) (m : MapS enc l o) (hlen : l.length ≤ 1000000) (hsz : ∀ x ∈ l, x.1.length ≤ 1000000)
    {Q : QT} (k0 : l = [] → Q (.full 0 []) h) (k1 : l ≠ [] → Q (.sl h.length 0 l.length 1) (h ++ [.cells (l.map fun x => strAV x.1)])) : ACall P f [.fn (.func g) [] [.ptr i 0]] h Q := by
  obtain ⟨es, clock, rfl, mr⟩ := m
  have hel := mr.len
  have hkp : (es.map (·.1)).Perm (l.map (·.1)) := by have := mr.perm.map (·.1); rwa [List.map_map] at this
  refine ⟨hS.1, fun G w vs s r => ?_⟩
  obtain ⟨x, rfl, hx⟩ := r.single
  simp only [Rep, RepL] at hx
  obtain ⟨_, _, rfl, rfl, y, _, rfl, ⟨b0, o0, hb0, rfl⟩, rfl⟩ := hx
  obtain ⟨b1, el, q, e1, e2, e3⟩ := s.obj i _ hi
  rw [hb0] at e1; cases e1
  obtain ⟨b2, arr, e4, e5, e6⟩ := s.obj j _ hj
  rw [e3] at e4; cases e4
  obtain ⟨m1, m2⟩ := repE_maps e6
  have m1 : arr.toList.map (·.key) = (es.map (·.1)).map fun a => Value.string ⟨⟨a⟩⟩ := by rw [m1]; simp only [mE, List.map_map]; rfl
  have m2 : arr.toList.map (·.born) = es.map (·.2.1) := by rw [m2]; simp [mE]
  have harr : arr.toList.length = es.length := by have := e6.length; simpa [mE] using this
  have hsz' : ∀ a ∈ es.map (·.1), a.length ≤ 1000000 := fun a ha => by
    obtain ⟨x, hx, rfl⟩ := List.mem_map.1 (hkp.mem_iff.1 ha)
    exact hsz x hx
  let R : Value → Option (DataW Unit × List MemPlace) := fun _ => some (.nil, [])
  have hkey : ∀ x ∈ arr.toList, ∃ a ∈ es.map (·.1), x.key = .string ⟨⟨a⟩⟩ := fun x hx => by
    have : x.key ∈ arr.toList.map (·.key) := List.mem_map_of_mem hx
    rw [m1] at this
    obtain ⟨a, ha, e⟩ := List.mem_map.1 this
    exact ⟨a, ha, e.symm⟩
  have hrd : ∀ x ∈ arr.toList, ∀ a, x.key = .string ⟨⟨a⟩⟩ → a.length ≤ 1000000 → Go.WideElems.rd P ks R x = some (.string a, .nil) := fun x hx a e ha => by
    have : (⟨⟨a⟩⟩ : ByteArray).size ≤ maxLen := by show a.length ≤ maxLen; unfold maxLen; omega
    simp [Go.WideElems.rd, keyOf, mapKey, hS.2.1, e, this, R]
  have hfit : Fit P ks R arr clock := by
    refine ⟨?_, ⟨fun x hx => ?_, ?_, ?_⟩, fun x hx => ?_⟩
    · have : arr.size = es.length := by simpa using harr
      unfold maxLen; omega
    · have : x.born ∈ arr.toList.map (·.born) := List.mem_map_of_mem hx
      rw [m2] at this
      obtain ⟨e, he, hb⟩ := List.mem_map.1 this
      rw [← hb]; exact mr.lt e he
    · rw [m2]; exact mr.up.imp fun h => Nat.ne_of_lt h
    · rw [m1]
      refine List.pairwise_map.2 (mr.nd.imp fun h e => h ?_)
      simpa using e
    · obtain ⟨a, ha, e⟩ := hkey x hx
      exact ⟨_, hrd x hx a e (hsz' a ha)⟩
  have hsk : (strKeys (.map ((arr.toList.map (rg P ks R)).foldr DataW.insert []) : DataW Unit)).Perm (es.map (·.1)) := by
    show ((arr.toList.map (rg P ks R)).foldr DataW.insert []).map (fun p => strOf p.1) |>.Perm _
    refine ((sorted_perm _).map _).trans ?_
    rw [List.map_map]
    have : arr.toList.map ((fun p : Lit × DataW Unit => strOf p.1) ∘ rg P ks R) = es.map (·.1) := by
      have e1 : arr.toList.map ((fun p : Lit × DataW Unit => strOf p.1) ∘ rg P ks R) = arr.toList.map fun x => (match x.key with | .string s => s.data.toList | _ => []) := by
        refine List.map_congr_left fun x hx => ?_
        obtain ⟨a, ha, e⟩ := hkey x hx
        simp only [Function.comp, rg, hrd x hx a e (hsz' a ha), Option.getD_some, strOf, e]
      rw [e1]
      have e2 : arr.toList.map (fun x => (match x.key with | .string s => s.data.toList | _ => [])) = (arr.toList.map (·.key)).map fun v => (match v with | .string s => s.data.toList | _ => []) := by rw [List.map_map]; rfl
      rw [e2, m1, List.map_map]
      exact List.map_id'' (fun a => rfl) _
    rw [this]
  have hsize : Maps.size (.map ((arr.toList.map (rg P ks R)).foldr DataW.insert []) : DataW Unit) ≤ 1000000 := by
    show ((arr.toList.map (rg P ks R)).foldr DataW.insert []).length ≤ _
    rw [length_sorted, List.length_map, harr, hel]; exact hlen
  have hcell : w.cell? ⟨b0, 0, none⟩ = some (.map (some q)) := by simp [World.cell?, e2]
  have hlt : b0 < w.heap.size := (Array.getElem?_eq_some_iff.1 e2).1
  refine (hS.2.2 b0 q arr.size _ R w hlt hcell ⟨arr, clock, e5, hfit, Nat.le_refl _, rfl⟩ hsize).mono fun e w' ⟨v, ss, he, hp, hrow, hnil, hb⟩ => ?_
  have hms : ss.mergeSort (fun x y => decide (x ≤ y)) = l.map (·.1) := by
    have h1 : ss.mergeSort (fun x y => decide (x ≤ y)) = sortL (es.map (·.1)) := mergeSort_sortL (hp.trans hsk)
    rw [h1]
    refine List.Perm.eq_of_pairwise (le := fun a b : List UInt8 => a ≤ b) (fun a b _ _ h1 h2 => List.le_antisymm h1 h2) (sortL_sorted _) ?_ ((sortL_perm _).trans hkp)
    rw [List.pairwise_map]
    exact mr.so.imp fun h => List.le_of_lt h
  rw [hms] at hrow
  have hslen : ss.length = l.length := by have := congrArg List.length hms; rw [List.length_mergeSort, List.length_map] at this; exact this
  rw [hslen] at hrow
  by_cases hl : l = []
  · have hss : ss = [] := List.length_eq_zero_iff.1 (by rw [hslen, hl]; rfl)
    obtain ⟨s', ev⟩ := sim_below s hb
    exact ⟨.full 0 [], v, h, G, he, by rw [hnil.2 hss]; simp [Rep], k0 hl, s', ev⟩
  · rcases hrow.2 with ⟨hv, hz⟩ | ⟨gb, cap, cur, hv, hbase, hgb, c1, c2, c3, c4⟩
    · simp at hz; exact (hl hz).elim
    · have x : ObjAt (G.add h.length (gb, 0) cap) w' h.length (.cells (l.map fun x => strAV x.1)) := by
        refine ⟨gb, 0, cur, ks, 0, 0, by simp [Gh.add], hgb, fun k _ hk => by omega, ?_, by simp [Gh.add, c3], fun j' a' ha' => ?_⟩
        · simp [Gh.add]; simpa using c1
        · have hjl : j' < (l.map fun x => strAV x.1).length := (List.getElem?_eq_some_iff.1 ha').1
          rw [List.getElem?_map] at ha'
          cases hjj : l[j']? with
          | none => rw [hjj] at ha'; cases ha'
          | some z =>
            rw [hjj] at ha'
            cases ha'
            refine ⟨encStr z.1, ?_, by simp [Rep, strAV, encStr, Value.oneCell']⟩
            have hj3 : (cur.toList.take (l.length * 1))[j']? = some (encStr z.1) := by rw [c4, List.getElem?_map, List.getElem?_map, hjj]; rfl
            rw [List.getElem?_take] at hj3
            split at hj3
            · simpa using hj3
            · cases hj3
      obtain ⟨s', ev⟩ := sim_adopt s hb gb hbase _ cap x
      refine ⟨.sl h.length 0 l.length 1, v, _, _, he, ?_, k1 hl, s', ev⟩
      rw [hv]
      simp only [Rep]
      exact ⟨gb, 0, cap, 0, by simp [Gh.add], by simp [Gh.add], by simpa using c1, fun _ => rfl, rfl⟩
end
end
end Go.Proofs.YtlikeadfohahdaaGreatDoor.AL
namespace Go.Proofs.YtlikeadfohahdaaGreatDoor.AL
noncomputable section
variable [Tabs]
def dropB (c : UInt8) : Str → Str
  | [] => []
  | x :: l => if x = c then dropB c l else x :: l
end
end Go.Proofs.YtlikeadfohahdaaGreatDoor.AL
namespace Go.Proofs.YtlikeadfohahdaaGreatDoor.AL
noncomputable section
variable [Tabs]
end
end Go.Proofs.YtlikeadfohahdaaGreatDoor.AL
namespace Go.Proofs.YtlikeadfohahdaaGreatDoor.AL
noncomputable section
variable [Tabs]
theorem clone_api_Sym_sp {n : Nat} {cs : List AV} (hb : n * 24 ≤ 1099511627776) {v : AV} {h : AHeap} (r : Rd h 2 v n cs) {Q : QT} (k : ∀ h', Fr [] h h' → Q (.snap n cs) h') : C fn_slices_Clone__api_Sym_api_Sym [v] h Q := by
  refine ACall.conv ?_
  refine slices_Clone__api_Sym_api_Sym_ok _ _ _ ?_
  unfold slices_Clone__api_Sym_api_Sym
  have hl := r.len
  refine st_isNilS r (fun h0 => ?_) ?_
  · refine st_if (fun _ => ?_) (fun hb => by cases hb)
    subst h0
    have : cs = [] := by simpa using hl
    subst this
    exact conv_full (k _ (Fr.refl _ _))
  · refine st_if (fun hb => by cases hb) (fun _ => ?_)
    refine st_buildS rfl rfl ?_
    refine st_app0 (St.start h) r hb (fun h0 => ?_) fun i h1 hn s => ?_
    · subst h0
      have : cs = [] := by simpa using hl
      subst this
      exact conv_full (k _ (Fr.refl _ _))
    · exact conv_sl (s.get (.head _)) hl (k _ (s.kill .head).fr)
theorem clone_byte_sp {n : Nat} {cs : List AV} (hb : n * 1 ≤ 1099511627776) {v : AV} {h : AHeap} (r : Rd h 1 v n cs) {Q : QT} (k : ∀ h', Fr [] h h' → Q (.snap n cs) h') : C fn_slices_Clone__byte_byte [v] h Q := by
  refine ACall.conv ?_
  refine slices_Clone__byte_byte_ok _ _ _ ?_
  unfold slices_Clone__byte_byte
  have hl := r.len
  refine st_isNilS r (fun h0 => ?_) ?_
  · refine st_if (fun _ => ?_) (fun hb => by cases hb)
    subst h0
    have : cs = [] := by simpa using hl
    subst this
    exact conv_full (k _ (Fr.refl _ _))
  · refine st_if (fun hb => by cases hb) (fun _ => ?_)
    refine st_buildS rfl rfl ?_
    refine st_app0 (St.start h) r hb (fun h0 => ?_) fun i h1 hn s => ?_
    · subst h0
      have : cs = [] := by simpa using hl
      subst this
      exact conv_full (k _ (Fr.refl _ _))
    · exact conv_sl (s.get (.head _)) hl (k _ (s.kill .head).fr)
end
end Go.Proofs.YtlikeadfohahdaaGreatDoor.AL
namespace Go.Proofs.YtlikeadfohahdaaGreatDoor.AL
noncomputable section
variable [Tabs]
end
end Go.Proofs.YtlikeadfohahdaaGreatDoor.AL
namespace Go.Proofs.YtlikeadfohahdaaGreatDoor.AL
noncomputable section
structure Rw where
  name : List UInt8
  bits : Nat
  kinds : List UInt8
def tbl : List Rw := [
  ⟨[115, 101, 95, 105, 108, 108, 101, 103, 97, 108], 0, []⟩,
  ⟨[115, 101, 95, 105, 115, 121, 110, 99], 1, []⟩,
  ⟨[115, 101, 95, 115, 99], 2, []⟩,
  ⟨[115, 101, 95, 98, 108, 114], 4, []⟩,
  ⟨[115, 101, 95, 98, 99, 116, 114], 6, []⟩,
  ⟨[115, 101, 95, 110, 111, 116], 32, [88]⟩,
  ⟨[115, 101, 95, 110, 101, 103], 48, [88]⟩,
  ⟨[115, 101, 95, 109, 102, 108, 114], 128, [88]⟩,
  ⟨[115, 101, 95, 109, 116, 108, 114], 144, [88]⟩,
  ⟨[115, 101, 95, 109, 102, 99, 116, 114], 160, [88]⟩,
  ⟨[115, 101, 95, 109, 116, 99, 116, 114], 176, [88]⟩,
  ⟨[115, 101, 95, 101, 120, 116, 122, 98], 192, [88]⟩,
  ⟨[115, 101, 95, 101, 120, 116, 115, 98], 208, [88]⟩,
  ⟨[115, 101, 95, 101, 120, 116, 122, 104], 224, [88]⟩,
  ⟨[115, 101, 95, 101, 120, 116, 115, 104], 240, [88]⟩,
  ⟨[115, 101, 95, 109, 114], 256, [88, 32, 89]⟩,
  ⟨[115, 101, 95, 97, 100, 100], 1024, [88, 32, 89]⟩,
  ⟨[115, 101, 95, 109, 117, 108, 108, 119], 1280, [88, 32, 89]⟩,
  ⟨[115, 101, 95, 115, 117, 98], 1536, [88, 32, 89]⟩,
  ⟨[115, 101, 95, 99, 109, 112], 3072, [88, 32, 89]⟩,
  ⟨[115, 101, 95, 99, 109, 112, 108], 3328, [88, 32, 89]⟩,
  ⟨[115, 101, 95, 97, 100, 100, 105], 8192, [88, 32, 79, 53]⟩,
  ⟨[115, 101, 95, 99, 109, 112, 108, 105], 8704, [88, 32, 79, 53]⟩,
  ⟨[115, 101, 95, 115, 117, 98, 105], 9216, [88, 32, 79, 53]⟩,
  ⟨[115, 101, 95, 99, 109, 112, 105], 10752, [88, 32, 85, 53]⟩,
  ⟨[115, 101, 95, 111, 114], 17408, [88, 32, 89]⟩,
  ⟨[115, 101, 95, 97, 110, 100, 99], 17664, [88, 32, 89]⟩,
  ⟨[115, 101, 95, 97, 110, 100], 17920, [88, 32, 89]⟩,
  ⟨[115, 101, 95, 108, 105], 18432, [88, 32, 85, 55]⟩,
  ⟨[115, 101, 95, 98, 99, 108, 114, 105], 24576, [88, 32, 85, 53]⟩,
  ⟨[115, 101, 95, 98, 115, 101, 116, 105], 25600, [88, 32, 85, 53]⟩,
  ⟨[115, 101, 95, 98, 116, 115, 116, 105], 26112, [88, 32, 85, 53]⟩,
  ⟨[115, 101, 95, 115, 114, 119, 105], 26624, [88, 32, 85, 53]⟩,
  ⟨[115, 101, 95, 115, 108, 119, 105], 27648, [88, 32, 85, 53]⟩,
  ⟨[115, 101, 95, 108, 98, 122], 32768, [89, 32, 77, 49, 32, 88]⟩,
  ⟨[115, 101, 95, 115, 116, 98], 36864, [89, 32, 77, 49, 32, 88]⟩,
  ⟨[115, 101, 95, 108, 104, 122], 40960, [89, 32, 77, 50, 32, 88]⟩,
  ⟨[115, 101, 95, 115, 116, 104], 45056, [89, 32, 77, 50, 32, 88]⟩,
  ⟨[115, 101, 95, 108, 119, 122], 49152, [89, 32, 77, 52, 32, 88]⟩,
  ⟨[115, 101, 95, 115, 116, 119], 53248, [89, 32, 77, 52, 32, 88]⟩,
  ⟨[115, 101, 95, 98, 99], 57344, [79, 49, 32, 73, 50, 32, 84, 56]⟩,
  ⟨[115, 101, 95, 98], 59392, [84, 56]⟩,
  ⟨[115, 101, 95, 98, 108], 59648, [84, 56]⟩,
  ⟨[101, 95, 97, 100, 100, 49, 54, 105], 469762048, [68, 32, 65, 32, 83, 49, 54]⟩,
  ⟨[101, 95, 97, 100, 100, 105], 402685952, [68, 32, 65, 32, 67, 56]⟩,
  ⟨[101, 95, 97, 110, 100, 105], 402702336, [65, 32, 68, 32, 67, 56]⟩,
  ⟨[101, 95, 111, 114, 105], 402706432, [65, 32, 68, 32, 67, 56]⟩,
  ⟨[101, 95, 120, 111, 114, 105], 402710528, [65, 32, 68, 32, 67, 56]⟩,
  ⟨[101, 95, 108, 105], 1879048192, [68, 32, 76, 50, 48]⟩,
  ⟨[101, 95, 108, 98, 122], 805306368, [68, 32, 83, 49, 54, 32, 65]⟩,
  ⟨[101, 95, 115, 116, 98], 872415232, [68, 32, 83, 49, 54, 32, 65]⟩,
  ⟨[101, 95, 108, 104, 97], 939524096, [68, 32, 83, 49, 54, 32, 65]⟩,
  ⟨[101, 95, 108, 119, 122], 1342177280, [68, 32, 83, 49, 54, 32, 65]⟩,
  ⟨[101, 95, 115, 116, 119], 1409286144, [68, 32, 83, 49, 54, 32, 65]⟩,
  ⟨[101, 95, 108, 104, 122], 1476395008, [68, 32, 83, 49, 54, 32, 65]⟩,
  ⟨[101, 95, 115, 116, 104], 1543503872, [68, 32, 83, 49, 54, 32, 65]⟩,
  ⟨[101, 95, 98], 2013265920, [84, 50, 52]⟩,
  ⟨[101, 95, 98, 108], 2013265921, [84, 50, 52]⟩,
  ⟨[101, 95, 98, 99], 2046820352, [79, 50, 32, 73, 52, 32, 84, 49, 53]⟩,
  ⟨[101, 95, 98, 99, 108], 2046820353, [79, 50, 32, 73, 52, 32, 84, 49, 53]⟩,
  ⟨[97, 100, 100], 2080375316, [68, 32, 65, 32, 66]⟩,
  ⟨[115, 117, 98, 102], 2080374864, [68, 32, 65, 32, 66]⟩,
  ⟨[109, 117, 108, 108, 119], 2080375254, [68, 32, 65, 32, 66]⟩,
  ⟨[97, 110, 100], 2080374840, [65, 32, 68, 32, 66]⟩,
  ⟨[111, 114], 2080375672, [65, 32, 68, 32, 66]⟩,
  ⟨[120, 111, 114], 2080375416, [65, 32, 68, 32, 66]⟩]
def kindsL : List (List UInt8 × List (List UInt8)) := [
  ([], []),
  ([88], [[88]]),
  ([88, 32, 89], [[88], [89]]),
  ([88, 32, 79, 53], [[88], [79, 53]]),
  ([88, 32, 85, 53], [[88], [85, 53]]),
  ([88, 32, 85, 55], [[88], [85, 55]]),
  ([89, 32, 77, 49, 32, 88], [[89], [77, 49], [88]]),
  ([89, 32, 77, 50, 32, 88], [[89], [77, 50], [88]]),
  ([89, 32, 77, 52, 32, 88], [[89], [77, 52], [88]]),
  ([79, 49, 32, 73, 50, 32, 84, 56], [[79, 49], [73, 50], [84, 56]]),
  ([84, 56], [[84, 56]]),
  ([68, 32, 65, 32, 83, 49, 54], [[68], [65], [83, 49, 54]]),
  ([68, 32, 65, 32, 67, 56], [[68], [65], [67, 56]]),
  ([65, 32, 68, 32, 67, 56], [[65], [68], [67, 56]]),
  ([68, 32, 76, 50, 48], [[68], [76, 50, 48]]),
  ([68, 32, 83, 49, 54, 32, 65], [[68], [83, 49, 54], [65]]),
  ([84, 50, 52], [[84, 50, 52]]),
  ([79, 50, 32, 73, 52, 32, 84, 49, 53], [[79, 50], [73, 52], [84, 49, 53]]),
  ([68, 32, 65, 32, 66], [[68], [65], [66]]),
  ([65, 32, 68, 32, 66], [[65], [68], [66]])]
end
end Go.Proofs.YtlikeadfohahdaaGreatDoor.AL
set_option exponentiation.threshold 2000
namespace Go.Proofs.YtlikeadfohahdaaGreatDoor.AL
noncomputable section
open Ieee
end
end Go.Proofs.YtlikeadfohahdaaGreatDoor.AL
namespace Go.Proofs.YtlikeadfohahdaaGreatDoor.AL
noncomputable section
variable [Tabs]
def findOp (s : Str) : Option Nat := tbl.findIdx? fun r => decide (r.name = s)
end
end Go.Proofs.YtlikeadfohahdaaGreatDoor.AL
namespace Go.Proofs.YtlikeadfohahdaaGreatDoor.AL
noncomputable section
variable [Tabs]
def flds (k : Str) : List Str := ((kindsL.find? fun p => decide (p.1 = k)).map (·.2)).getD []
abbrev opKinds (op : Nat) : Str := (tbl[op]?.map (·.kinds)).getD []
abbrev andI (k : IntKind) (a b : Int) : Int := k.wrap ((BitVec.ofInt k.bits a &&& BitVec.ofInt k.bits b).toNat : Int)
abbrev orI (k : IntKind) (a b : Int) : Int := k.wrap ((BitVec.ofInt k.bits a ||| BitVec.ofInt k.bits b).toNat : Int)
abbrev shrI (k : IntKind) (a : Int) (n : Nat) : Int := a.fdiv (2 ^ (min n k.bits))
end
end Go.Proofs.YtlikeadfohahdaaGreatDoor.AL
