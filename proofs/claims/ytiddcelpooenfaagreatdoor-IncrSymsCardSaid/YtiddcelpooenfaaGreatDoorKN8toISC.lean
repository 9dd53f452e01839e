import Derived.Test.YtiddcelpooenfaaGreatDoorSPK
import Derived.Test.YtiddcelpooenfaaGreatDoorAL27toAL31
import Derived.Test.YtiddcelpooenfaaGreatDoorAM4toAM6
import Derived.MapKept
import Derived.Test.YtiddcelpooenfaaGreatDoorAE5toAN4
import Derived.Test.YtiddcelpooenfaaGreatDoorF9
import Derived.Test.YtiddcelpooenfaaGreatDoorAA11toSC
import Derived.KernelRfl
import Derived.Test.YtiddcelpooenfaaGreatDoorAL32toAL34
set_option linter.all false
set_option autoImplicit true
set_option relaxedAutoImplicit true
set_option maxRecDepth 100000
namespace Go.Proofs.YtiddcelpooenfaaGreatDoor.AL
noncomputable section
theorem known_run [Tabs] : runG Pg tb5 spK 100 fn_law8_known [] .leaf 0 (fun r t _ => chkR (B true) r t) = true := by kernel_rfl
theorem known8 [Tabs5] (h : AHeap) (Q : QT) (q : Q (B true) h) : C fn_law8_known [] h Q := closed_call Tabs5.tb spK_ok (d := 100) (B true) rfl rfl known_run q
end
end Go.Proofs.YtiddcelpooenfaaGreatDoor.AL
namespace Go.Proofs.YtiddcelpooenfaaGreatDoor.AL
noncomputable section
class Ky (κ : Type) where
  dec : DecidableEq κ
  lt : κ → κ → Prop
  dlt : DecidableRel lt
  irr : ∀ a, ¬ lt a a
  trans : ∀ {a b c}, lt a b → lt b c → lt a c
  tri : ∀ {a b}, ¬ lt a b → a ≠ b → lt b a
  val : κ → Value
  kd : TypeDesc
  kok : ∀ k, kOk kd (val k) = true
  keq : ∀ a b, AL.keq (val a) (val b) = @decide (a = b) (dec a b)
  one : ∀ k, (val k).oneCell' = true
instance (κ : Type) [Ky κ] : DecidableEq κ := Ky.dec
instance (κ : Type) [Ky κ] : DecidableRel (Ky.lt (κ := κ)) := Ky.dlt
section
variable {κ α : Type} [Ky κ]
abbrev KM (κ α : Type) := List (κ × α)
abbrev KL (α : Type) := KM (List UInt8) α
def lookK (k : κ) : KM κ α → Option α
  | [] => none
  | (a, v) :: r => if k = a then some v else lookK k r
def insK (k : κ) (v : α) : KM κ α → KM κ α
  | [] => [(k, v)]
  | (a, w) :: r => if k = a then (k, v) :: r else if Ky.lt k a then (k, v) :: (a, w) :: r else (a, w) :: insK k v r
def SoK (l : KM κ α) : Prop := l.Pairwise fun a b => Ky.lt a.1 b.1
theorem lt_ne {a b : κ} (h : Ky.lt a b) : a ≠ b := fun e => by subst e; exact Ky.irr _ h
theorem lt_tri {a b : κ} (h1 : ¬ Ky.lt a b) (h2 : a ≠ b) : Ky.lt b a := Ky.tri h1 h2
theorem SoK.nd {l : KM κ α} (s : SoK l) : (l.map (·.1)).Nodup := by
  rw [List.nodup_iff_pairwise_ne, List.pairwise_map]
  exact s.imp fun h => lt_ne h
theorem insK_mem {k : κ} {v : α} : ∀ {l : KM κ α}, SoK l → ∀ x, x ∈ insK k v l ↔ x = (k, v) ∨ (x ∈ l ∧ x.1 ≠ k)
  | [], _, x => by simp [insK]
  | (a, w) :: r, s, x => by
    obtain ⟨s1, s2⟩ := List.pairwise_cons.1 s
    unfold insK
    by_cases h : k = a
    · subst h
      rw [if_pos rfl]
      simp only [List.mem_cons]
      constructor
      · rintro (h | h)
        · exact .inl h
        · exact .inr ⟨.inr h, fun e => lt_ne (s1 x h) e.symm⟩
      · rintro (h | ⟨h | h, h2⟩)
        · exact .inl h
        · subst h; exact (h2 rfl).elim
        · exact .inr h
    · rw [if_neg h]
      split
      · rename_i h1
        simp only [List.mem_cons]
        constructor
        · rintro (h2 | h2 | h2)
          · exact .inl h2
          · exact .inr ⟨.inl h2, by subst h2; exact Ne.symm h⟩
          · exact .inr ⟨.inr h2, fun e => lt_ne (Ky.trans h1 (s1 x h2)) e.symm⟩
        · rintro (h2 | ⟨h2, _⟩)
          · exact .inl h2
          · exact .inr h2
      · simp only [List.mem_cons, insK_mem s2 x]
        constructor
        · rintro (h2 | h2 | ⟨h2, h3⟩)
          · exact .inr ⟨.inl h2, by subst h2; exact Ne.symm h⟩
          · exact .inl h2
          · exact .inr ⟨.inr h2, h3⟩
        · rintro (h2 | ⟨h2 | h2, h3⟩)
          · exact .inr (.inl h2)
          · exact .inl h2
          · exact .inr (.inr ⟨h2, h3⟩)
theorem insK_so {k : κ} {v : α} : ∀ {l : KM κ α}, SoK l → SoK (insK k v l)
  | [], _ => by simp [insK, SoK]
  | (a, w) :: r, s => by
    obtain ⟨s1, s2⟩ := List.pairwise_cons.1 s
    unfold insK
    by_cases h : k = a
    · subst h
      rw [if_pos rfl]
      exact List.pairwise_cons.2 ⟨s1, s2⟩
    · rw [if_neg h]
      split
      · rename_i h1
        refine List.pairwise_cons.2 ⟨fun x hx => ?_, s⟩
        rcases List.mem_cons.1 hx with rfl | hx
        · exact h1
        · exact Ky.trans h1 (s1 x hx)
      · rename_i h1
        refine List.pairwise_cons.2 ⟨fun x hx => ?_, insK_so s2⟩
        rcases (insK_mem s2 x).1 hx with rfl | ⟨h2, _⟩
        · exact lt_tri h1 h
        · exact s1 x h2
theorem lookK_none {k : κ} : ∀ {l : KM κ α}, lookK k l = none ↔ ∀ x ∈ l, x.1 ≠ k
  | [] => by simp [lookK]
  | (a, w) :: r => by
    unfold lookK
    split
    · rename_i h; subst h; simp
    · rename_i h
      rw [lookK_none (l := r)]
      simp only [List.mem_cons, forall_eq_or_imp]
      exact ⟨fun hh => ⟨Ne.symm h, hh⟩, fun hh => hh.2⟩
theorem lookK_mem {k : κ} {v : α} : ∀ {l : KM κ α}, (l.map (·.1)).Nodup → (lookK k l = some v ↔ (k, v) ∈ l)
  | [], _ => by simp [lookK]
  | (a, w) :: r, nd => by
    simp only [List.map_cons, List.nodup_cons] at nd
    unfold lookK
    by_cases h : k = a
    · subst h
      rw [if_pos rfl]
      simp only [Option.some.injEq, List.mem_cons, Prod.mk.injEq, true_and]
      constructor
      · intro h; exact .inl h.symm
      · rintro (h | h)
        · exact h.symm
        · exact (nd.1 (List.mem_map.2 ⟨_, h, rfl⟩)).elim
    · rw [if_neg h, lookK_mem (l := r) nd.2]; simp [h]
theorem perm_of_mem {a b : KM κ α} (na : (a.map (·.1)).Nodup) (nb : (b.map (·.1)).Nodup) (e : ∀ x, x ∈ a ↔ x ∈ b) : a.Perm b :=
  (List.perm_ext_iff_of_nodup (List.Pairwise.of_map _ (fun _ _ h e => h (by rw [e])) na) (List.Pairwise.of_map _ (fun _ _ h e => h (by rw [e])) nb)).2 e
end
instance kyS : Ky (List UInt8) where
  dec := inferInstance
  lt := (· < ·)
  dlt := inferInstance
  irr _ := List.lt_irrefl _
  trans := List.lt_trans
  tri h1 h2 := Std.lt_of_le_of_ne (List.not_lt.1 h1) (Ne.symm h2)
  val k := .string ⟨⟨k⟩⟩
  kd := .string
  kok _ := rfl
  keq x y := by
    show ((⟨x⟩ : Array UInt8) == ⟨y⟩) = decide (x = y)
    rw [Bool.eq_iff_iff, decide_eq_true_eq]; simp
  one _ := rfl
instance kyI : Ky Int where
  dec := inferInstance
  lt := (· < ·)
  dlt := inferInstance
  irr _ := Int.lt_irrefl _
  trans := Int.lt_trans
  tri h1 h2 := by omega
  val k := .int .i64 k
  kd := .int .i64
  kok _ := rfl
  keq x y := by
    show (x == y) = decide (x = y)
    rw [Bool.eq_iff_iff, decide_eq_true_eq]; simp
  one _ := rfl
def mE {κ α : Type} [Ky κ] (enc : α → AV) (es : List (κ × Nat × α)) : MEnts := es.map fun e => (Ky.val e.1, e.2.1, enc e.2.2)
structure MapR {κ α : Type} [Ky κ] (enc : α → AV) (es : List (κ × Nat × α)) (n : Nat) (l : KM κ α) : Prop where
  up : (es.map (·.2.1)).Pairwise (· < ·)
  lt : ∀ e ∈ es, e.2.1 < n
  nd : (es.map (·.1)).Nodup
  eq : ∀ x, x ∈ es.map (fun e => (e.1, e.2.2)) ↔ x ∈ l
  so : SoK l
def MapS {κ α : Type} [Ky κ] (enc : α → AV) (l : KM κ α) (o : AObj) : Prop := ∃ (es : List (κ × Nat × α)) (n : Nat), o = .amap (mE enc es) n ∧ MapR enc es n l
theorem MapS.nil {κ α : Type} [Ky κ] (enc : α → AV) : MapS enc ([] : KM κ α) (.amap [] 0) := ⟨[], 0, rfl, by simp, by simp, by simp, by simp, by simp [SoK]⟩
section
variable {κ α : Type} [Ky κ] {enc : α → AV} {es : List (κ × Nat × α)} {n : Nat} {l : KM κ α}
theorem MapR.kv (m : MapR enc es n l) : ((es.map (fun e => (e.1, e.2.2))).map (·.1)).Nodup := by rw [List.map_map]; exact m.nd
theorem MapR.perm (m : MapR enc es n l) : (es.map (fun e => (e.1, e.2.2))).Perm l := perm_of_mem m.kv m.so.nd m.eq
theorem MapR.len (m : MapR enc es n l) : es.length = l.length := by have := m.perm.length_eq; simpa using this
theorem mE_kOk (es : List (κ × Nat × α)) : (mE enc es).all (fun e => kOk (Ky.kd κ) e.1) = true := by simp [mE, Ky.kok]
variable [Tabs]
theorem mfind_mE (k : κ) : ∀ (i : Nat) (es : List (κ × Nat × α)), (mfind (Ky.val k) (mE enc es) i = none ∧ ∀ e ∈ es, e.1 ≠ k) ∨ ∃ j, ∃ hj : j < es.length, mfind (Ky.val k) (mE enc es) i = some (i + j, es[j].2.1, enc es[j].2.2) ∧ es[j].1 = k
  | i, [] => .inl ⟨rfl, by simp⟩
  | i, (a, b, v) :: r => by
    unfold mE
    rw [List.map_cons, mfind, Ky.keq]
    by_cases h : k = a
    · subst h
      exact .inr ⟨0, by simp, by simp, rfl⟩
    · rw [if_neg (by simpa using h)]
      rcases mfind_mE k (i + 1) r with ⟨h1, h2⟩ | ⟨j, hj, h1, h2⟩
      · exact .inl ⟨h1, by simpa using ⟨Ne.symm h, fun x y z => h2 (x, y, z)⟩⟩
      · exact .inr ⟨j + 1, by simpa using hj, by unfold mE at h1; rw [h1]; simp; omega, by simpa using h2⟩
theorem MapR.find (m : MapR enc es n l) (k : κ) : (mfind (Ky.val k) (mE enc es) 0 = none ∧ lookK k l = none ∧ ∀ e ∈ es, e.1 ≠ k) ∨ ∃ j, ∃ hj : j < es.length, mfind (Ky.val k) (mE enc es) 0 = some (j, es[j].2.1, enc es[j].2.2) ∧ es[j].1 = k ∧ lookK k l = some es[j].2.2 := by
  rcases mfind_mE (enc := enc) k 0 es with ⟨h1, h2⟩ | ⟨j, hj, h1, h2⟩
  · refine .inl ⟨h1, lookK_none.2 fun x hx => ?_, h2⟩
    obtain ⟨e, he, rfl⟩ := List.mem_map.1 ((m.eq x).2 hx)
    exact h2 e he
  · refine .inr ⟨j, hj, by simpa using h1, h2, ?_⟩
    rw [lookK_mem m.so.nd, ← m.eq]
    exact List.mem_map.2 ⟨es[j], List.getElem_mem _, by rw [h2]⟩
theorem MapR.app (m : MapR enc es n l) {k : κ} {v : α} (hn : ∀ e ∈ es, e.1 ≠ k) : MapR enc (es ++ [(k, n, v)]) (n + 1) (insK k v l) where
  up := by
    rw [List.map_append, List.pairwise_append]
    refine ⟨m.up, by simp, fun a ha b hb => ?_⟩
    obtain ⟨e, he, rfl⟩ := List.mem_map.1 ha
    simp at hb; subst hb; exact m.lt e he
  lt e he := by
    rcases List.mem_append.1 he with h | h
    · have := m.lt e h; omega
    · simp at h; subst h; simp
  nd := by
    rw [List.map_append, List.nodup_append]
    refine ⟨m.nd, by simp, fun a ha b hb e => ?_⟩
    obtain ⟨x, hx, rfl⟩ := List.mem_map.1 ha
    simp at hb; subst hb; exact hn x hx e
  eq x := by
    rw [List.map_append, List.mem_append, m.eq, insK_mem m.so]
    simp only [List.map_cons, List.map_nil, List.mem_singleton]
    constructor
    · rintro (h | h)
      · obtain ⟨e, he, rfl⟩ := List.mem_map.1 ((m.eq x).2 h)
        exact .inr ⟨h, hn e he⟩
      · exact .inl h
    · rintro (h | ⟨h, _⟩)
      · exact .inr h
      · exact .inl h
  so := insK_so m.so
theorem nd_inj {β : Type} {l : List β} (nd : l.Nodup) {i j : Nat} (hi : i < l.length) (hj : j < l.length) (e : l[i] = l[j]) : i = j := by
  rw [List.nodup_iff_pairwise_ne, List.pairwise_iff_getElem] at nd
  rcases Nat.lt_trichotomy i j with h | h | h
  · exact (nd i j hi hj h e).elim
  · exact h
  · exact (nd j i hj hi h e.symm).elim
theorem mem_setIx {β : Type} {l : List β} {i : Nat} (hi : i < l.length) (nd : l.Nodup) (b x : β) : x ∈ l.set i b ↔ x = b ∨ (x ∈ l ∧ x ≠ l[i]) := by
  constructor
  · intro h
    obtain ⟨j, hj, rfl⟩ := List.getElem_of_mem h
    rw [List.getElem_set]
    split
    · exact .inl rfl
    · rename_i hne
      rw [List.length_set] at hj
      exact .inr ⟨List.getElem_mem _, fun e => hne (nd_inj nd hj hi e).symm⟩
  · rintro (rfl | ⟨h, hne⟩)
    · exact List.mem_iff_getElem.2 ⟨i, by simpa using hi, by simp⟩
    · obtain ⟨j, hj, rfl⟩ := List.getElem_of_mem h
      refine List.mem_iff_getElem.2 ⟨j, by simpa using hj, ?_⟩
      rw [List.getElem_set, if_neg]
      intro e; subst e; exact hne rfl
theorem MapR.set (m : MapR enc es n l) {k : κ} {v : α} {j : Nat} (hj : j < es.length) (hk : es[j].1 = k) : MapR enc (es.set j (k, es[j].2.1, v)) n (insK k v l) := by
  have e1 : (es.set j (k, es[j].2.1, v)).map (·.2.1) = es.map (·.2.1) := by rw [List.map_set]; refine List.ext_getElem (by simp) fun i h1 h2 => ?_; rw [List.getElem_set]; split <;> simp_all
  have e2 : (es.set j (k, es[j].2.1, v)).map (·.1) = es.map (·.1) := by rw [List.map_set]; refine List.ext_getElem (by simp) fun i h1 h2 => ?_; rw [List.getElem_set]; split <;> simp_all
  refine ⟨by rw [e1]; exact m.up, fun e he => ?_, by rw [e2]; exact m.nd, fun x => ?_, insK_so m.so⟩
  · have : e.2.1 ∈ (es.set j (k, es[j].2.1, v)).map (·.2.1) := List.mem_map_of_mem he
    rw [e1] at this
    obtain ⟨x, hx, he⟩ := List.mem_map.1 this
    rw [← he]; exact m.lt x hx
  · rw [List.map_set, insK_mem m.so, ← m.eq]
    have nd : (es.map (fun e => (e.1, e.2.2))).Nodup := List.Pairwise.of_map _ (fun _ _ h e => h (by rw [e])) m.kv
    rw [mem_setIx (by simpa using hj) nd]
    refine or_congr Iff.rfl (and_congr_right fun hx => not_congr ?_)
    rw [List.getElem_map]
    constructor
    · intro h; rw [h]; exact hk
    · intro h
      obtain ⟨q, hq, rfl⟩ := List.getElem_of_mem hx
      rw [List.length_map] at hq
      simp only [List.getElem_map] at h ⊢
      have := nd_inj m.nd (i := q) (j := j) (by simpa using hq) (by simpa using hj) (by simp [h, hk])
      subst this; rfl
variable {h0 h : AHeap} {M : List Nat} {L L' : Own} {K : AV → Prop} {KH : QT} {KL' : AHeap → Prop}
theorem st_lookSG {o : AObj} {j : Nat} {k : κ} {z : AV} (e : h[j]? = some o) (m : MapS enc l o) (q : K (.tup [((lookK k l).map enc).getD z, B (lookK k l).isSome])) : qLookup (Ky.kd κ) true z (.map j) (.lit (Ky.val k)) h K := ⟨by
  obtain ⟨es, n, rfl, r⟩ := m
  simp only [pLookup, e]
  rw [if_pos (by rw [mE_kOk, Ky.kok]; rfl)]
  rcases r.find k with ⟨h1, h2, _⟩ | ⟨j, hj, h1, h2, h3⟩
  · rw [h1]; rw [h2] at q; exact q
  · rw [h1]; rw [h3] at q; exact q⟩
theorem MapS.put {o : AObj} (m : MapS enc l o) (k : κ) (v : α) : ∃ (es : List (κ × Nat × α)) (n : Nat), o = .amap (mE enc es) n ∧ MapS enc (insK k v l) (mput (Ky.val k) (enc v) n (mE enc es)) := by
  obtain ⟨es, n, rfl, r⟩ := m
  refine ⟨es, n, rfl, ?_⟩
  unfold mput
  rcases r.find k with ⟨h1, h2, h3⟩ | ⟨j, hj, h1, h2, h3⟩
  · rw [h1]; exact ⟨_, _, by simp [mE], r.app h3⟩
  · rw [h1]; exact ⟨_, _, by simp [mE, List.map_set], r.set hj h2⟩
theorem st_putSG {o : AObj} {j : Nat} {k : κ} {v : α} (s : St h0 M h L) (e : (j, true, o) ∈ L) (m : MapS enc l o) (q : ∀ o', MapS enc (insK k v l) o' → (∀ {L'}, Sub L (j, true, o) L' (j, true, o') → St h0 M (h.set j o') L') → KL' (h.set j o')) : qMapUpdate (Ky.kd κ) (.map j) (.lit (Ky.val k)) (enc v) h KL' := ⟨by
  obtain ⟨es, n, rfl, m'⟩ := m.put k v
  simp only [eMapUpdate, s.get e]
  rw [if_pos (by rw [mE_kOk, Ky.kok]; rfl)]
  exact q _ m' fun u => s.turn u⟩
end
section
variable [Tabs]
variable {α : Type} {enc : α → AV} {h0 h : AHeap} {M : List Nat} {L L' : Own} {K : AV → Prop} {KS' : AHeap → Prop}
theorem st_lookS {l : KL α} {o : AObj} {j : Nat} {k : Str} {z : AV} (e : h[j]? = some o) (m : MapS enc l o) (q : K (.tup [((lookK k l).map enc).getD z, B (lookK k l).isSome])) : qLookup .string true z (.map j) (T k) h K := st_lookSG (κ := List UInt8) e m q
theorem st_putS {l : KL α} {o : AObj} {j : Nat} {k : Str} {v : α} (s : St h0 M h L) (e : (j, true, o) ∈ L) (m : MapS enc l o) (q : ∀ o', MapS enc (insK k v l) o' → (∀ {L'}, Sub L (j, true, o) L' (j, true, o') → St h0 M (h.set j o') L') → KS' (h.set j o')) : qMapUpdate .string (.map j) (T k) (enc v) h KS' := st_putSG (κ := List UInt8) s e m q
end
end
end Go.Proofs.YtiddcelpooenfaaGreatDoor.AL
namespace Go.Proofs.YtiddcelpooenfaaGreatDoor.AL
noncomputable section
open Go.RowKit Go.Maps Go.Sort Go.Shelf Go.WideElems Go.WideShapes
open Go.Proofs (encStr)
variable [Tabs]
section
variable {P : Program}
end
end
end Go.Proofs.YtiddcelpooenfaaGreatDoor.AL
namespace Go.Proofs.YtiddcelpooenfaaGreatDoor.AL
noncomputable section
variable [Tabs]
section
variable {P : Program} {G : Gh} {h : AHeap} {w : World}
def fzM (i : Nat) (cs : List AV) : MEnts → MEnts
  | [] => []
  | (k, n, a) :: es => (k, n, fz i cs a) :: fzM i cs es
def fzO (i : Nat) (cs : List AV) : AObj → AObj
  | .cells ds => .cells (fzL i cs ds)
  | .amap es n => .amap (fzM i cs es) n
  | o => o
theorem fzL_get {i : Nat} {cs : List AV} : ∀ (ds : List AV) (j : Nat), (fzL i cs ds)[j]? = (ds[j]?).map (fz i cs)
  | [], j => by simp [fzL]
  | a :: az, 0 => by simp [fzL]
  | a :: az, j + 1 => by simp [fzL, fzL_get az j]
theorem fzL_len {i : Nat} {cs : List AV} : ∀ (ds : List AV), (fzL i cs ds).length = ds.length
  | [] => by simp [fzL]
  | a :: az => by simp [fzL, fzL_len az]
theorem Frz.repE {G G' : Gh} {i : Nat} {cs : List AV} (z : Frz G G' i cs) : ∀ (es : MEnts) (l : List MapEntry), RepE G es l → RepE G' (fzM i cs es) l
  | [], l, h => h
  | (k, n, a) :: es, l, h => by
    simp only [RepE, fzM] at h ⊢
    obtain ⟨e, r, h1, h2, h3, h4, h5⟩ := h
    exact ⟨e, r, h1, h2, h3, z.rep a _ h4, z.repE es r h5⟩
theorem fzO_live {i : Nat} {cs : List AV} (o : AObj) : (fzO i cs o).live = o.live := by cases o <;> rfl
theorem Frz.objAt {G G' : Gh} {i : Nat} {cs : List AV} (z : Frz G G' i cs) {q : Nat} {o : AObj} (x : ObjAt G w q o) : ObjAt G' w q (fzO i cs o) := by
  cases o with
  | cells ds =>
    obtain ⟨b, o, arr, el, lo, hi, e1, e2, e3, e4, e5, e6⟩ := x
    refine ⟨b, o, arr, el, lo, hi, z.le.loc _ _ e1, e2, e3, by rw [z.le.cap _ _ e1, fzL_len]; exact e4, by rw [z.le.cap _ _ e1]; exact e5, fun j a ha => ?_⟩
    rw [fzL_get] at ha
    cases hj : ds[j]? with
    | none => rw [hj] at ha; cases ha
    | some d =>
      rw [hj] at ha; cases ha
      obtain ⟨v, h1, h2⟩ := e6 j d hj
      exact ⟨v, h1, z.rep d v h2⟩
  | amap es n =>
    obtain ⟨b, arr, e1, e2, e3⟩ := x
    exact ⟨b, arr, z.le.loc _ _ e1, e2, z.repE es _ e3⟩
  | _ => exact x.keep z.le fun p _ _ => rfl
theorem sim_frzIn (s : Sim G h w) {i : Nat} {cs : List AV} (hi : h[i]? = some (.cells cs)) {q : Nat} {oq : AObj} (hq : h[q]? = some oq) (hne : q ≠ i) :
    ∃ G', Sim G' ((h.set i .dead).set q (fzO i cs oq)) w ∧ Evo G h w G' ((h.set i .dead).set q (fzO i cs oq)) w ∧ Frz G G' i cs := by
  obtain ⟨G', s', ev, z⟩ := sim_frz s hi
  have hq' : (h.set i .dead)[q]? = some oq := by rw [List.getElem?_set_ne (Ne.symm hne)]; exact hq
  have hql := (List.getElem?_eq_some_iff.1 hq').1
  have key : ∀ (k : Nat) (ok : AObj), ((h.set i .dead).set q (fzO i cs oq))[k]? = some ok → ∃ ok', (h.set i .dead)[k]? = some ok' ∧ ok'.live = ok.live ∧ (k = q ∧ ok = fzO i cs oq ∨ k ≠ q ∧ ok = ok') := fun k ok hk => by
    by_cases e : k = q
    · subst e
      rw [List.getElem?_set_self hql] at hk
      cases hk
      exact ⟨oq, hq', (fzO_live oq).symm, .inl ⟨rfl, rfl⟩⟩
    · rw [List.getElem?_set_ne (Ne.symm e)] at hk
      exact ⟨ok, hk, rfl, .inr ⟨e, rfl⟩⟩
  refine ⟨G', ⟨fun k ok hk => ?_, fun k p hp => by simpa using s'.dom k p hp, fun a b oa ob p r ha hb la lb hp hr e => ?_, s'.frz, fun k ok p hk hl hp off => ?_, s'.tab⟩, ⟨ev.le, ev.size, ev.os, ev.tape, ev.output, ev.frame, fun b ⟨k, ok, p, hk, hl, hp, e⟩ => ?_, ev.fz⟩, z⟩
  · obtain ⟨ok', h1, h2, h3⟩ := key k ok hk
    rcases h3 with ⟨rfl, rfl⟩ | ⟨_, rfl⟩
    · exact z.objAt (s.obj _ _ hq)
    · exact s'.obj _ _ h1
  · obtain ⟨oa', a1, a2, _⟩ := key a oa ha
    obtain ⟨ob', b1, b2, _⟩ := key b ob hb
    exact s'.apart a b oa' ob' p r a1 b1 (a2.trans la) (b2.trans lb) hp hr e
  · obtain ⟨ok', h1, h2, _⟩ := key k ok hk
    exact s'.sep k ok' p h1 (h2.trans hl) hp off
  · obtain ⟨ok', h1, h2, _⟩ := key k ok hk
    exact ev.own b ⟨k, ok', p, h1, h2.trans hl, hp, e⟩
inductive ConvI : AV → AHeap → QT where
  | refl (r : AV) (h : AHeap) : ConvI r h r h
  | conv {r : AV} {h : AHeap} {r1 : AV} {h1 : AHeap} {r2 : AV} {h2 : AHeap} (c : Conv r h r1 h1) (k : ConvI r1 h1 r2 h2) : ConvI r h r2 h2
  | frzIn {r : AV} {h : AHeap} {r2 : AV} {h2 : AHeap} (i : Nat) (cs : List AV) (hi : h[i]? = some (.cells cs)) (q : Nat) (oq : AObj) (hq : h[q]? = some oq) (hne : q ≠ i) (k : ConvI (fz i cs r) ((h.set i .dead).set q (fzO i cs oq)) r2 h2) : ConvI r h r2 h2
theorem ConvI.ok {r : AV} {h : AHeap} {r2 : AV} {h2 : AHeap} (c : ConvI r h r2 h2) : ∀ {G : Gh} {w : World} {v : Value}, Sim G h w → Rep G r v → ∃ G', Sim G' h2 w ∧ Evo G h w G' h2 w ∧ Rep G' r2 v := by
  induction c with
  | refl r h => exact fun s hr => ⟨_, s, Evo.refl _ _ _, hr⟩
  | conv c k ih =>
    intro G w v s hr
    obtain ⟨G', s', ev, hr'⟩ := c.ok s hr
    obtain ⟨G2, s2, ev2, hr2⟩ := ih s' hr'
    exact ⟨G2, s2, ev.trans ev2, hr2⟩
  | frzIn i cs hi q oq hq hne k ih =>
    intro G w v s hr
    obtain ⟨G', s', ev, z⟩ := sim_frzIn s hi hq hne
    obtain ⟨G2, s2, ev2, hr2⟩ := ih s' (z.rep _ _ hr)
    exact ⟨G2, s2, ev.trans ev2, hr2⟩
theorem St.frzIn {h0 : AHeap} {M : List Nat} {L L' L2 : Own} {i q : Nat} {cs : List AV} {oq : AObj} (s : St h0 M h L) (d : Del L (i, true, .cells cs) L') (u : Sub L' (q, true, oq) L2 (q, true, fzO i cs oq)) : q ≠ i ∧ St h0 M ((h.set i .dead).set q (fzO i cs oq)) L2 :=
  ⟨d.ne s.nd _ u.mem, (s.kill d).turn u⟩
end
end
end Go.Proofs.YtiddcelpooenfaaGreatDoor.AL
namespace Go.Proofs.YtiddcelpooenfaaGreatDoor.AL
noncomputable section
section
variable [Tabs]
variable {κ α : Type} [Ky κ] {enc : α → AV} {es : List (κ × Nat × α)} {n : Nat} {l : KM κ α}
variable {h0 h : AHeap} {M : List Nat} {L L' : Own} {K : AV → Prop} {KH : QT} {KS' : AHeap → Prop}
theorem MapR.nb (m : MapR enc es n l) : (es.map (·.2.1)).Nodup := m.up.imp fun h => Nat.ne_of_lt h
def kmap {β : Type} (f : α → β) (l : KM κ α) : KM κ β := l.map fun x => (x.1, f x.2)
theorem kmap_so {β : Type} {f : α → β} {l : KM κ α} : SoK l → SoK (kmap f l) := fun s => by
  unfold SoK kmap; rw [List.pairwise_map]; exact s
theorem fzM_mE (i : Nat) (cs : List AV) : ∀ es : List (κ × Nat × AV), fzM i cs (mE id es) = mE id (es.map fun x => (x.1, x.2.1, fz i cs x.2.2))
  | [] => rfl
  | x :: es => by
    show (Ky.val x.1, x.2.1, fz i cs x.2.2) :: fzM i cs (mE id es) = _
    rw [fzM_mE i cs es]; rfl
theorem MapS.fz {l : KM κ AV} {o : AObj} (m : MapS id l o) (i : Nat) (cs : List AV) : MapS id (kmap (AL.fz i cs) l) (fzO i cs o) := by
  obtain ⟨es, n, rfl, r⟩ := m
  refine ⟨es.map fun x => (x.1, x.2.1, AL.fz i cs x.2.2), n, by rw [← fzM_mE]; rfl, ⟨by rw [List.map_map]; exact r.up, fun e he => ?_, by rw [List.map_map]; exact r.nd, fun x => ?_, kmap_so r.so⟩⟩
  · obtain ⟨y, hy, rfl⟩ := List.mem_map.1 he; exact r.lt y hy
  · simp only [List.map_map, List.mem_map, Function.comp, kmap]
    constructor
    · rintro ⟨e, he, rfl⟩; exact ⟨(e.1, e.2.2), (r.eq _).1 (List.mem_map.2 ⟨e, he, rfl⟩), rfl⟩
    · rintro ⟨y, hy, rfl⟩
      obtain ⟨e, he, rfl⟩ := List.mem_map.1 ((r.eq y).2 hy)
      exact ⟨e, he, rfl⟩
theorem MapS.so {l : KM κ α} {o : AObj} (m : MapS enc l o) : SoK l := by obtain ⟨_, _, _, r⟩ := m; exact r.so
end
end
end Go.Proofs.YtiddcelpooenfaaGreatDoor.AL
namespace Go.Proofs.YtiddcelpooenfaaGreatDoor.AL
noncomputable section
structure Rq where
  kind : Int
  name : Str
  text : Str
  value : Int
section
variable [Tabs]
variable {h0 h : AHeap} {M : List Nat} {L R : Own} {K : AV → Prop} {Q : QT}
end
end
end Go.Proofs.YtiddcelpooenfaaGreatDoor.AL
namespace Go.Proofs.YtiddcelpooenfaaGreatDoor.AL
noncomputable section
structure WkM where
  f : KL Str
  s : KL Int
section
variable [Tabs]
variable {h0 h : AHeap} {M : List Nat} {L R : Own} {K : AV → Prop} {Q : QT}
def WkS (h0 : AHeap) (M : List Nat) (h : AHeap) (i : Nat) (w : WkM) (R : Own) : Prop := ∃ jf js xf xs, MapS T w.f xf ∧ MapS I w.s xs ∧ St h0 M h ((i, true, .cells [.map jf, .map js]) :: (jf, true, xf) :: (js, true, xs) :: R)
theorem St.after (s : St h0 M h L) {h' : AHeap} (f : Fr [] h h') : St h0 M h' L :=
  ⟨s.fr.trans f (by simp), fun e he => f.get (s.at_ e he) (by simp), s.own, s.nd⟩
structure WkOk (w : WkM) : Prop where
  txt : ∀ x ∈ w.f, x.2.length ≤ 600
  fn : w.f.length ≤ 8
  sn : w.s.length ≤ 8
  fw : ∀ x ∈ w.f, isWord x.1 = true
  sw : ∀ x ∈ w.s, isWord x.1 = true
  sv : ∀ x ∈ w.s, -1099511627776 ≤ x.2 ∧ x.2 ≤ 1099511627776
end
end
end Go.Proofs.YtiddcelpooenfaaGreatDoor.AL
namespace Go.Proofs.YtiddcelpooenfaaGreatDoor.AL
noncomputable section
section
variable [Tabs]
variable {h0 h : AHeap} {M : List Nat} {L R : Own} {K : AV → Prop} {Q : QT}
abbrev nmE : Str → List AV := fun x => [T x]
theorem AccE.row {α : Type} {enc : α → List AV} {sz : Nat} {v : AV} {l : List α} {E : Own} (a : AccE sz v l.length (l.flatMap enc) E) (s : St h0 M h (E ++ L)) : Row enc sz h v l := a.rd s
end
end
end Go.Proofs.YtiddcelpooenfaaGreatDoor.AL
namespace Go.Proofs.YtiddcelpooenfaaGreatDoor.AL
noncomputable section
structure BuM where
  held : KL Str
  order : List Str
  parsed : Int
theorem Sub.same {L L' : Own} {e : Nat × Bool × AObj} (s : Sub L e L' e) : L = L' := by
  generalize he : e = e2 at s
  have hs : ∀ {L L' : Own} {a b : Nat × Bool × AObj}, Sub L a L' b → a = b → L = L' := fun s => by
    induction s with
    | head => intro h; rw [h]
    | tail s ih => intro h; rw [ih h]
  subst he; exact hs s rfl
section
variable [Tabs]
abbrev keptL (t : Str) : List AV := [T t, .snap (parseS t).length ((parseS t).flatMap smF)]
abbrev keptE (t : Str) : AV := .agg (keptL t)
def costB (held : KL Str) (f : Fg) : Int := if lookK f.1 held = some f.2 then 0 else 1
def stepB1 (held : KL Str) (st : KL Str × Int) (f : Fg) : KL Str × Int := (insK f.1 f.2 st.1, st.2 + costB held f)
def buildB (b : BuM) (frags : List Fg) : BuM := ⟨(frags.foldl (stepB1 b.held) ([], b.parsed)).1, frags.map (·.1), (frags.foldl (stepB1 b.held) ([], b.parsed)).2⟩
variable {h0 h : AHeap} {M : List Nat} {L L' R R' : Own} {K : AV → Prop} {KH : QT} {KS' : AHeap → Prop} {Q : QT} {i : Nat} {b : BuM}
def BuS (h0 : AHeap) (M : List Nat) (h : AHeap) (i : Nat) (b : BuM) (R : Own) : Prop := ∃ j o ov E, MapS keptE b.held o ∧ AccE 1 ov b.order.length (b.order.flatMap nmE) E ∧ St h0 M h ((i, true, .cells [.map j, ov, I b.parsed]) :: (j, true, o) :: (E ++ R))
theorem buNew_sp (s : St h0 M h R) (q : ∀ i h', BuS h0 M h' i ⟨[], [], 0⟩ R → Q (.ptr i 0) h') : C fn_incr_New [] h Q := by
  refine incr_New_ok _ _ ?_
  unfold incr_New
  refine st_makeMap s fun j h1 s1 => ?_
  refine st_build rfl ?_
  refine st_box s1 rfl fun i h2 s2 => ?_
  exact q i h2 ⟨j, _, .full 0 [], [], .nil _, .none 1, s2⟩
theorem buParse_sp (hF : FieldsOk) (hI : IndexOk) (hA : AtoiOk) {j : Nat} {o : AObj} {bb : Bool} {ov : AV} {p : Int} {held : KL Str} {f : Fg} (hf : f.2.length < 1000000000) (hp : 0 ≤ p ∧ p < 1000000000000) (m : MapS keptE held o) (s : St h0 M h L) (e : (j, bb, o) ∈ L)
    (u : Sub L (i, true, .cells [.map j, ov, I p]) L' (i, true, .cells [.map j, ov, I (p + costB held f)])) (hov : AV.one ov = true) (q : ∀ h', St h0 M h' L' → Q (keptE f.2) h') : C fn_incr_Builder_parse [.ptr i 0, .agg (frE f)] h Q := by
  refine incr_Builder_parse_ok _ _ _ _ ?_
  unfold incr_Builder_parse
  refine st_box s rfl fun t3 h1 s1 => ?_
  refine st_new s1 fun t4 h2 s2 => ?_
  have u2 : Sub ((t4, true, AObj.cells [S ⟨#[]⟩, .full 0 []]) :: (t3, true, .cells (AV.cells (.agg (frE f)))) :: L) (i, true, .cells [.map j, ov, I p]) ((t4, true, AObj.cells [S ⟨#[]⟩, .full 0 []]) :: (t3, true, .cells (AV.cells (.agg (frE f)))) :: L') (i, true, .cells [.map j, ov, I (p + costB held f)]) := .tail (.tail u)
  refine st_nil (st_fa (st_load1 s2 u2.mem rfl ?_))
  refine st_fa (st_load1 s2 (.tail _ (.head _)) rfl ?_)
  refine st_lookS (k := f.1) (s2.get (.tail _ (.tail _ e))) m ?_
  refine st_ext rfl (st_ext rfl ?_)
  refine st_new s2 fun t5 h3 s3 => ?_
  refine ⟨st_lookS (k := f.1) (s3.get (.tail _ (.tail _ (.tail _ e)))) m rfl, ?_⟩
  refine ⟨st_load1 s3 (.tail _ (.tail _ (.head _))) rfl rfl, ?_⟩
  refine ⟨st_load1 s3 (.tail _ u2.mem) rfl rfl, ?_⟩
  have fresh : ∀ (h : AHeap) (x : List AV), costB held f = 1 → St h0 M h ((t5, true, .cells x) :: (t4, true, AObj.cells [S ⟨#[]⟩, .full 0 []]) :: (t3, true, .cells (AV.cells (.agg (frE f)))) :: L) →
      (qNil (.ptr i 0) fun t29 => qFieldAddr 2 t29 fun t30 => qLoad1 t30 h fun t31 => qBin .add t31 (I 1) fun t32 => qNil (.ptr i 0) fun t33 => qFieldAddr 2 t33 fun t34 => qStore 1 t34 t32 h fun h6 => qFieldAddr 1 (.ptr t3 0) fun t36 => qLoad1 t36 h6 fun t37 =>
        C fn_line_Parse [t37] h6 fun t38 h7 => qExtract 0 t38 fun t39 => qExtract 1 t38 fun t40 => qFieldAddr 1 (.ptr t3 0) fun t41 => qLoad1 t41 h7 fun t42 => qBuild [(S ⟨#[]⟩), (.full 0 [])] [(0, 1, t42), (1, 1, t39)] fun t44 => qStore 2 (.ptr t4 0) t44 h7 fun h8 => qLoadA 2 (.ptr t4 0) h8 fun r9 => Q r9 h8) := fun h x hc s => by
    have e1 : p + costB held f = p + 1 := by rw [hc]
    rw [e1] at u u2
    refine st_nil (st_fa (st_load1 s (.tail _ u2.mem) rfl ?_))
    refine st_add (by omega) (st_nil (st_fa ?_))
    refine st_store (o := 0 + 2) s (.tail u2) rfl rfl rfl (nle rfl) fun h6 s6 => ?_
    refine st_fa (st_load1 s6 (.tail _ (.tail _ (.head _))) rfl ?_)
    refine lineParse_sp hF hI hA f.2 hf fun h7 f7 => ?_
    have s7 := s6.call f7
    refine st_ext rfl (st_ext rfl (st_fa (st_load1 s7 (.tail _ (.tail _ (.head _))) rfl ?_)))
    refine st_build rfl ?_
    refine st_store (o := 0) s7 (.tail .head) rfl rfl rfl (nle rfl) fun h8 s8 => ?_
    refine st_loadA s8 (.tail _ (.head _)) (nle rfl) ?_
    exact q h8 s8.drop1.drop1.drop1
  cases hl : lookK f.1 held with
  | none =>
    have hc : costB held f = 1 := by unfold costB; rw [hl, if_neg (by simp)]
    refine st_store (o := 0) s3 .head rfl rfl rfl (nle rfl) fun h4 s4 => ?_
    refine st_if (fun h => by cases h) (fun _ => ?_)
    exact fresh h4 _ hc s4
  | some t =>
    refine st_store (o := 0) s3 .head rfl rfl rfl (nle rfl) fun h4 s4 => ?_
    refine st_if (fun _ => ?_) (fun h => by cases h)
    refine st_fa (st_load1 s4 (.head _) (a := T t) rfl ?_)
    refine st_fa (st_load1 s4 (.tail _ (.tail _ (.head _))) (a := T f.2) rfl ?_)
    refine st_seq ?_
    refine st_if (fun hb => ?_) (fun hb => ?_) <;> simp only [za, zb, zc, zd, ze, zf, zg, zh, zi, u8i, zj, zk, zl] at hb
    · subst hb
      have hc : costB held f = 0 := by unfold costB; rw [hl, if_pos rfl]
      have e1 : p + costB held f = p := by omega
      rw [e1] at u u2
      refine st_loadA s4 (.head _) (nle rfl) ?_
      refine st_store (o := 0) s4 (.tail .head) rfl rfl rfl (nle rfl) fun h5 s5 => ?_
      refine st_loadA s5 (.tail _ (.head _)) (nle rfl) ?_
      refine q h5 ?_
      have s6 := s5.drop1.drop1.drop1
      rw [← u.same]; exact s6
    · have hc : costB held f = 1 := by unfold costB; rw [hl, if_neg (by simp [hb])]
      exact fresh h4 _ hc s4
theorem buildB_le (held : KL Str) : ∀ (l : List Fg) (st : KL Str × Int), st.2 ≤ (l.foldl (stepB1 held) st).2 ∧ (l.foldl (stepB1 held) st).2 ≤ st.2 + l.length
  | [], st => by simp
  | f :: l, st => by
    have := buildB_le held l (stepB1 held st f)
    have hc : 0 ≤ costB held f ∧ costB held f ≤ 1 := by unfold costB; split <;> omega
    rw [List.foldl_cons, List.length_cons]
    have e : (stepB1 held st f).2 = st.2 + costB held f := rfl
    omega
theorem build_sp (hF : FieldsOk) (hI : IndexOk) (hA : AtoiOk) (hL : LdexpOk) {frags : List Fg} {syms : List Sy} {fv sv : AV} (rf : ∀ h' L1, St h0 M h' (L1 ++ R) → Row frE 2 h' fv frags) (rs : ∀ h' L1, St h0 M h' (L1 ++ R) → Row syE 2 h' sv syms) (hw : Few frags syms) (hp : 0 ≤ b.parsed ∧ b.parsed < 1000000000) (s : BuS h0 M h i b R)
    (kb : madeD frags syms ≠ [] → ∀ h', BuS h0 M h' i (buildB b frags) R → Q (.tup [.full 0 [], .snap (madeD frags syms).length ((madeD frags syms).flatMap dE)]) h')
    (kg : madeD frags syms = [] → ∀ h', BuS h0 M h' i (buildB b frags) R → Q (.tup [.snap (imageM frags syms).length ((imageM frags syms).flatMap bE), .full 0 []]) h') : C fn_incr_Builder_Build [.ptr i 0, fv, sv] h Q := by
  obtain ⟨j, o, ov, E, m, a, s⟩ := s
  refine incr_Builder_Build_ok _ _ _ _ _ ?_
  unfold incr_Builder_Build
  refine st_makeMap s fun jm h1 s1 => ?_
  refine (rf h1 ((jm, true, .amap [] 0) :: (i, true, .cells [.map j, ov, I b.parsed]) :: (j, true, o) :: E) s1).len ?_
  have hnf := hw.nf
  refine st_loop (fun n vs h' => ∃ (q : Nat) (rv : AV) (E2 : Own) (om : AObj), vs = [rv, I (q : Nat)] ∧ n + q = frags.length ∧ MapS keptE ((frags.take q).foldl (stepB1 b.held) ([], b.parsed)).1 om ∧ AccE 1 rv ((frags.take q).map (·.1)).length (((frags.take q).map (·.1)).flatMap nmE) E2 ∧
    St h0 M h' (E2 ++ ((jm, true, om) :: (i, true, .cells [.map j, ov, I ((frags.take q).foldl (stepB1 b.held) ([], b.parsed)).2]) :: (j, true, o) :: (E ++ R)))) frags.length ⟨0, .full 0 [], [], _, rfl, by omega, .nil _, .none 1, s1⟩ ?_
  rintro n vs h2 ⟨q, rv, E2, om, rfl, hn, m2, a2, s2⟩
  unfold incr_Builder_Build_l10
  (repeat refine st_lss ?_)
  have rfq : ∀ h' L1 x, St h0 M h' (L1 ++ ((jm, true, om) :: (i, true, .cells x) :: (j, true, o) :: (E ++ R))) → Row frE 2 h' fv frags := fun h' L1 x s => rf h' (L1 ++ ((jm, true, om) :: (i, true, .cells x) :: (j, true, o) :: E)) (by rw [List.append_assoc]; exact s)
  refine st_if (fun hq => ?_) (fun hq => ?_) <;> simp only [za, zb, zc, zd, ze, zf, zg, zh, zi, u8i, zj, zk, zl] at hq
  · have hq : q < frags.length := hq
    have hle := buildB_le b.held (frags.take q) ([], b.parsed)
    have hlt : ((frags.take q)).length ≤ 1000000 := by rw [List.length_take]; omega
    have ht := hw.texts _ (List.getElem_mem hq)
    refine (rfq h2 E2 _ s2).idx (fun _ => rfl) hq fun p t => ?_
    refine st_ploadAll t rfl ?_
    have hst : (frags.take (q + 1)).foldl (stepB1 b.held) ([], b.parsed) = stepB1 b.held ((frags.take q).foldl (stepB1 b.held) ([], b.parsed)) frags[q] := by
      rw [List.take_succ_eq_append_getElem hq, List.foldl_append]; rfl
    have hnm : (frags.take (q + 1)).map (·.1) = (frags.take q).map (·.1) ++ [frags[q].1] := by
      rw [List.take_succ_eq_append_getElem hq, List.map_append]; rfl
    have hlm : ((frags.take q).map (·.1)).length = q := by simp; omega
    generalize frags[q] = f at ht hst hnm ⊢
    generalize hfo : (frags.take q).foldl (stepB1 b.held) ([], b.parsed) = st at m2 s2 hst hle
    refine st_new s2 fun t12 h3 s3 => ?_
    refine st_store (o := 0) s3 .head rfl rfl rfl (nle rfl) fun h4 s4 => ?_
    refine st_fa (st_load1 s4 (.head _) (a := T f.1) rfl ?_)
    refine st_loadA s4 (.head _) (nle rfl) ?_
    have uu : ∀ (A : Own) {x y : Nat × Bool × AObj} {B : Own}, Sub (A ++ (x :: B)) x (A ++ (y :: B)) y := fun A => by
      intro x y B
      induction A with
      | nil => exact .head
      | cons c A ih => exact .tail ih
    have u4 : ∀ y : AObj, Sub ((t12, true, AObj.cells (frE f)) :: (E2 ++ ((jm, true, om) :: (i, true, .cells [.map j, ov, I st.2]) :: (j, true, o) :: (E ++ R)))) (i, true, .cells [.map j, ov, I st.2]) ((t12, true, AObj.cells (frE f)) :: (E2 ++ ((jm, true, om) :: (i, true, y) :: (j, true, o) :: (E ++ R)))) (i, true, y) := fun y => .tail (by
      have := uu (E2 ++ [(jm, true, om)]) (x := (i, true, .cells [.map j, ov, I st.2])) (y := (i, true, y)) (B := (j, true, o) :: (E ++ R))
      simpa using this)
    refine buParse_sp hF hI hA (by omega) (by omega) m s4 (List.mem_cons_of_mem _ (List.mem_append_right _ (.tail _ (.tail _ (.head _))))) (u4 _) a.v1.one fun h5 s5 => ?_
    refine ⟨st_load1 s5 (.head _) (a := T f.1) rfl rfl, ?_⟩
    have mj : ∀ {A B : Own} {c x : Nat × Bool × AObj}, x ∈ (c :: (A ++ (x :: B))) := fun {A B c x} => List.mem_cons_of_mem _ (List.mem_append_right _ (.head _))
    refine st_putS (k := f.1) (v := f.2) (enc := keptE) s5 mj m2 fun om3 m3 s6 => ?_
    have s6 := s6 (L' := (t12, true, AObj.cells (frE f)) :: (E2 ++ ((jm, true, om3) :: (i, true, .cells [.map j, ov, I (st.2 + costB b.held f)]) :: (j, true, o) :: (E ++ R)))) (.tail (uu E2))
    refine st_fa (st_load1 s6 (.head _) (a := T f.1) rfl (st_buildS rfl rfl ?_))
    have s7 := s6.perm (L' := E2 ++ ((t12, true, AObj.cells (frE f)) :: (jm, true, om3) :: (i, true, .cells [.map j, ov, I (st.2 + costB b.held f)]) :: (j, true, o) :: (E ++ R))) List.perm_middle.symm
    refine a2.app s7 (xs := nmE f.1) (m := 1) (Rd.full rfl) rfl (by omega) fun rv' E' h8 a8 s8 => ?_
    refine st_add (by omega) ?_
    refine ⟨n - 1, by omega, q + 1, rv', E', om3, rfl, by omega, ?_, ?_, ?_⟩
    · rw [hst]; exact m3
    · rw [hnm, List.length_append, List.flatMap_append]; simpa using a8
    · rw [hst]
      exact s8.sub ((List.sublist_cons_self _ _).append_left E')
  · have hq : q = frags.length := by omega
    subst hq
    rw [List.take_length] at m2 a2 s2
    have s2 := s2.perm (L' := (i, true, .cells [.map j, ov, I (frags.foldl (stepB1 b.held) ([], b.parsed)).2]) :: (jm, true, om) :: (j, true, o) :: (E2 ++ (E ++ R))) (by
      refine (List.perm_append_comm_assoc E2 [(jm, true, om), (i, true, AObj.cells [.map j, ov, I (frags.foldl (stepB1 b.held) ([], b.parsed)).2]), (j, true, o)] (E ++ R)).trans ?_
      exact List.Perm.swap _ _ _)
    refine st_nil (st_fa ?_)
    refine st_store (o := 0) s2 .head rfl rfl rfl (nle rfl) fun h3 s3 => ?_
    refine st_nil (st_fa ?_)
    refine st_storeV (o := 0 + 1) a2.v1 s3 .head (nle rfl) fun h4 s4 => ?_
    have s4 : St h0 M h4 ((i, true, .cells [.map jm, rv, I (frags.foldl (stepB1 b.held) ([], b.parsed)).2]) :: (jm, true, om) :: (E2 ++ R)) := s4.sub (by
      refine ((List.Sublist.refl _).cons_cons _).cons_cons _ |>.trans ?_
      refine List.Sublist.cons_cons _ (List.Sublist.cons_cons _ ?_)
      refine List.Sublist.cons _ ?_
      exact (List.sublist_append_right E R).append_left E2)
    have hb : BuS h0 M h4 i (buildB b frags) R := ⟨jm, om, rv, E2, m2, a2, s4⟩
    refine assemble_sp hF hI hA hL (rf h4 ((i, true, .cells [.map jm, rv, I (frags.foldl (stepB1 b.held) ([], b.parsed)).2]) :: (jm, true, om) :: E2) s4) (rs h4 ((i, true, .cells [.map jm, rv, I (frags.foldl (stepB1 b.held) ([], b.parsed)).2]) :: (jm, true, om) :: E2) s4) hw (fun hne h5 f5 => ?_) (fun hz h5 f5 => ?_)
    · refine st_ext rfl (st_ext rfl ?_)
      exact kb hne h5 ⟨jm, om, rv, E2, m2, a2, s4.call f5⟩
    · refine st_ext rfl (st_ext rfl ?_)
      exact kg hz h5 ⟨jm, om, rv, E2, m2, a2, s4.call f5⟩
end
end
end Go.Proofs.YtiddcelpooenfaaGreatDoor.AL

namespace Go.Proofs.YtiddcelpooenfaaGreatDoor.AL
noncomputable section
section
variable [Tabs]
variable {h : AHeap} {Q : QT} {K : AV → Prop}
end
end
end Go.Proofs.YtiddcelpooenfaaGreatDoor.AL
namespace Go.Proofs.YtiddcelpooenfaaGreatDoor.AL
noncomputable section
def okEB : Ex → Bool
  | .neg e => okEB e
  | .bin k a b => (Nat.ble 5 k && Nat.ble k 11) && (okEB a && okEB b)
  | _ => true
theorem okEB_ok : ∀ {e : Ex}, okEB e = true → okE e
  | .none, _ => trivial
  | .num _, _ => trivial
  | .name _, _ => trivial
  | .here, _ => trivial
  | .neg e, h => okEB_ok (e := e) h
  | .bin k a b, h => by
    simp only [okEB, Bool.and_eq_true] at h
    exact ⟨⟨Nat.le_of_ble_eq_true h.1.1, Nat.le_of_ble_eq_true h.1.2⟩, okEB_ok h.2.1, okEB_ok h.2.2⟩
def impB (a b : Bool) : Bool := match a with | true => b | false => true
theorem impB_ok {a b : Bool} (h : impB a b = true) (ha : a = true) : b = true := by subst ha; exact h
def wfSB (x : RS) : Bool :=
  impB (Nat.beq x.kind 1) (Nat.ble (x.op + 1) tbl.length && Nat.ble (flds (opKinds x.op)).length x.args.length) &&
  (impB (Nat.beq x.kind 2) (Nat.ble (x.op + 1) 3 && (Nat.ble (flds (opKinds (shortOp x.op))).length x.args.length && Nat.ble (flds (opKinds (greatOp x.op))).length x.args.length)) &&
  (impB (Nat.ble 3 x.kind) (impB (!Nat.beq x.kind 6) (!x.args.isEmpty)) &&
  (Nat.ble x.kind 9 && (Nat.ble x.args.length 999999999 && (Nat.ble x.text.length 999999999 &&
  x.args.all fun a => okEB a.e && (Nat.ble (sizeE a.e) 999999 && decide (a.reg < 1000)))))))
theorem wfSB_ok {x : RS} (h : wfSB x = true) : WfS x := by
  unfold wfSB at h
  simp only [Bool.and_eq_true] at h
  obtain ⟨h1, h2, h3, h4, h5, h6, h7⟩ := h
  refine ⟨fun hk => ?_, fun hk => ?_, fun hk hn => ?_, Nat.le_of_ble_eq_true h4, by have := Nat.le_of_ble_eq_true h5; omega, by have := Nat.le_of_ble_eq_true h6; omega, fun a ha => ?_⟩
  · have := impB_ok h1 (by rw [hk]; rfl)
    simp only [Bool.and_eq_true] at this
    exact ⟨Nat.le_of_ble_eq_true this.1, Nat.le_of_ble_eq_true this.2⟩
  · have := impB_ok h2 (by rw [hk]; rfl)
    simp only [Bool.and_eq_true] at this
    exact ⟨Nat.le_of_ble_eq_true this.1, Nat.le_of_ble_eq_true this.2.1, Nat.le_of_ble_eq_true this.2.2⟩
  · have := impB_ok (impB_ok h3 (Nat.ble_eq_true_of_le hk)) (by
      cases hb : Nat.beq x.kind 6 with
      | true => exact (hn (Nat.eq_of_beq_eq_true hb)).elim
      | false => rfl)
    intro he; rw [he] at this; cases this
  · have := List.all_eq_true.1 h7 a ha
    simp only [Bool.and_eq_true, decide_eq_true_eq] at this
    exact ⟨okEB_ok this.1, by have := Nat.le_of_ble_eq_true this.2.1; omega, this.2.2⟩
section
variable [Tabs]
def fewB (frags : List Fg) (syms : List Sy) : Bool :=
  Nat.ble frags.length 999 && (Nat.ble syms.length 999 && (Nat.ble (readE frags).length 99999 && (Nat.ble (readD frags).length 999999 && ((frags.all fun x => Nat.ble x.2.length 999999) && (readE frags).all fun e => wfSB e.x.2))))
theorem fewB_ok {frags : List Fg} {syms : List Sy} (h : fewB frags syms = true) : Few frags syms := by
  unfold fewB at h
  simp only [Bool.and_eq_true] at h
  obtain ⟨h1, h2, h3, h4, h5, h6⟩ := h
  refine ⟨by have := Nat.le_of_ble_eq_true h1; omega, by have := Nat.le_of_ble_eq_true h2; omega, by have := Nat.le_of_ble_eq_true h3; omega, by have := Nat.le_of_ble_eq_true h4; omega, fun x hx => ?_, fun e he => wfSB_ok (List.all_eq_true.1 h6 e he)⟩
  have := Nat.le_of_ble_eq_true (List.all_eq_true.1 h5 x hx); omega
variable {h : AHeap} {Q : QT} {K : AV → Prop}
end
end
end Go.Proofs.YtiddcelpooenfaaGreatDoor.AL
namespace Go.Proofs.YtiddcelpooenfaaGreatDoor.AL
noncomputable section
section
variable [Tabs]
def isyF : List Fg := [([97], [46, 98, 121, 116, 101, 32, 107]), ([99], [46, 115, 112, 97, 99, 101, 32, 107, 10, 46, 98, 121, 116, 101, 32, 49])]
def isyY (x : Nat) : List Sy := [([107], (x : Int))]
def isyImg (l : List Int) (x : Nat) : Bool := match l with
  | a :: r => decide (a = (x : Int)) && Nat.beq r.length (x + 1)
  | [] => false
def isyB (x : Nat) : Bool := fewB isyF (isyY x) && ((madeD isyF (isyY x)).isEmpty && isyImg (imageM isyF (isyY x)) x)
def isyAll (a n : Nat) : Bool := (List.range n).all fun i => isyB (a + i)
theorem isy_0 : isyAll 0 50 = true := by kernel_rfl
theorem isy_50 : isyAll 50 50 = true := by kernel_rfl
theorem isy_100 : isyAll 100 50 = true := by kernel_rfl
theorem isy_150 : isyAll 150 50 = true := by kernel_rfl
def isyb : BuM := ⟨[([97], [46, 98, 121, 116, 101, 32, 107]), ([99], [46, 115, 112, 97, 99, 101, 32, 107, 10, 46, 98, 121, 116, 101, 32, 49])], [[97], [99]], 2⟩
theorem isy_b0 : buildB ⟨[], [], 0⟩ isyF = isyb := by kernel_rfl
theorem isy_b1 : buildB isyb isyF = isyb := by kernel_rfl
end
end
end Go.Proofs.YtiddcelpooenfaaGreatDoor.AL
namespace Go.Proofs.YtiddcelpooenfaaGreatDoor.AL
noncomputable section
structure WkSo (w : WkM) : Prop where
  f : SoK w.f
  s : SoK w.s
theorem WkSo.nil : WkSo ⟨[], []⟩ := ⟨List.Pairwise.nil, List.Pairwise.nil⟩
theorem WkOk.nil : WkOk ⟨[], []⟩ := ⟨by simp, by simp, by simp, by simp, by simp, by simp⟩
section
variable [Tabs]
variable {h0 h : AHeap} {M : List Nat} {L R R' : Own} {K : AV → Prop} {KH : QT} {KS' : AHeap → Prop} {Q : QT} {i : Nat} {w : WkM}
theorem WkS.so (s : WkS h0 M h i w R) : WkSo w := by
  obtain ⟨jf, js, xf, xs, ⟨_, _, _, mf⟩, ⟨_, _, _, ms⟩, s⟩ := s
  exact ⟨mf.so, ms.so⟩
theorem WkS.rest (s : WkS h0 M h i w R) : St h0 M h R := by
  obtain ⟨jf, js, xf, xs, mf, ms, s⟩ := s
  exact s.drop1.drop1.drop1
theorem WkS.after (s : WkS h0 M h i w R) {h' : AHeap} (f : Fr [] h h') : WkS h0 M h' i w R := by
  obtain ⟨jf, js, xf, xs, mf, ms, s⟩ := s
  exact ⟨jf, js, xf, xs, mf, ms, s.after f⟩
theorem st_ptrNo {p o : Nat} (k : K (B false)) : qBinP .eql (.ptr p o) (.lit (.pointer none)) K := ⟨k⟩
theorem mod_cases {a n : Int} (ha : -9223372036854775808 ≤ a ∧ a ≤ 9223372036854775807) (hn : 0 < n) : (a.tmod n = a % n ∧ 0 ≤ a.tmod n) ∨ (a.tmod n = a % n - n ∧ a.tmod n < 0) := by
  have h0 := Int.emod_nonneg a (show n ≠ 0 by omega)
  have h4 := Int.emod_lt_of_pos a hn
  rw [Int.tmod_eq_emod]
  have hab : (n.natAbs : Int) = n := by omega
  split
  · exact .inl ⟨by omega, by omega⟩
  · right; rw [hab]; exact ⟨rfl, by omega⟩
end
end
end Go.Proofs.YtiddcelpooenfaaGreatDoor.AL
namespace Go.Proofs.YtiddcelpooenfaaGreatDoor.AL
noncomputable section
section
variable [Tabs]
variable {h0 h : AHeap} {M : List Nat} {L R : Own} {K : AV → Prop} {Q : QT}
theorem wrap_in (n : Int) : -9223372036854775808 ≤ IntKind.i64.wrap n ∧ IntKind.i64.wrap n ≤ 9223372036854775807 := by
  rw [IntKind.wrap_i64]; omega
theorem law8_within_sp {a n : Int} (hn : 0 < n) (hn2 : n ≤ 1000000000000000000) (ha : -9223372036854775808 ≤ a ∧ a ≤ 9223372036854775807) (k : Q (I (a % n)) h) : C fn_law8_within [I a, I n] h Q := by
  refine law8_within_ok _ _ _ _ ?_
  unfold law8_within
  refine st_rem (by omega) ?_
  have h0 := Int.emod_nonneg a (show n ≠ 0 by omega)
  have h4 := Int.emod_lt_of_pos a hn
  have h3 := mod_cases ha hn
  refine st_lss ?_
  unfold law8_within_j0
  refine st_if (fun hb => ?_) (fun hb => ?_) <;> simp only [za, zb, zc, zd, ze, zf, zg, zh, zi, u8i, zj, zk, zl] at hb
  · refine st_add (by omega) ?_
    rw [show a.tmod n + n = a % n by omega]
    exact k
  · rw [← show a.tmod n = a % n by omega] at k
    exact k
theorem isy_at {x : Nat} (hx : x < 200) : isyB x = true := by
  have go : ∀ {a n : Nat}, isyAll a n = true → a ≤ x → x < a + n → isyB x = true := fun {a n} h h1 h2 => by
    have := List.all_eq_true.1 h (x - a) (List.mem_range.2 (by omega))
    rwa [show a + (x - a) = x by omega] at this
  by_cases a : x < 50
  · exact go isy_0 (by omega) (by omega)
  · by_cases b : x < 100
    · exact go isy_50 (by omega) (by omega)
    · by_cases c : x < 150
      · exact go isy_100 (by omega) (by omega)
      · exact go isy_150 (by omega) (by omega)
def Known8 : Prop := ∀ (h : AHeap) (Q : QT), Q (B true) h → C fn_law8_known [] h Q
theorem isy_law (hk : Known8) (hF : FieldsOk) (hI : IndexOk) (hA : AtoiOk) (hL : LdexpOk) {v w n : Int} (hn : -9223372036854775808 ≤ n ∧ n ≤ 9223372036854775807) (q : ∀ h', Q (B true) h') : C fn_law8_IncrSyms [I v, I w, I n] h Q := by
  refine law8_IncrSyms_ok _ _ _ _ _ ?_
  unfold law8_IncrSyms
  refine hk _ _ ?_
  refine st_not (st_if (fun h => by cases h) (fun _ => ?_))
  refine buNew_sp (St.start h) fun i h1 s1 => ?_
  refine st_ptrNo (st_if (fun h => by cases h) (fun _ => ?_))
  refine st_build rfl (st_build rfl (st_buildS rfl rfl ?_))
  obtain ⟨m, hm⟩ := Int.eq_ofNat_of_zero_le (Int.emod_nonneg n (show (5 : Int) ≠ 0 by decide))
  have hm2 : m < 5 := by have := Int.emod_lt_of_pos n (show (0 : Int) < 5 by decide); omega
  refine st_loop (fun f vs h' => ∃ (j : Nat) (b : BuM), vs = [B false, I (j : Nat)] ∧ f + j = 6 ∧ (b = ⟨[], [], 0⟩ ∨ b = isyb) ∧ BuS h [] h' i b []) 6 ⟨0, _, rfl, rfl, .inl rfl, s1⟩ ?_
  rintro f vs h2 ⟨j, b, rfl, hf, hb, s2⟩
  unfold law8_IncrSyms_l7
  refine law8_within_sp (by decide) (by decide) hn ?_
  rw [hm]
  refine st_leq ?_
  refine st_if (fun b1 => ?_) (fun b1 => ?_) <;> simp only [za, zb, zc, zd, ze, zf, zg, zh, zi, u8i, zj, zk, zl] at b1
  · refine st_mulw (st_addw ?_)
    have hwr := wrap_in (v + IntKind.i64.wrap ((j : Nat) * w))
    generalize IntKind.i64.wrap (v + IntKind.i64.wrap ((j : Nat) * w)) = z at hwr ⊢
    refine law8_within_sp (by decide) (by decide) hwr ?_
    obtain ⟨x, hx⟩ := Int.eq_ofNat_of_zero_le (Int.emod_nonneg z (show (200 : Int) ≠ 0 by decide))
    have hx2 : x < 200 := by have := Int.emod_lt_of_pos z (show (0 : Int) < 200 by decide); omega
    rw [hx]
    refine st_build rfl (st_buildS rfl rfl ?_)
    have ok := isy_at hx2
    unfold isyB at ok
    simp only [Bool.and_eq_true, List.isEmpty_iff] at ok
    obtain ⟨o1, o2, o3⟩ := ok
    have bp : buildB b isyF = isyb := by rcases hb with rfl | rfl; exact isy_b0; exact isy_b1
    have hp : 0 ≤ b.parsed ∧ b.parsed < 1000000000 := by rcases hb with rfl | rfl <;> exact ⟨by decide, by decide⟩
    refine build_sp hF hI hA hL (frags := isyF) (syms := isyY x) (fun h' _ _ => Row.full (h := h') (enc := frE) (fun _ => rfl) isyF) (fun h' _ _ => Row.full (h := h') (enc := syE) (fun _ => rfl) (isyY x)) (fewB_ok o1) hp s2 (fun hne => (hne o2).elim) fun _ h3 s3 => ?_
    rw [bp] at s3
    refine st_ext rfl (st_ext rfl (st_lenL2 (st_neq (st_if (fun h => by simp at h) (fun _ => ?_)))))
    generalize imageM isyF (isyY x) = img at o3 ⊢
    cases img with
    | nil => cases o3
    | cons a r =>
      simp only [isyImg, Bool.and_eq_true, decide_eq_true_eq] at o3
      obtain ⟨rfl, o4⟩ := o3
      have o4 := Nat.eq_of_beq_eq_true o4
      have Rr : Row bE 1 h3 (.snap ((x : Int) :: r).length (((x : Int) :: r).flatMap bE)) ((x : Int) :: r) := Row.snap (enc := bE) (sz := 1) (fun _ => rfl) _
      refine Rr.len (st_add (by omega) (st_neq (st_if (fun h => by simp at h; omega) (fun _ => ?_))))
      refine Rr.idx (fun _ => rfl) (j := 0) (by simp) fun p t => ?_
      refine st_pload1 t (st_conv (st_neq ?_))
      have hw : IntKind.u8.wrap (x : Int) = (x : Int) := IntWalk.u8_in _ (by omega)
      rw [hw]
      refine st_if (fun h => by simp at h) (fun _ => ?_)
      obtain ⟨j1, o, ov, E, m1, a1, s4⟩ := s3
      refine incr_Builder_Parsed_ok _ _ _ ?_
      unfold incr_Builder_Parsed
      refine st_nil (st_fa (st_load1 s4 (.head _) (a := I 2) rfl ?_))
      refine st_neq (st_if (fun h => by simp at h) (fun _ => ?_))
      refine st_add (by omega) ?_
      exact ⟨f - 1, by omega, j + 1, isyb, rfl, by omega, .inr rfl, ⟨j1, o, ov, E, m1, a1, s4⟩⟩
  · exact q _
end
end
end Go.Proofs.YtiddcelpooenfaaGreatDoor.AL
namespace Go.Proofs.YtiddcelpooenfaaGreatDoor.AL
noncomputable section
variable [Tabs5]
theorem isy_card_law {v w n : Int} (w0 : -9223372036854775808 ≤ v ∧ v ≤ 9223372036854775807) (w1 : -9223372036854775808 ≤ w ∧ w ≤ 9223372036854775807) (w2 : -9223372036854775808 ≤ n ∧ n ≤ 9223372036854775807) {h : AHeap} {Q : QT} (k : ∀ h', Q (B true) h') : C fn_law8_IncrSyms [I v, I w, I n] h Q := isy_law (fun h Q q => known8 h Q q) fieldsOk indexOk atoiOk ldexpOk w2 k
end
end Go.Proofs.YtiddcelpooenfaaGreatDoor.AL
