import Derived.Test.YtmocchnodigmlaaGreatDoorAL8
import Derived.MapKept
set_option linter.all false
set_option autoImplicit true
set_option relaxedAutoImplicit true
set_option linter.unusedVariables false
/-! Maps. -/
namespace Go.Proofs.YtmocchnodigmlaaGreatDoor.AL
variable [Tabs]
open Go.MapKept
section
variable {P : Program} {G : Gh} {h : AHeap} {w : World}

abbrev MEnts := List (Value × Nat × AV)
/-- A key that may be: of the map's kind. -/
def kOk : TypeDesc → Value → Bool
  | .string, .string _ => true
  | .int k, .int j _ => decide (j = k)
  | _, _ => false
def keq : Value → Value → Bool
  | .string a, .string b => a == b
  | .int _ a, .int _ b => a == b
  | _, _ => false
def mfind (k : Value) : MEnts → Nat → Option (Nat × Nat × AV)
  | [], _ => none
  | (k', n, v) :: r, i => if keq k k' = true then some (i, n, v) else mfind k r (i + 1)
def mput (k : Value) (v : AV) (clock : Nat) (es : MEnts) : AObj :=
  match mfind k es 0 with
  | some (i, n, _) => .amap (es.set i (k, n, v)) clock
  | none => .amap (es ++ [(k, clock, v)]) (clock + 1)

theorem kOk_isKey {d : TypeDesc} {k : Value} (h : kOk d k = true) : IsKey d k := by
  cases d <;> cases k <;> simp_all [kOk, IsKey]
theorem kOk_one {d : TypeDesc} {k : Value} (h : kOk d k = true) : k.oneCell' = true := by
  cases d <;> cases k <;> simp_all [kOk, Value.oneCell']
theorem keq_same {d : TypeDesc} {a b : Value} (ha : kOk d a = true) (hb : kOk d b = true) : Instr.sameNow d a b = some (keq a b) := by
  cases d <;> cases a <;> cases b <;> simp_all [kOk, Instr.sameNow, keq]
theorem keq_eq {d : TypeDesc} {a b : Value} (ha : kOk d a = true) (hb : kOk d b = true) (h : keq a b = true) : a = b := by
  obtain ⟨r, h1, h2⟩ := sameNow_of_keys (kOk_isKey ha) (kOk_isKey hb)
  rw [keq_same ha hb] at h1
  cases h1
  exact h2.1 h

theorem find_ok {d : TypeDesc} {k : Value} (hk : kOk d k = true) : ∀ (es : MEnts) (l : List MapEntry) (i : Nat), RepE G es l → es.all (fun e => kOk d e.1) = true →
    match mfind k es i with
    | none => Instr.findNow d k l i = some none
    | some (j, n, a) => ∃ e, Instr.findNow d k l i = some (some (j, e.val)) ∧ i ≤ j ∧ l[j - i]? = some e ∧ e.born = n ∧ e.key = k ∧ Rep G a e.val ∧ es[j - i]? = some (k, n, a)
  | [], l, i, r, _ => by simp only [RepE] at r; subst r; simp [mfind, Instr.findNow]
  | (k', n, a) :: es, l, i, r, hf => by
    simp only [RepE] at r
    obtain ⟨e, rest, rfl, h1, h2, h3, h4⟩ := r
    simp only [List.all_cons, Bool.and_eq_true] at hf
    have hs := keq_same hk hf.1
    simp only [mfind]
    by_cases hq : keq k k' = true
    · rw [if_pos hq]
      have := keq_eq hk hf.1 hq
      subst this
      rw [hq] at hs
      exact ⟨e, by simp only [Instr.findNow, h1, hs], Nat.le_refl _, by simp, h2, h1, h3, by simp⟩
    · rw [if_neg hq]
      rw [show keq k k' = false by simpa using hq] at hs
      have ih := find_ok hk es rest (i + 1) h4 hf.2
      have hstep : Instr.findNow d k (e :: rest) i = Instr.findNow d k rest (i + 1) := by simp only [Instr.findNow, h1, hs]
      rw [hstep]
      cases hm : mfind k es (i + 1) with
      | none => rw [hm] at ih; exact ih
      | some p =>
        obtain ⟨j, n', a'⟩ := p
        rw [hm] at ih
        obtain ⟨e', q1, q2, q3, q4, q5, q6, q7⟩ := ih
        refine ⟨e', q1, by omega, ?_, q4, q5, q6, ?_⟩
        · rw [show j - i = (j - (i + 1)) + 1 by omega]; simpa using q3
        · rw [show j - i = (j - (i + 1)) + 1 by omega]; simpa using q7

theorem RepE.at {G : Gh} : ∀ {es : MEnts} {l : List MapEntry}, RepE G es l → ∀ (j : Nat) (k : Value) (n : Nat) (a : AV), es[j]? = some (k, n, a) → ∃ e, l[j]? = some e ∧ e.key = k ∧ e.born = n ∧ Rep G a e.val
  | [], l, h, j, k, n, a, e => by simp at e
  | (k', n', a') :: es, l, h, j, k, n, a, e => by
    simp only [RepE] at h
    obtain ⟨x, r, rfl, h1, h2, h3, h4⟩ := h
    cases j with
    | zero => simp at e; obtain ⟨rfl, rfl, rfl⟩ := e; exact ⟨x, by simp, h1, h2, h3⟩
    | succ j => simpa using RepE.at h4 j k n a (by simpa using e)
theorem repE_of_at {G : Gh} : ∀ {es : MEnts} {l : List MapEntry}, l.length = es.length → (∀ (j : Nat) (k : Value) (n : Nat) (a : AV), es[j]? = some (k, n, a) → ∃ e, l[j]? = some e ∧ e.key = k ∧ e.born = n ∧ Rep G a e.val) → RepE G es l
  | [], l, hl, _ => by simp only [RepE]; simpa using hl
  | (k, n, a) :: es, [], hl, _ => by simp at hl
  | (k, n, a) :: es, x :: l, hl, h => by
    simp only [RepE]
    obtain ⟨e, h1, h2, h3, h4⟩ := h 0 k n a (by simp)
    simp at h1; subst h1
    exact ⟨x, l, rfl, h2, h3, h4, repE_of_at (by simpa using hl) fun j k n a e => by simpa using h (j + 1) k n a (by simpa using e)⟩
theorem RepE.append {G : Gh} {es fs : MEnts} {l m : List MapEntry} (h : RepE G es l) (k : RepE G fs m) : RepE G (es ++ fs) (l ++ m) :=
  repE_of_at (by simp [h.length, k.length]) fun j key n a e => by
    by_cases hj : j < es.length
    · rw [List.getElem?_append_left hj] at e
      rw [List.getElem?_append_left (by rw [h.length]; exact hj)]
      exact h.at _ _ _ _ e
    · rw [List.getElem?_append_right (by omega)] at e
      rw [List.getElem?_append_right (by rw [h.length]; omega), h.length]
      exact k.at _ _ _ _ e
theorem RepE.eraseIdx {G : Gh} {es : MEnts} {l : List MapEntry} (h : RepE G es l) (i : Nat) : RepE G (es.eraseIdx i) (l.eraseIdx i) :=
  repE_of_at (by rw [List.length_eraseIdx, List.length_eraseIdx, h.length]) fun j key n a e => by
    rw [List.getElem?_eraseIdx] at e ⊢
    split at e
    · rename_i hj; rw [if_pos hj]; exact h.at _ _ _ _ e
    · rename_i hj; rw [if_neg hj]; exact h.at _ _ _ _ e
theorem RepE.set {G : Gh} {es : MEnts} {arr : Array MapEntry} (h : RepE G es arr.toList) (i : Nat) (k : Value) (n : Nat) (a : AV) (f : MapEntry → MapEntry) (hf : ∀ e, arr[i]? = some e → (f e).key = k ∧ (f e).born = n ∧ Rep G a (f e).val) : RepE G (es.set i (k, n, a)) (arr.modify i f).toList :=
  repE_of_at (by simp [← h.length]) fun j key m b e => by
    rw [Array.getElem?_toList, Array.getElem?_modify]
    rw [List.getElem?_set] at e
    by_cases hij : i = j
    · subst hij
      simp only [if_true] at e ⊢
      split at e
      · rename_i hlt
        have hl := h.length
        obtain ⟨x, hx⟩ : ∃ x, arr[i]? = some x := ⟨arr[i]'(by simp at hl; omega), by simp⟩
        cases e
        obtain ⟨q1, q2, q3⟩ := hf x hx
        exact ⟨f x, by simp [hx], q1, q2, q3⟩
      · cases e
    · rw [if_neg hij] at e
      simp only [if_neg hij]
      obtain ⟨x, h1, h2⟩ := h.at _ _ _ _ e
      exact ⟨x, by simpa using h1, h2⟩

theorem objAt_map (s : Sim G h w) {i : Nat} {es : MEnts} {clock : Nat} (hi : h[i]? = some (.amap es clock)) : ∃ b arr, G.loc i = some (b, 0) ∧ w.heap[b]? = some (.map arr clock) ∧ RepE G es arr.toList := s.obj i _ hi

/-! ### lookup -/
def pLookup (d : TypeDesc) (ok : Bool) (z x key : AV) (h : AHeap) (K : AV → Prop) : Prop :=
  match key with
  | .lit k => match x with
    | .lit (.map none) => if kOk d k = true then K (if ok then .tup [z, B false] else z) else False
    | .map i => match h[i]? with
      | some (.amap es _) => if (kOk d k && es.all fun e => kOk d e.1) = true then (match mfind k es 0 with
        | some (_, _, v) => K (if ok then .tup [v, B true] else v)
        | none => K (if ok then .tup [z, B false] else z)) else False
      | _ => False
    | _ => False
  | _ => False

theorem run_zeroValue {t : TypeId} {i : TypeInfo} {z : Value} (hi : P.info? t = some i) (hz : i.zero = some z) : (zeroValue t).run P w = .ok z w := by
  simp only [zeroValue, typeInfo, Sem.run_bind, run_program, Result.andThen_ok, hi, Sem.run_pure, hz]

theorem pLookup_ok (s : Sim G h w) {t kt et : TypeId} {d : TypeDesc} {i : TypeInfo} {z : Value} {ok : Bool} (ht : P.underlying t = some (.map kt et)) (hd : P.underlying kt = some d) (hi : P.info? et = some i) (hz : i.zero = some z) (hzo : okV z = true)
    {x key : AV} {xv kv : Value} (hx : Rep G x xv) (hk : Rep G key kv) {K : AV → Prop} (k : pLookup d ok (ofV z) x key h K) : Yl P G w (Instr.lookup t xv kv ok) K := by
  have hzr := run_zeroValue (P := P) (w := w) hi hz
  have pair : ∀ {a : AV} {v : Value} (b : Bool), Rep G a v → Rep G (if ok then .tup [a, B b] else a) (if ok then .tuple #[v, .bool b] else v) := fun b r => by
    cases ok
    · exact r
    · simp only [if_true, Rep, RepL]
      exact ⟨_, rfl, _, _, rfl, r, _, _, rfl, ⟨rfl, rfl⟩, rfl⟩
  unfold pLookup at k
  split at k
  · rename_i kk
    simp only [Rep] at hk
    obtain ⟨rfl, _⟩ := hk
    split at k
    · split at k
      · rename_i hkk
        simp only [Rep] at hx
        obtain ⟨rfl, _⟩ := hx
        refine ⟨_, _, ?_, pair false (rep_ofV G z hzo), k⟩
        simp only [Instr.lookup, Sem.run_bind, run_underlying ht, Result.andThen_ok, Sem.run_pure, run_checkKey hd (kOk_isKey hkk), run_findKey hd (show Instr.findNow d kv [] 0 = some none from rfl), hzr]
      · exact k.elim
    · rename_i j
      split at k
      · rename_i es clock hes
        split at k
        · rename_i hall
          simp only [Bool.and_eq_true] at hall
          simp only [Rep] at hx
          obtain ⟨b, h1, rfl⟩ := hx
          obtain ⟨b', arr, e1, e2, e3⟩ := objAt_map s hes
          rw [h1] at e1; cases e1
          have hf := find_ok hall.1 es arr.toList 0 e3 hall.2
          split at k
          · rename_i q n v hm
            simp only [hm] at hf
            obtain ⟨e, q1, _, q3, q4, q5, q6, _⟩ := hf
            refine ⟨_, _, ?_, pair true q6, k⟩
            simp only [Instr.lookup, Sem.run_bind, run_underlying ht, Result.andThen_ok, Sem.run_pure, run_getObj_map e2, run_checkKey hd (kOk_isKey hall.1), run_findKey hd q1]
          · rename_i hm
            simp only [hm] at hf
            refine ⟨_, _, ?_, pair false (rep_ofV G z hzo), k⟩
            simp only [Instr.lookup, Sem.run_bind, run_underlying ht, Result.andThen_ok, Sem.run_pure, run_getObj_map e2, run_checkKey hd (kOk_isKey hall.1), run_findKey hd hf, hzr]
        · exact k.elim
      · exact k.elim
    · exact k.elim
  · exact k.elim

/-! ### What turns a map -/
theorem map_turn (s : Sim G h w) {i : Nat} {es es' : MEnts} {clock clock' : Nat} (hi : h[i]? = some (.amap es clock)) {b : Nat} (hl : G.loc i = some (b, 0)) (arr' : Array MapEntry) (hr : RepE G es' arr'.toList) :
    Sim G (h.set i (.amap es' clock')) { w with heap := w.heap.setIfInBounds b (.map arr' clock') } ∧ Evo G h w G (h.set i (.amap es' clock')) { w with heap := w.heap.setIfInBounds b (.map arr' clock') } := by
  obtain ⟨b', arr, e1, e2, e3⟩ := objAt_map s hi
  rw [hl] at e1; cases e1
  exact sim_turn s hi rfl hl rfl ⟨b, arr', hl, putBlk_eq w b _ (Array.getElem?_eq_some_iff.1 e2).1, hr⟩

def eMapUpdate (d : TypeDesc) (x key v : AV) (h : AHeap) (K : AHeap → Prop) : Prop :=
  match key, x with
  | .lit k, .map i => (match h[i]? with
    | some (.amap es clock) => if (kOk d k && es.all fun e => kOk d e.1) = true then K (h.set i (mput k v clock es)) else False
    | _ => False)
  | _, _ => False

theorem repE_one {k : Value} {n : Nat} {a : AV} {v : Value} (r : Rep G a v) : RepE G [(k, n, a)] [{ key := k, val := v, born := n }] := by
  simp only [RepE]; exact ⟨_, _, rfl, rfl, rfl, r, rfl⟩

theorem eMapUpdate_ok (s : Sim G h w) {t kt et : TypeId} {d : TypeDesc} (ht : P.underlying t = some (.map kt et)) (hd : P.underlying kt = some d) {x key v : AV} {xv kv vv : Value} (hx : Rep G x xv) (hk : Rep G key kv) (hv : Rep G v vv) {K : AHeap → Prop} (k : eMapUpdate d x key v h K) :
    ∃ h' G' w', (Instr.mapUpdate t xv kv vv).run P w = .ok () w' ∧ K h' ∧ Sim G' h' w' ∧ Evo G h w G' h' w' := by
  unfold eMapUpdate at k
  split at k
  · rename_i kk i
    split at k
    · rename_i es clock hes
      split at k
      · rename_i hall
        simp only [Bool.and_eq_true] at hall
        simp only [Rep] at hx hk
        obtain ⟨rfl, _⟩ := hk
        obtain ⟨b, h1, rfl⟩ := hx
        obtain ⟨b', arr, e1, e2, e3⟩ := objAt_map s hes
        rw [h1] at e1; cases e1
        have hf := find_ok hall.1 es arr.toList 0 e3 hall.2
        have hkk := kOk_isKey hall.1
        unfold mput at k
        split at k
        · rename_i q n v0 hm
          simp only [hm] at hf
          obtain ⟨e, q1, _, q3, q4, q5, q6, _⟩ := hf
          have q3' : arr[q]? = some e := by simpa using q3
          obtain ⟨s', ev⟩ := map_turn (clock' := clock) s hes h1 (arr.modify q fun e => { e with key := kv, val := vv }) (e3.set q kv n v _ fun e' he' => by
            rw [q3'] at he'; cases he'; exact ⟨rfl, q4, hv⟩)
          refine ⟨_, _, _, ?_, k, s', ev⟩
          simp only [Instr.mapUpdate, Sem.run_bind, run_underlying ht, Result.andThen_ok, run_getObj_map e2, run_checkKey hd hkk, run_findKey hd q1, q3', Option.map_some, Option.getD_some, q5, run_keyThatStays hkk, run_setObj_map _ e2]
        · rename_i hm
          simp only [hm] at hf
          obtain ⟨s', ev⟩ := map_turn (clock' := clock + 1) (es' := es ++ [(kv, clock, v)]) s hes h1 (arr.push { key := kv, val := vv, born := clock }) (by rw [Array.toList_push]; exact e3.append (repE_one hv))
          refine ⟨_, _, _, ?_, k, s', ev⟩
          simp only [Instr.mapUpdate, Sem.run_bind, run_underlying ht, Result.andThen_ok, run_getObj_map e2, run_checkKey hd hkk, run_findKey hd hf, run_setObj_map _ e2]
      · exact k.elim
    · exact k.elim
  · exact k.elim

/-- An entry that is about to be turned: what it has, its number. -/
def eMapEntry (d : TypeDesc) (z x key : AV) (h : AHeap) (K : AV → AHeap → Prop) : Prop :=
  match key, x with
  | .lit k, .map i => (match h[i]? with
    | some (.amap es clock) => if (kOk d k && es.all fun e => kOk d e.1) = true then (match mfind k es 0 with
      | some (_, n, v) => K (.tup [v, I n]) h
      | none => K (.tup [z, I clock]) (h.set i (.amap (es ++ [(k, clock, z)]) (clock + 1)))) else False
    | _ => False)
  | _, _ => False

theorem list_set_self {α : Type} : ∀ {l : List α} {i : Nat} {a : α}, l[i]? = some a → l.set i a = l
  | [], i, a, h => by simp at h
  | x :: l, 0, a, h => by simp at h; simp [h]
  | x :: l, i + 1, a, h => by simp only [List.set_cons_succ]; rw [list_set_self (by simpa using h)]
theorem modify_self {arr : Array MapEntry} {q : Nat} {e : MapEntry} {f : MapEntry → MapEntry} (h : arr[q]? = some e) (hf : f e = e) : arr.modify q f = arr := by
  apply Array.ext_getElem?
  intro i
  rw [Array.getElem?_modify]
  split
  · rename_i hi; subst hi; simp [h, hf]
  · rfl

theorem eMapEntry_ok (s : Sim G h w) {t kt et : TypeId} {d : TypeDesc} {i : TypeInfo} {z : Value} (ht : P.underlying t = some (.map kt et)) (hd : P.underlying kt = some d) (hi : P.info? et = some i) (hz : i.zero = some z) (hzo : okV z = true)
    {x key : AV} {xv kv : Value} (hx : Rep G x xv) (hk : Rep G key kv) {K : AV → AHeap → Prop} (k : eMapEntry d (ofV z) x key h K) : Ye P G h w (Instr.mapEntry t xv kv) K := by
  have hzr := run_zeroValue (P := P) (w := w) hi hz
  unfold eMapEntry at k
  split at k
  · rename_i kk j
    split at k
    · rename_i es clock hes
      split at k
      · rename_i hall
        simp only [Bool.and_eq_true] at hall
        simp only [Rep] at hx hk
        obtain ⟨rfl, _⟩ := hk
        obtain ⟨b, h1, rfl⟩ := hx
        obtain ⟨b', arr, e1, e2, e3⟩ := objAt_map s hes
        rw [h1] at e1; cases e1
        have hf := find_ok hall.1 es arr.toList 0 e3 hall.2
        have hkk := kOk_isKey hall.1
        split at k
        · rename_i q n v0 hm
          simp only [hm] at hf
          obtain ⟨e, q1, _, q3, q4, q5, q6, _⟩ := hf
          have q3' : arr[q]? = some e := by simpa using q3
          have hse : (arr.modify q fun e => { e with key := kv }) = arr := modify_self q3' (by rw [← q5])
          refine ⟨_, .tuple #[e.val, .int .i64 n], h, G, w, ?_, ?_, k, s, Evo.refl _ _ _⟩
          · simp only [Instr.mapEntry, Sem.run_bind, run_underlying ht, Result.andThen_ok, run_getObj_map e2, run_checkKey hd hkk, run_findKey hd q1, q3', Option.map_some, Option.getD_some, q5, run_keyThatStays hkk, run_setObj_map _ e2, hse, Sem.run_pure]
            rw [show w.heap.setIfInBounds b (.map arr clock) = w.heap from by
              have := putBlk_self w b _ e2; exact congrArg World.heap this]
            simp [goInt, q4]
          · simp only [Rep, RepL]
            exact ⟨_, rfl, _, _, rfl, q6, _, _, rfl, ⟨rfl, rfl⟩, rfl⟩
        · rename_i hm
          simp only [hm] at hf
          obtain ⟨s', ev⟩ := map_turn (clock' := clock + 1) (es' := es ++ [(kv, clock, ofV z)]) s hes h1 (arr.push { key := kv, val := z, born := clock }) (by rw [Array.toList_push]; exact e3.append (repE_one (rep_ofV G z hzo)))
          refine ⟨_, .tuple #[z, .int .i64 clock], _, _, _, ?_, ?_, k, s', ev⟩
          · simp only [Instr.mapEntry, Sem.run_bind, run_underlying ht, Result.andThen_ok, run_getObj_map e2, run_checkKey hd hkk, run_findKey hd hf, hzr, run_setObj_map _ e2, Sem.run_pure]
            rfl
          · simp only [Rep, RepL]
            exact ⟨_, rfl, _, _, rfl, rep_ofV G z hzo, _, _, rfl, ⟨rfl, rfl⟩, rfl⟩
      · exact k.elim
    · exact k.elim
  · exact k.elim

def bornAt (n : Int) : MEnts → Nat → Option (Nat × Value × Nat)
  | [], _ => none
  | (k, b, _) :: r, i => if ((b : Int) == n) = true then some (i, k, b) else bornAt n r (i + 1)
def eEntryStore (x st v : AV) (h : AHeap) (K : AHeap → Prop) : Prop :=
  match st, x with
  | .lit (.int .i64 n), .map i => (match h[i]? with
    | some (.amap es clock) => (match bornAt n es 0 with
      | some (j, k, b) => K (h.set i (.amap (es.set j (k, b, v)) clock))
      | none => False)
    | _ => False)
  | _, _ => False
theorem bornAt_ok {n : Int} : ∀ {es : MEnts} {l : List MapEntry} {i : Nat}, RepE G es l → ∀ {j : Nat} {k : Value} {b : Nat}, bornAt n es i = some (j, k, b) →
    l.findIdx? (fun e => (e.born : Int) == n) = some (j - i) ∧ i ≤ j ∧ ∃ e, l[j - i]? = some e ∧ e.key = k ∧ e.born = b
  | [], l, i, r, j, k, b, h => by simp [bornAt] at h
  | (k', b', a) :: es, l, i, r, j, k, b, h => by
    simp only [RepE] at r
    obtain ⟨e, rest, rfl, h1, h2, h3, h4⟩ := r
    simp only [bornAt] at h
    by_cases hq : ((b' : Int) == n) = true
    · rw [if_pos hq] at h
      cases h
      rw [← h2] at hq
      exact ⟨by simp [List.findIdx?_cons, hq], Nat.le_refl _, e, by simp, h1, h2⟩
    · rw [if_neg hq] at h
      obtain ⟨q1, q2, e', q3, q4⟩ := bornAt_ok h4 h
      rw [← h2] at hq
      refine ⟨?_, by omega, e', ?_, q4⟩
      · rw [List.findIdx?_cons, if_neg hq, q1]
        simp; omega
      · rw [show j - i = (j - (i + 1)) + 1 by omega]; simpa using q3
theorem eEntryStore_ok (s : Sim G h w) {t : TypeId} {x st v : AV} {xv sv vv : Value} (hx : Rep G x xv) (hs : Rep G st sv) (hv : Rep G v vv) {K : AHeap → Prop} (k : eEntryStore x st v h K) :
    ∃ h' G' w', (Instr.entryStore t xv sv vv).run P w = .ok () w' ∧ K h' ∧ Sim G' h' w' ∧ Evo G h w G' h' w' := by
  unfold eEntryStore at k
  split at k
  · rename_i n i
    split at k
    · rename_i es clock hes
      split at k
      · rename_i j kk b0 hb0
        simp only [Rep] at hx hs
        obtain ⟨rfl, _⟩ := hs
        obtain ⟨b, h1, rfl⟩ := hx
        obtain ⟨b', arr, e1, e2, e3⟩ := objAt_map s hes
        rw [h1] at e1; cases e1
        obtain ⟨q1, _, e, q3, q4, q5⟩ := bornAt_ok e3 hb0
        have q3' : arr[j]? = some e := by simpa using q3
        have q1' : arr.findIdx? (fun e => (e.born : Int) == n) = some j := by
          
          clear e2 q3 q3' e3
          obtain ⟨l⟩ := arr
          simpa using q1
        obtain ⟨s', ev⟩ := map_turn (clock' := clock) s hes h1 (arr.modify j fun e => { e with val := vv }) (e3.set j kk b0 v _ fun e' he' => by
          rw [q3'] at he'; cases he'; exact ⟨q4, q5, hv⟩)
        refine ⟨_, _, _, ?_, k, s', ev⟩
        simp only [Instr.entryStore, Sem.run_bind, run_getObj_map e2, Result.andThen_ok, asInt, asIntOf, Sem.run_pure, q1', run_setObj_map _ e2]
      · exact k.elim
    · exact k.elim
  · exact k.elim

def eDelete (d : TypeDesc) (x key : AV) (h : AHeap) (K : AHeap → Prop) : Prop :=
  match key with
  | .lit k => match x with
    | .lit (.map none) => if kOk d k = true then K h else False
    | .map i => (match h[i]? with
      | some (.amap es clock) => if (kOk d k && es.all fun e => kOk d e.1) = true then (match mfind k es 0 with
        | some (j, _, _) => K (h.set i (.amap (es.eraseIdx j) clock))
        | none => K h) else False
      | _ => False)
    | _ => False
  | _ => False
theorem eDelete_ok (s : Sim G h w) {t kt et ty : TypeId} {d : TypeDesc} (ht : P.underlying t = some (.map kt et)) (hd : P.underlying kt = some d) {x key : AV} {xv kv : Value} (hx : Rep G x xv) (hk : Rep G key kv) {ts : Array TypeId} (hts : ts[0]? = some t) {K : AHeap → Prop} (k : eDelete d x key h K) :
    Ye P G h w (Builtin.delete_ ts ty #[xv, kv]) fun r h' => r = .tup [] ∧ K h' := by
  unfold eDelete at k
  split at k
  · rename_i kk
    simp only [Rep] at hk
    obtain ⟨rfl, _⟩ := hk
    split at k
    · split at k
      · rename_i hkk
        simp only [Rep] at hx
        obtain ⟨rfl, _⟩ := hx
        refine ⟨.tup [], .tuple #[], h, G, w, ?_, by simp [Rep, RepL], ⟨rfl, k⟩, s, Evo.refl _ _ _⟩
        simp [Builtin.delete_, hts, run_underlying ht, run_checkKey hd (kOk_isKey hkk)]
      · exact k.elim
    · rename_i i
      split at k
      · rename_i es clock hes
        split at k
        · rename_i hall
          simp only [Bool.and_eq_true] at hall
          simp only [Rep] at hx
          obtain ⟨b, h1, rfl⟩ := hx
          obtain ⟨b', arr, e1, e2, e3⟩ := objAt_map s hes
          rw [h1] at e1; cases e1
          have hf := find_ok hall.1 es arr.toList 0 e3 hall.2
          have hkk := kOk_isKey hall.1
          split at k
          · rename_i q n v0 hm
            simp only [hm] at hf
            obtain ⟨e, q1, _, q3, q4, q5, q6, _⟩ := hf
            have q3' : arr[q]? = some e := by simpa using q3
            have hlt : q < arr.size := (Array.getElem?_eq_some_iff.1 q3').1
            obtain ⟨s', ev⟩ := map_turn (clock' := clock) (es' := es.eraseIdx q) s hes h1 (arr.eraseIdxIfInBounds q) (by
              unfold Array.eraseIdxIfInBounds
              rw [dif_pos hlt]
              simp only [Array.toList_eraseIdx]
              exact e3.eraseIdx q)
            refine ⟨.tup [], .tuple #[], _, _, _, ?_, by simp [Rep, RepL], ⟨rfl, k⟩, s', ev⟩
            simp [Builtin.delete_, hts, run_underlying ht, run_getObj_map e2, run_checkKey hd hkk, run_findKey hd q1, run_setObj_map _ e2]
          · rename_i hm
            simp only [hm] at hf
            refine ⟨.tup [], .tuple #[], h, G, w, ?_, by simp [Rep, RepL], ⟨rfl, k⟩, s, Evo.refl _ _ _⟩
            simp [Builtin.delete_, hts, run_underlying ht, run_getObj_map e2, run_checkKey hd hkk, run_findKey hd hf, run_setObj_map _ e2]
            have := putBlk_self w b _ e2
            exact this
        · exact k.elim
      · exact k.elim
    · exact k.elim
  · exact k.elim

def eMakeMap (h : AHeap) (K : AV → AHeap → Prop) : Prop := K (.map h.length) (h ++ [.amap [] 0])
theorem eMakeMap_ok (s : Sim G h w) {t : TypeId} {K : AV → AHeap → Prop} (k : eMakeMap h K) : Ye P G h w (Instr.makeMap t none) K := by
  obtain ⟨s', ev⟩ := sim_push s (.map #[] 0) (.amap [] 0) 0 ⟨w.heap.size, #[], by simp [Gh.add], by show (w.heap.push _)[w.heap.size]? = _; simp, by simp [RepE]⟩
  refine ⟨_, .map (some w.heap.size), _, _, _, ?_, ?_, k, s', ev⟩
  · simp [Instr.makeMap]
  · simp only [Rep]
    exact ⟨_, by simp [Gh.add], rfl⟩

/-! ### Going through a text, a map -/
def eRangeS (x : AV) (h : AHeap) (K : AV → AHeap → Prop) : Prop :=
  match x with
  | .lit (.string s) => K (.ptr h.length 0) (h ++ [.siter s 0])
  | _ => False
theorem eRangeS_ok (s : Sim G h w) {t : TypeId} (ht : P.underlying t = some .string) {x : AV} {xv : Value} (hx : Rep G x xv) {K : AV → AHeap → Prop} (k : eRangeS x h K) : Ye P G h w (Instr.range t xv) K := by
  unfold eRangeS at k
  split at k
  · rename_i str
    simp only [Rep] at hx
    obtain ⟨rfl, _⟩ := hx
    obtain ⟨s', ev⟩ := sim_push s (.stringIter str 0) (.siter str 0) 0 ⟨w.heap.size, by simp [Gh.add], by show (w.heap.push _)[w.heap.size]? = _; simp⟩
    refine ⟨_, .pointer (some ⟨w.heap.size, 0, none⟩), _, _, _, ?_, ?_, k, s', ev⟩
    · simp [Instr.range, run_underlying ht]
    · simp only [Rep]
      exact ⟨_, 0, by simp [Gh.add], rfl⟩
  · exact k.elim
def eNextS (x : AV) (h : AHeap) (K : AV → AHeap → Prop) : Prop :=
  match x with
  | .ptr i 0 => (match h[i]? with
    | some (.siter s pos) => if pos < s.size then K (.tup [B true, I pos, .lit (.int .i32 (Utf8.decode s pos).1)]) (h.set i (.siter s (pos + (Utf8.decode s pos).2))) else K (.tup [B false]) h
    | _ => False)
  | _ => False
theorem eNextS_ok (s : Sim G h w) {t : TypeId} {x : AV} {xv : Value} (hx : Rep G x xv) {K : AV → AHeap → Prop} (k : eNextS x h K) : Ye P G h w (Instr.next xv true t) K := by
  unfold eNextS at k
  split at k
  · rename_i i
    split at k
    · rename_i str pos hes
      simp only [Rep] at hx
      obtain ⟨b, o, h1, rfl⟩ := hx
      obtain ⟨b', e1, e2⟩ := s.obj _ _ hes
      rw [h1] at e1; cases e1
      have hg : (getObj b).run P w = .ok (.stringIter str pos) w := by simp [getObj, Sem.run, e2]
      split at k
      · rename_i hlt
        obtain ⟨s', ev⟩ := sim_turn (ob := .stringIter str (pos + (Utf8.decode str pos).2)) (o' := .siter str (pos + (Utf8.decode str pos).2)) s hes rfl h1 rfl ⟨b, h1, putBlk_eq w b _ (Array.getElem?_eq_some_iff.1 e2).1⟩
        refine ⟨_, .tuple #[.bool true, goInt pos, .int .i32 (Utf8.decode str pos).1], _, _, _, ?_, ?_, k, s', ev⟩
        · simp only [Instr.next, Nat.add_zero, Sem.run_bind, hg, Result.andThen_ok, hlt, if_true]
          simp [setObj, Sem.run, e2, putBlk]
        · simp only [Rep, RepL]
          exact ⟨_, rfl, _, _, rfl, ⟨rfl, rfl⟩, _, _, rfl, ⟨rfl, rfl⟩, _, _, rfl, ⟨rfl, rfl⟩, rfl⟩
      · rename_i hlt
        refine ⟨_, .tuple #[.bool false], _, _, _, ?_, ?_, k, s, Evo.refl _ _ _⟩
        · simp only [Instr.next, Nat.add_zero, Sem.run_bind, hg, Result.andThen_ok, hlt, if_false, Sem.run_pure]
        · simp only [Rep, RepL]
          exact ⟨_, rfl, _, _, rfl, ⟨rfl, rfl⟩, rfl⟩
    · exact k.elim
  · exact k.elim
end
end Go.Proofs.YtmocchnodigmlaaGreatDoor.AL
