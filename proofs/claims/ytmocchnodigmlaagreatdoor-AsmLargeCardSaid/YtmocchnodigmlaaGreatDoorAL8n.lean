import Derived.Test.YtmocchnodigmlaaGreatDoorAL8m
set_option linter.all false
set_option autoImplicit true
set_option relaxedAutoImplicit true
set_option linter.unusedVariables false
/-! Going through a map. -/
namespace Go.Proofs.YtmocchnodigmlaaGreatDoor.AL
variable [Tabs]
open Go.MapKept
section
variable {P : Program} {G : Gh} {h : AHeap} {w : World}

def eRangeM (x : AV) (h : AHeap) (K : AV → AHeap → Prop) : Prop :=
  match x with
  | .lit (.map none) => K (.ptr h.length 0) (h ++ [.miter none 0 [] 0])
  | .map i => (match h[i]? with
    | some (.amap es clock) => K (.ptr h.length 0) (h ++ [.miter (some i) clock [] clock])
    | _ => False)
  | _ => False
theorem eRangeM_ok (s : Sim G h w) {t kt et : TypeId} (ht : P.underlying t = some (.map kt et)) {x : AV} {xv : Value} (hx : Rep G x xv) {K : AV → AHeap → Prop} (k : eRangeM x h K) : Ye P G h w (Instr.range t xv) K := by
  unfold eRangeM at k
  split at k
  · simp only [Rep] at hx
    obtain ⟨rfl, _⟩ := hx
    obtain ⟨s', ev⟩ := sim_push s (.mapIter none 0 #[] 0) (.miter none 0 [] 0) 0 ⟨w.heap.size, none, by simp [Gh.add], by show (w.heap.push _)[w.heap.size]? = _; simp, rfl⟩
    refine ⟨_, .pointer (some ⟨w.heap.size, 0, none⟩), _, _, _, ?_, ?_, k, s', ev⟩
    · simp [Instr.range, run_underlying ht]
    · simp only [Rep]
      exact ⟨_, 0, by simp [Gh.add], rfl⟩
  · rename_i i
    split at k
    · rename_i es clock hes
      simp only [Rep] at hx
      obtain ⟨b, h1, rfl⟩ := hx
      obtain ⟨b', arr, e1, e2, e3⟩ := objAt_map s hes
      rw [h1] at e1; cases e1
      have le := Gh.le_add s.fresh (w.heap.size, 0) 0
      obtain ⟨s', ev⟩ := sim_push s (.mapIter (some b) clock #[] clock) (.miter (some i) clock [] clock) 0 ⟨w.heap.size, some b, by simp [Gh.add], by show (w.heap.push _)[w.heap.size]? = _; simp, b, le.loc _ _ h1, rfl⟩
      refine ⟨_, .pointer (some ⟨w.heap.size, 0, none⟩), _, _, _, ?_, ?_, k, s', ev⟩
      · simp [Instr.range, run_underlying ht, run_getObj_map e2]
      · simp only [Rep]
        exact ⟨_, 0, by simp [Gh.add], rfl⟩
    · exact k.elim
  · exact k.elim

def eNextM (x : AV) (h : AHeap) (K : AV → AHeap → Prop) : Prop :=
  match x with
  | .ptr i 0 => (match h[i]? with
    | some (.miter none _ _ _) => K (.tup [B false]) h
    | some (.miter (some j) since seen last) => (match h[j]? with
      | some (.amap es clock) =>
        ((es.all fun e => e.1.oneCell') = true ∧ (!seen.isEmpty && !es.isEmpty && es.all fun e => decide (e.2.1 ≥ last)) = false) ∧
        ((∀ e ∈ es, e.2.1 ∈ seen ∨ since ≤ e.2.1) → K (.tup [B false]) h) ∧
        ∀ e ∈ es, e.2.1 ∉ seen → K (.tup [B true, .lit e.1, e.2.2]) (h.set i (.miter (some j) since (seen ++ [e.2.1]) clock))
      | _ => False)
    | _ => False)
  | _ => False

theorem repE_mem {es : MEnts} {l : List MapEntry} (r : RepE G es l) {e : MapEntry} (he : e ∈ l) : ∃ a, (e.key, e.born, a) ∈ es ∧ Rep G a e.val := by
  obtain ⟨j, hj⟩ := List.mem_iff_getElem?.1 he
  have hlt : j < es.length := by rw [← r.length]; exact (List.getElem?_eq_some_iff.1 hj).1
  obtain ⟨e', q1, q2, q3, q4⟩ := r.at j es[j].1 es[j].2.1 es[j].2.2 (List.getElem?_eq_getElem hlt)
  rw [hj] at q1; cases q1
  exact ⟨es[j].2.2, by rw [q2, q3]; exact List.getElem_mem hlt, q4⟩
theorem repE_all {es : MEnts} {l : List MapEntry} (r : RepE G es l) (f : Nat → Bool) : l.all (fun e => f e.born) = es.all (fun e => f e.2.1) := by
  induction es generalizing l with
  | nil => unfold RepE at r; subst r; rfl
  | cons x es ih =>
    obtain ⟨k, n, a⟩ := x
    unfold RepE at r
    obtain ⟨e, rest, rfl, h1, h2, h3, h4⟩ := r
    simp only [List.all_cons, h2, ih h4]

theorem eNextM_ok (s : Sim G h w) {t : TypeId} {x : AV} {xv : Value} (hx : Rep G x xv) {K : AV → AHeap → Prop} (k : eNextM x h K) : Ye P G h w (Instr.next xv false t) K := by
  unfold eNextM at k
  split at k
  · rename_i i
    have over : ∀ {w' : World}, Sim G h w' → Evo G h w G h w' → (Instr.next xv false t).run P w = .ok (.tuple #[.bool false]) w' → K (.tup [B false]) h → Ye P G h w (Instr.next xv false t) K := fun {w'} s' ev hr k =>
      ⟨_, _, h, G, w', hr, by simp only [Rep, RepL]; exact ⟨_, rfl, _, _, rfl, ⟨rfl, rfl⟩, rfl⟩, k, s', ev⟩
    simp only [Rep] at hx
    obtain ⟨b, o, h1, rfl⟩ := hx
    split at k
    · rename_i c1 c2 c3 hes
      obtain ⟨b', mb, e1, e2, rfl⟩ := s.obj _ _ hes
      rw [h1] at e1; cases e1
      refine over s (Evo.refl _ _ _) ?_ k
      have hg : (getObj b).run P w = .ok (.mapIter none c1 c2.toArray c3) w := by simp [getObj, Sem.run, e2]
      simp only [Instr.next, Nat.add_zero, Sem.run_bind, hg, Result.andThen_ok, Sem.run_pure]
    · rename_i j since seen last hes
      split at k
      · rename_i es clock hm
        obtain ⟨⟨hone, hgone⟩, k0, k1⟩ := k
        obtain ⟨b', mb, e1, e2, q, hq, rfl⟩ := s.obj _ _ hes
        rw [h1] at e1; cases e1
        obtain ⟨q', arr, e4, e5, e6⟩ := objAt_map s hm
        rw [hq] at e4; cases e4
        have hg : (getObj b).run P w = .ok (.mapIter (some q) since seen.toArray last) w := by simp [getObj, Sem.run, e2]
        have hg2 : (getObj q).run P w = .ok (.map arr clock) w := run_getObj_map e5
        have hemp : arr.isEmpty = es.isEmpty := by
          rw [← Array.isEmpty_toList]
          have hl2 := e6.length
          generalize arr.toList = l at hl2
          cases es with
          | nil => cases l with | nil => rfl | cons y l => simp at hl2
          | cons x es => cases l with | nil => simp at hl2 | cons y l => rfl
        have hcond : (!seen.toArray.isEmpty && !arr.isEmpty && arr.all (·.born ≥ last)) = false := by
          rw [← Array.all_toList, repE_all e6 (fun n => decide (n ≥ last)), hemp]
          simpa using hgone
        -- what may be taken
        generalize hcs : ((if ((arr.filter fun e => !seen.toArray.contains e.born).filter (·.born < since)).isEmpty then #[none] else #[]) ++ (((arr.filter fun e => !seen.toArray.contains e.born).filter (·.born < since)) ++ ((arr.filter fun e => !seen.toArray.contains e.born).filter (·.born ≥ since))).map some : Array (Option MapEntry)) = cs
        have hpos : 0 < cs.size := by
          subst hcs
          split
          · simp; omega
          · rename_i hne
            rw [Array.isEmpty_iff] at hne
            have : 0 < ((arr.filter fun e => !seen.toArray.contains e.born).filter (·.born < since)).size := Nat.pos_of_ne_zero fun e => hne (by simpa using e)
            simp only [Array.size_append, Array.size_map]; omega
        have hcase : ∀ c ∈ cs, (c = none ∧ ∀ e ∈ es, e.2.1 ∈ seen ∨ since ≤ e.2.1) ∨ ∃ e, c = some e ∧ e ∈ arr ∧ e.born ∉ seen := by
          subst hcs
          intro c hc
          rcases Array.mem_append.1 hc with hc | hc
          · split at hc
            · rename_i hne
              left
              refine ⟨by simpa using hc, fun e he => ?_⟩
              by_cases h1 : e.2.1 ∈ seen
              · exact .inl h1
              · refine .inr (Nat.le_of_not_lt fun hlt => ?_)
                obtain ⟨jj, hj⟩ := List.mem_iff_getElem?.1 he
                obtain ⟨e', q1, q2, q3, q4⟩ := e6.at jj e.1 e.2.1 e.2.2 hj
                simp only [Array.isEmpty_iff] at hne
                have : e' ∈ ((arr.filter fun e => !seen.toArray.contains e.born).filter (·.born < since)) := by
                  simp only [Array.mem_filter, q3]
                  refine ⟨⟨Array.mem_of_getElem? (by simpa using q1), by simpa using h1⟩, by simpa using hlt⟩
                rw [hne] at this
                simp at this
            · simp at hc
          · obtain ⟨e, he, rfl⟩ := Array.mem_map.1 hc
            right
            refine ⟨e, rfl, ?_⟩
            rcases Array.mem_append.1 he with he | he
            · simp only [Array.mem_filter] at he; exact ⟨he.1.1, by simpa using he.1.2⟩
            · simp only [Array.mem_filter] at he; exact ⟨he.1.1, by simpa using he.1.2⟩
        -- the draw
        have hdraw : ∃ idx w', (choose (.mapNext cs.size)).run P w = .ok idx w' ∧ idx < cs.size ∧ (w' = w ∨ w' = { w with drawn := w.drawn + 1 }) := by
          rw [run_choose]
          split
          · exact ⟨0, w, rfl, hpos, .inl rfl⟩
          · exact ⟨_, _, rfl, by simp only [Question.cut]; exact Nat.mod_lt _ hpos, .inr rfl⟩
        obtain ⟨idx, w', hd1, hd2, hd3⟩ := hdraw
        have hs' : Sim G h w' ∧ Evo G h w G h w' := by
          rcases hd3 with rfl | rfl
          · exact ⟨s, Evo.refl _ _ _⟩
          · exact s.drawn _
        have hheap : w'.heap = w.heap := by rcases hd3 with rfl | rfl <;> rfl
        have hget : cs[idx]? = some cs[idx] := by simp [hd2]
        rcases hcase cs[idx] (Array.getElem_mem hd2) with ⟨hn, hall⟩ | ⟨e, he, hmem, hns⟩
        · refine over hs'.1 hs'.2 ?_ (k0 hall)
          simp only [Instr.next, Nat.add_zero, Sem.run_bind, hg, Result.andThen_ok, hg2, hcond, Bool.false_eq_true, if_false, Sem.run_ite, Sem.run_pure, hcs, hd1, hget, hn]
        · obtain ⟨a, ha1, ha2⟩ := repE_mem e6 (by simpa using hmem)
          have K1 := k1 _ ha1 hns
          obtain ⟨s2, ev2⟩ := sim_turn (ob := .mapIter (some q) since (seen.toArray.push e.born) clock) (o' := .miter (some j) since (seen ++ [e.born]) clock) hs'.1 hes rfl h1 rfl ⟨b, some q, h1, by
            rw [putBlk_eq w' b _ (by rw [hheap]; exact (Array.getElem?_eq_some_iff.1 e2).1)]; simp, q, hq, rfl⟩
          refine ⟨_, .tuple #[.bool true, e.key, e.val], _, _, _, ?_, ?_, K1, s2, hs'.2.trans ev2⟩
          · simp only [Instr.next, Nat.add_zero, Sem.run_bind, hg, Result.andThen_ok, hg2, hcond, Bool.false_eq_true, if_false, Sem.run_ite, Sem.run_pure, hcs, hd1, hget, he]
            simp [setObj, Sem.run, hheap, e2, putBlk]
          · simp only [Rep, RepL]
            have hk1 : e.key.oneCell' = true := List.all_eq_true.1 hone _ ha1
            exact ⟨_, rfl, _, _, rfl, ⟨rfl, rfl⟩, _, _, rfl, ⟨rfl, hk1⟩, _, _, rfl, ha2, rfl⟩
      · exact k.elim
    · exact k.elim
  · exact k.elim

def bornFind (n : Nat) : MEnts → Option (Value × AV)
  | [] => none
  | (k, b, v) :: r => if (b == n) = true then some (k, v) else bornFind n r
def pEntry (x : AV) (h : AHeap) (K : AV → Prop) : Prop :=
  match x with
  | .ptr i 0 => (match h[i]? with
    | some (.miter (some j) _ seen last) => (match h[j]?, seen.getLast? with
      | some (.amap es clock), some n => (match bornFind n es with
        | some (k, v) => if (k.oneCell' && clock == last) = true then K (.tup [.lit k, v]) else False
        | none => False)
      | _, _ => False)
    | _ => False)
  | _ => False
theorem bornFind_ok {n : Nat} : ∀ {es : MEnts} {l : List MapEntry}, RepE G es l → ∀ {k : Value} {v : AV}, bornFind n es = some (k, v) → ∃ e, l.find? (·.born == n) = some e ∧ e.key = k ∧ Rep G v e.val
  | [], l, r, k, v, h => by simp [bornFind] at h
  | (k', b, a) :: es, l, r, k, v, h => by
    simp only [RepE] at r
    obtain ⟨e, rest, rfl, h1, h2, h3, h4⟩ := r
    simp only [bornFind] at h
    by_cases hq : (b == n) = true
    · rw [if_pos hq] at h
      cases h
      exact ⟨e, by simp [List.find?_cons, h2, hq], h1, h3⟩
    · rw [if_neg hq] at h
      obtain ⟨e', q1, q2⟩ := bornFind_ok h4 h
      refine ⟨e', ?_, q2⟩
      rw [List.find?_cons, h2]
      simp only [Bool.not_eq_true] at hq
      simp only [hq]
      exact q1
theorem pEntry_ok (s : Sim G h w) {x : AV} {xv : Value} (hx : Rep G x xv) {K : AV → Prop} (k : pEntry x h K) : Yl P G w (Instr.entry xv) K := by
  unfold pEntry at k
  split at k
  · rename_i i
    simp only [Rep] at hx
    obtain ⟨b, o, h1, rfl⟩ := hx
    split at k
    · rename_i j since seen last hes
      split at k
      · rename_i es clock n hm hn
        split at k
        · rename_i kk v hb
          split at k
          · rename_i hc
            simp only [Bool.and_eq_true, beq_iff_eq] at hc
            obtain ⟨b', mb, e1, e2, q, hq, rfl⟩ := s.obj _ _ hes
            rw [h1] at e1; cases e1
            obtain ⟨q', arr, e4, e5, e6⟩ := objAt_map s hm
            rw [hq] at e4; cases e4
            have hg : (getObj b).run P w = .ok (.mapIter (some q) since seen.toArray last) w := by simp [getObj, Sem.run, e2]
            obtain ⟨e, f1, f2, f3⟩ := bornFind_ok e6 hb
            have f1' : arr.find? (·.born == n) = some e := by
              clear e5 e6
              obtain ⟨l⟩ := arr
              simpa using f1
            have hback : seen.toArray.back? = some n := by
              rw [List.back?_toArray]; exact hn
            refine ⟨_, .tuple #[e.key, e.val], ?_, ?_, k⟩
            · simp only [Instr.entry, Nat.add_zero, Sem.run_bind, hg, Result.andThen_ok, hback, run_getObj_map e5]
              rw [if_neg (by simp [hc.2])]
              simp [f1']
            · simp only [Rep, RepL]
              rw [f2]
              exact ⟨_, rfl, _, _, rfl, ⟨rfl, hc.1⟩, _, _, rfl, f3, rfl⟩
          · exact k.elim
        · exact k.elim
      · exact k.elim
    · exact k.elim
  · exact k.elim
end
end Go.Proofs.YtmocchnodigmlaaGreatDoor.AL
