import Derived.Test.YtmocchnodigmlaaGreatDoorAL8
set_option linter.all false
set_option autoImplicit true
set_option relaxedAutoImplicit true
set_option linter.unusedVariables false
/-! append. -/
namespace Go.Proofs.YtmocchnodigmlaaGreatDoor.AL
variable [Tabs]
section
variable {P : Program} {G : Gh} {h : AHeap} {w : World}

def eAppend (size bytes : Nat) (v x : AV) (h : AHeap) (K : AV → AHeap → Prop) : Prop :=
  match aElems h size x with
  | none => False
  | some (m, xs) => match v with
    | .full n cs => (cs.length = n * size ∧ (n + m) * bytes ≤ 1099511627776) ∧ (if m = 0 then K (.full n cs) h else K (.sl h.length 0 (n + m) size) (h ++ [.cells (cs ++ xs)]))
    | .sl i off len sz => (match h[i]? with
      | some (.cells cs) => (sz = size ∧ off + len * size = cs.length ∧ xs.all AV.one = true ∧ (len + m) * bytes ≤ 1099511627776) ∧ K (.sl h.length 0 (len + m) size) (h.set i .dead ++ [.cells (cs.drop off ++ xs)])
      | _ => False)
    | _ => False

theorem growBy_le (n : Nat) : ∀ r c, Builtin.growBy n r c ≤ max c (n + (n + 768) / 4)
  | 0, c => by simp [Builtin.growBy]; omega
  | r + 1, c => by
    simp only [Builtin.growBy]
    split
    · omega
    · have := growBy_le n r (c + (c + 768) / 4)
      omega
theorem nextcap_le {need cap : Nat} (h : cap < need) : Builtin.nextslicecap need cap ≤ 202 * need := by
  unfold Builtin.nextslicecap
  split
  · omega
  · split
    · omega
    · have := growBy_le need 4 cap
      omega

/-- What append's types say. -/
structure AppTypes (P : Program) (t t2 e : TypeId) (i : TypeInfo) (z : Value) : Prop where
  ht : P.underlying t = some (.slice e)
  ht2 : ∃ d, P.underlying t2 = some d ∧ ∀ k, d ≠ .int k
  hi : P.info? e = some i
  hz : i.zero = some z
  hzs : z.cells.size = i.size
  hb : 0 < i.bytes

theorem zeros_false {t2 : TypeId} {d : TypeDesc} (h2 : P.underlying t2 = some d) (hd : ∀ k, d ≠ .int k) : (do pure ((← underlying t2) matches .int _) : Sem Bool).run P w = .ok false w := by
  simp only [Sem.run_bind, run_underlying h2, Result.andThen_ok]
  cases d <;> first | rfl | exact absurd rfl (hd _)

theorem run_append {t t2 e ty : TypeId} {i : TypeInfo} {z : Value} (T : AppTypes P t t2 e i z) (base : Option Addr) (sLen sCap m : Nat) (y : Value) (vs vs' old : List Value) (hm : (Builtin.lenOf y).run P w = .ok m w) (hv : (Builtin.firstCells i.size m y).run P w = .ok vs.toArray w)
    (hv' : (Builtin.firstCells i.size m y).run P { w with drawn := w.drawn + 1 } = .ok vs'.toArray { w with drawn := w.drawn + 1 }) (ho : (Builtin.firstCells i.size sLen (.slice base sLen sCap)).run P { w with drawn := w.drawn + 1 } = .ok old.toArray { w with drawn := w.drawn + 1 }) (hbd : (sLen + m) * i.bytes ≤ 1099511627776) :
    (Builtin.append_ #[t, t2] ty #[.slice base sLen sCap, y]).run P w =
      if sLen + m ≤ sCap then (match base with | some a => (do storeCells (a.add (sLen * i.size)) vs; pure (.slice base (sLen + m) sCap) : Sem Value) | none => pure (.slice base (sLen + m) sCap)).run P w
      else
        let c := sLen + m + (w.tape w.drawn (.appendCap (sLen + m) sCap e)) % (2 ^ 63 - (sLen + m))
        .ok (.slice (some ⟨w.heap.size, 0, none⟩) (sLen + m) c) (World.alloc { w with drawn := w.drawn + 1 } (.cells (old.toArray ++ vs'.toArray ++ Builtin.zeroCells z.cells (c - (sLen + m))) e)) := by
  obtain ⟨ht, ⟨d, h2, hd⟩, hi, hz, hzs, hb⟩ := T
  have hzf := zeros_false (w := w) h2 hd
  have hmat : (match d with | .int _ => true | _ => false) = false := by cases d <;> first | rfl | exact absurd rfl (hd _)
  simp only [Builtin.append_]
  simp only [List.getElem?_toArray, List.getElem?_cons_zero, List.getElem?_cons_succ, Sem.run_bind, run_underlying ht, run_underlying h2, Result.andThen_ok, sizeOf, typeInfo, run_program, hi, Sem.run_pure, hmat, Bool.false_eq_true, if_false, hm, Sem.run_ite]
  by_cases hroom : sLen + m ≤ sCap
  · rw [if_pos hroom, if_pos hroom]
    simp only [hv, Result.andThen_ok, Bool.not_false, if_true, Sem.run_bind, Sem.run_pure]
    cases base <;> rfl
  · rw [if_neg hroom, if_neg hroom]
    have hcap : Builtin.nextslicecap (sLen + m) sCap * i.bytes ≤ 2 ^ 48 := by
      have h1 := nextcap_le (need := sLen + m) (cap := sCap) (by omega)
      have h2 : Builtin.nextslicecap (sLen + m) sCap * i.bytes ≤ 202 * (sLen + m) * i.bytes := Nat.mul_le_mul_right _ h1
      have h3 : 202 * (sLen + m) * i.bytes = 202 * ((sLen + m) * i.bytes) := Nat.mul_assoc _ _ _
      omega
    have hneed : sLen + m ≤ 1099511627776 := Nat.le_trans (Nat.le_mul_of_pos_right _ hb) hbd
    have hmax : IntKind.i64.max = 9223372036854775807 := rfl
    rw [if_neg (by rw [hmax]; omega), if_neg (by omega)]
    simp only [run_choose, Question.forced, Question.cut, Bool.false_eq_true, if_false, Result.andThen_ok, run_askRoom]
    simp only [ho, hv', Result.andThen_ok, Bool.not_false, if_true, zeroValue, typeInfo, run_program, hi, hz, Sem.run_bind, Sem.run_pure, newRow, run_newObj]
    rfl

theorem zeroCells_size (zs : Array Value) (n : Nat) : (Builtin.zeroCells zs n).size = n * zs.size := by simp [Builtin.zeroCells]

/-- The new row of an append that had no room. -/
theorem grow_ok (s : Sim G h w) {size : Nat} {z : Value} {e : TypeId} (hzs : z.cells.size = size) (len m c : Nat) (cs xs : List AV) (old vs : List Value) (hc : len + m ≤ c) (r1 : RepL G cs old) (r2 : RepL G xs vs) (h1 : cs.length = len * size) (h2 : xs.length = m * size) (K : AV → AHeap → Prop)
    (k : K (.sl h.length 0 (len + m) size) (h ++ [.cells (cs ++ xs)])) :
    ∃ r h' G', Rep G' r (.slice (some ⟨w.heap.size, 0, none⟩) (len + m) c) ∧ K r h' ∧ Sim G' h' (w.alloc (.cells (old.toArray ++ vs.toArray ++ Builtin.zeroCells z.cells (c - (len + m))) e)) ∧
      Evo G h w G' h' (w.alloc (.cells (old.toArray ++ vs.toArray ++ Builtin.zeroCells z.cells (c - (len + m))) e)) := by
  have hsz : (old.toArray ++ vs.toArray ++ Builtin.zeroCells z.cells (c - (len + m))).size = c * size := by
    have e1 := r1.length
    have e2 := r2.length
    simp only [Array.size_append, List.size_toArray, zeroCells_size, hzs, e1, e2, h1, h2]
    rw [← Nat.add_mul, ← Nat.add_mul, Nat.add_sub_cancel' hc]
  have hget : ∀ (j : Nat) (v : Value), (old ++ vs)[j]? = some v → (old.toArray ++ vs.toArray ++ Builtin.zeroCells z.cells (c - (len + m)))[j]? = some v := fun j v h3 => by
    have hj : j < (old ++ vs).length := (List.getElem?_eq_some_iff.1 h3).1
    rw [Array.getElem?_append_left (by simpa using hj)]
    simpa using h3
  generalize (old.toArray ++ vs.toArray ++ Builtin.zeroCells z.cells (c - (len + m))) = A at hsz hget ⊢
  have le := Gh.le_add s.fresh (w.heap.size, 0) (c * size)
  have x : ObjAt (G.add h.length (w.heap.size, 0) (c * size)) (w.alloc (.cells A e)) h.length (.cells (cs ++ xs)) := by
    refine ⟨w.heap.size, 0, A, e, 0, 0, by simp [Gh.add], ?_, by omega, ?_, ?_, ?_⟩
    · show (w.heap.push _)[w.heap.size]? = _
      simp
    · simp only [Gh.add, if_true, List.length_append, h1, h2, ← Nat.add_mul]
      exact Nat.mul_le_mul_right _ hc
    · simp only [Gh.add, if_true, hsz]; omega
    · intro j a ha
      obtain ⟨v, h3, h4⟩ := (r1.append r2).at j a ha
      exact ⟨v, by rw [Nat.zero_add]; exact hget j v h3, Rep.mono le a v h4⟩
  obtain ⟨s', ev⟩ := sim_push s _ (.cells (cs ++ xs)) (c * size) x
  refine ⟨_, _, _, ?_, k, s', ev⟩
  simp only [Rep]
  exact ⟨w.heap.size, 0, c, 0, by simp [Gh.add], by simp [Gh.add], hc, fun _ => rfl, rfl⟩

theorem repL_slice {G : Gh} {cs : List AV} {arr : Array Value} {o off : Nat} (e6 : ∀ (j : Nat) (a : AV), cs[j]? = some a → ∃ v, arr[o + j]? = some v ∧ Rep G a v) (hsz : o + cs.length ≤ arr.size) (ho : off ≤ cs.length) :
    RepL G (cs.drop off) ((arr.toList.drop (o + off)).take (cs.length - off)) := by
  refine repL_of_at (by simp; omega) fun j a ha => ?_
  rw [List.getElem?_drop] at ha
  have hj : off + j < cs.length := (List.getElem?_eq_some_iff.1 ha).1
  obtain ⟨v, h5, h6⟩ := e6 (off + j) a ha
  refine ⟨v, ?_, h6⟩
  rw [List.getElem?_take, if_pos (by omega), List.getElem?_drop, Array.getElem?_toList, ← h5]
  congr 1
  omega

theorem eAppend_ok (s : Sim G h w) {t t2 e ty : TypeId} {i : TypeInfo} {z : Value} (T : AppTypes P t t2 e i z) {v x : AV} {a b : Value} (hx : Rep G v a) (hy : Rep G x b) {K : AV → AHeap → Prop} (k : eAppend i.size i.bytes v x h K) :
    Ye P G h w (Builtin.append_ #[t, t2] ty #[a, b]) K := by
  unfold eAppend at k
  split at k
  · exact k.elim
  · rename_i m xs hxs
    obtain ⟨sd, evd⟩ := s.drawn (w.drawn + 1)
    obtain ⟨vs, hvl, hvr, hm, hv⟩ := aElems_ok (P := P) s hy hxs
    obtain ⟨vs', hvl', hvr', _, hv'⟩ := aElems_ok (P := P) sd hy hxs
    have hxl : xs.length = m * i.size := by rw [← hvl, hvr.length]
    split at k
    · rename_i n cs
      obtain ⟨⟨hcl, hbd⟩, k⟩ := k
      simp only [Rep] at hx
      -- what was there
      have hbase : ∃ base, a = .slice base n n ∧ ((base = none ∧ n = 0 ∧ cs = []) ∨ ∃ bb o, base = some ⟨bb, o, none⟩ ∧ RepAt G cs bb o) := by
        rcases hx with ⟨rfl, rfl, rfl⟩ | ⟨bb, o, rfl, h2⟩
        · exact ⟨none, rfl, .inl ⟨rfl, rfl, rfl⟩⟩
        · exact ⟨some ⟨bb, o, none⟩, rfl, .inr ⟨bb, o, rfl, h2⟩⟩
      obtain ⟨base, rfl, hbase⟩ := hbase
      have hold : ∃ old : List Value, RepL G cs old ∧ (Builtin.firstCells i.size n (.slice base n n)).run P { w with drawn := w.drawn + 1 } = .ok old.toArray { w with drawn := w.drawn + 1 } := by
        obtain ⟨old, o1, o2, _, o4⟩ := aElems_ok (P := P) (size := i.size) sd (v := .full n cs) (x := .slice base n n) (by
          simp only [Rep]
          rcases hbase with ⟨rfl, rfl, rfl⟩ | ⟨bb, o, rfl, h2⟩
          · exact .inl ⟨rfl, rfl, rfl⟩
          · exact .inr ⟨bb, o, rfl, h2⟩) (m := n) (xs := cs) (by simp [aElems, hcl])
        exact ⟨old, o2, o4⟩
      obtain ⟨old, ho1, ho2⟩ := hold
      have R := run_append (ty := ty) T base n n m b vs vs' old hm hv hv' ho2 hbd
      by_cases hm0 : m = 0
      · subst hm0
        rw [if_pos rfl] at k
        rw [if_pos (by omega)] at R
        have hvs : vs = [] := by
          have : vs.length = 0 := by simpa using hvl
          exact List.length_eq_zero_iff.1 this
        subst hvs
        refine ⟨_, .slice base n n, h, G, w, ?_, ?_, k, s, Evo.refl _ _ _⟩
        · rw [R]
          cases base <;> simp [storeCells]
        · simp only [Rep]
          rcases hbase with ⟨rfl, rfl, rfl⟩ | ⟨bb, o, rfl, h2⟩
          · exact .inl ⟨rfl, rfl, rfl⟩
          · exact .inr ⟨bb, o, rfl, h2⟩
      · rw [if_neg hm0] at k
        rw [if_neg (by omega)] at R
        obtain ⟨r, h', G', q1, q2, q3, q4⟩ := grow_ok sd (e := e) T.hzs n m (n + m + (w.tape w.drawn (.appendCap (n + m) n e)) % (2 ^ 63 - (n + m))) cs xs old vs' (by omega) ho1 hvr' hcl hxl K k
        exact ⟨r, _, h', G', _, R, q1, q2, q3, evd.trans q4⟩
    · rename_i j off len sz
      split at k
      · rename_i cs hcs
        obtain ⟨⟨rfl, hcl, hone, hbd⟩, k⟩ := k
        simp only [Rep] at hx
        obtain ⟨bb, o, c, ad, h1, h2, h3, h4, rfl⟩ := hx
        obtain ⟨b', o', arr, el, lo, hi', e1, e2, e3, e4, e5, e6⟩ := objAt_cells s hcs
        rw [h1] at e1
        cases e1
        have hdl : (cs.drop off).length = len * i.size := by simp; omega
        -- the elder cells
        have hold : ∃ old : List Value, RepL G (cs.drop off) old ∧ (Builtin.firstCells i.size len (.slice (some ⟨bb, ad, none⟩) len c)).run P { w with drawn := w.drawn + 1 } = .ok old.toArray { w with drawn := w.drawn + 1 } := by
          obtain ⟨old, o1, o2, _, o4⟩ := aElems_ok (P := P) (size := i.size) sd (v := .sl j off len i.size) (x := .slice (some ⟨bb, ad, none⟩) len c) (by
            simp only [Rep]; exact ⟨bb, o, c, ad, h1, h2, h3, h4, rfl⟩) (m := len) (xs := (cs.drop off).take (len * i.size)) (by simp [aElems, hcs]; omega)
          rw [List.take_of_length_le (by omega)] at o2
          exact ⟨old, o2, o4⟩
        obtain ⟨old, ho1, ho2⟩ := hold
        have R := run_append (ty := ty) T (some ⟨bb, ad, none⟩) len c m b vs vs' old hm hv hv' ho2 hbd
        by_cases hroom : len + m ≤ c
        · rw [if_pos hroom] at R
          have hmul : len * i.size + m * i.size ≤ c * i.size := by rw [← Nat.add_mul]; exact Nat.mul_le_mul_right _ hroom
          -- the address
          have had : len = 0 ∧ m = 0 ∧ c = 0 ∨ ad = o + off := by
            rcases Nat.eq_zero_or_pos c with hc0 | hc0
            · exact .inl ⟨by omega, by omega, hc0⟩
            · exact .inr (h4 hc0)
          have hst : ∃ arr' : Array Value, (storeCells ((⟨bb, ad, none⟩ : Addr).add (len * i.size)) vs).run P w = .ok () (putBlk w bb (.cells arr' el (lo, hi'))) ∧ arr'.size = arr.size ∧ arr'.toList = splice arr.toList (o + cs.length) vs := by
            rcases had with ⟨rfl, rfl, rfl⟩ | rfl
            · have hvs : vs = [] := by
                have : vs.length = 0 := by simpa using hvl
                exact List.length_eq_zero_iff.1 this
              subst hvs
              exact ⟨arr, by simp [storeCells, putBlk_self w bb _ e2], rfl, by simp [splice]⟩
            · obtain ⟨arr', q1, q2⟩ := store_list (P := P) bb (o + off + len * i.size) el lo hi' vs 0 arr w e2 e3 (by omega) (one_all hvr hone)
              refine ⟨arr', by rw [add_plain]; exact q1, ?_, ?_⟩
              · have := congrArg List.length q2
                rw [splice_length (by simp; omega)] at this
                simpa using this
              · rw [q2]; congr 1; omega
          obtain ⟨arr', q1, q2, q3⟩ := hst
          have le := Gh.le_add s.fresh (bb, o + off) (G.cap j - off)
          have x : ObjAt (G.add h.length (bb, o + off) (G.cap j - off)) (putBlk w bb (.cells arr' el (lo, hi'))) h.length (.cells (cs.drop off ++ xs)) := by
            refine ⟨bb, o + off, arr', el, lo, hi', by simp [Gh.add], putBlk_eq w bb _ (Array.getElem?_eq_some_iff.1 e2).1, by rw [q2]; exact e3, ?_, ?_, ?_⟩
            · simp only [Gh.add, if_true, List.length_append, hdl, hxl]; omega
            · simp only [Gh.add, if_true, q2]; omega
            · intro p aa ha
              have hget : arr'[o + off + p]? = arr'.toList[o + off + p]? := by simp
              rw [hget, q3, splice_get (by simp; omega)]
              by_cases hp : p < (cs.drop off).length
              · rw [List.getElem?_append_left hp, List.getElem?_drop] at ha
                rw [if_pos (by simp at hp; omega)]
                obtain ⟨v, h5, h6⟩ := e6 _ aa ha
                exact ⟨v, by rw [Array.getElem?_toList, ← h5]; congr 1; omega, Rep.mono le aa v h6⟩
              · rw [List.getElem?_append_right (by omega)] at ha
                rw [if_neg (by simp at hp; omega)]
                obtain ⟨v, h5, h6⟩ := hvr.at _ aa ha
                have hpl : p - (cs.drop off).length < vs.length := (List.getElem?_eq_some_iff.1 h5).1
                rw [if_pos (by simp at hp hpl; omega)]
                exact ⟨v, by rw [← h5]; congr 1; simp; omega, Rep.mono le aa v h6⟩
          obtain ⟨s', ev⟩ := sim_take s hcs rfl h1 (o + off) (G.cap j - off) (.cells arr' el (lo, hi')) (.cells (cs.drop off ++ xs)) rfl x
          refine ⟨_, .slice (some ⟨bb, ad, none⟩) (len + m) c, _, _, _, ?_, ?_, k, s', ev⟩
          · rw [R]
            simp only [Sem.run_bind, q1, Result.andThen_ok, Sem.run_pure]
          · simp only [Rep]
            refine ⟨bb, o + off, c, ad, by simp [Gh.add], by simp [Gh.add]; omega, hroom, fun hc0 => ?_, rfl⟩
            rw [h4 hc0]; rfl
        · rw [if_neg hroom] at R
          obtain ⟨s2, ev2⟩ := sim_kill sd j
          have hlen2 : (h.set j .dead).length = h.length := by simp
          obtain ⟨r, h', G', p1, p2, p3, p4⟩ := grow_ok s2 (e := e) T.hzs len m (len + m + (w.tape w.drawn (.appendCap (len + m) c e)) % (2 ^ 63 - (len + m))) (cs.drop off) xs old vs' (by omega) ho1 hvr' hdl hxl K (by rw [hlen2]; exact k)
          exact ⟨r, _, h', G', _, R, p1, p2, p3, (evd.trans ev2).trans p4⟩
      · exact k.elim
    · exact k.elim
end
end Go.Proofs.YtmocchnodigmlaaGreatDoor.AL
