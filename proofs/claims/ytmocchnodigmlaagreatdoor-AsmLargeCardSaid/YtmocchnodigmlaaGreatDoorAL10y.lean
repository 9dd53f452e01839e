import Derived.Test.YtmocchnodigmlaaGreatDoorAL10n
set_option linter.all false
set_option autoImplicit true
set_option relaxedAutoImplicit true
set_option linter.unusedVariables false
set_option linter.unusedSimpArgs false
/-! copy, clear. -/
namespace Go.Proofs.YtmocchnodigmlaaGreatDoor.AL
variable [Tabs]
section
variable {P : Program} {G : Gh} {h : AHeap} {w : World}

omit [Tabs] in
theorem splice_nil {α : Type} (l : List α) (off : Nat) : splice l off [] = l := by simp [splice]
omit [Tabs] in
theorem set_same {i : Nat} {o : AObj} (hi : h[i]? = some o) : h.set i o = h := by
  apply List.ext_getElem?
  intro j
  rw [List.getElem?_set]
  split
  · rename_i e; subst e
    split
    · exact hi.symm
    · rename_i hn; rw [List.getElem?_eq_none (by omega)] at hi; cases hi
  · rfl

/-- A row's cells are written. -/
theorem row_store (s : Sim G h w) {i off len sz : Nat} {cs xs : List AV} {x : Value} (hcs : h[i]? = some (.cells cs)) (hx : Rep G (.sl i off len sz) x) {vs : List Value} (hv : RepL G xs vs) (hone : xs.all AV.one = true) (hl : xs.length ≤ len * sz) (hle : off + len * sz ≤ cs.length) :
    ∃ b c, x = .slice (some b) len c ∧ ∃ G' w', (storeCells b vs).run P w = .ok () w' ∧ Sim G' (h.set i (.cells (splice cs off xs))) w' ∧ Evo G h w G' (h.set i (.cells (splice cs off xs))) w' := by
  simp only [Rep] at hx
  obtain ⟨b, o, c, ad, h1, h2, h3, h4, rfl⟩ := hx
  refine ⟨_, _, rfl, ?_⟩
  have hlv := hv.length
  rcases Nat.eq_zero_or_pos c with hc0 | hc0
  · have : xs = [] := by
      have : len = 0 := by omega
      subst this
      exact List.length_eq_zero_iff.1 (by omega)
    subst this
    simp only [RepL] at hv
    subst hv
    refine ⟨G, w, by simp [storeCells], ?_, ?_⟩
    · rw [splice_nil, set_same hcs]; exact s
    · rw [splice_nil, set_same hcs]; exact Evo.refl _ _ _
  · obtain rfl := h4 hc0
    obtain ⟨b', o', arr, el, lo, hi', e1, e2, e3, e4, e5, e6⟩ := objAt_cells s hcs
    rw [h1] at e1
    cases e1
    obtain ⟨arr', q2, q3⟩ := store_list (P := P) b (o + off) el lo hi' vs 0 arr w e2 e3 (by omega) (one_all hv hone)
    have hsz : arr'.size = arr.size := by
      have := congrArg List.length q3
      rw [splice_length (by simp; omega)] at this
      simpa using this
    have x : ObjAt G (putBlk w b (.cells arr' el (lo, hi'))) i (.cells (splice cs off xs)) := by
      refine ⟨b, o, arr', el, lo, hi', h1, putBlk_eq w b _ (Array.getElem?_eq_some_iff.1 e2).1, by rw [hsz]; exact e3, by rw [splice_length (by omega)]; exact e4, by rw [hsz]; exact e5, ?_⟩
      intro q a ha
      rw [splice_get (by omega)] at ha
      have hget : arr'[o + q]? = arr'.toList[o + q]? := by simp
      rw [hget, q3, splice_get (by simp; omega)]
      by_cases c1 : q < off
      · rw [if_pos c1] at ha
        rw [if_pos (by omega)]
        simpa using e6 q a ha
      · rw [if_neg c1] at ha
        rw [if_neg (by omega)]
        by_cases c2 : q < off + xs.length
        · rw [if_pos c2] at ha
          rw [if_pos (by omega)]
          obtain ⟨v, h4, h5⟩ := hv.at _ a ha
          exact ⟨v, by rw [← h4]; congr 1; omega, h5⟩
        · rw [if_neg c2] at ha
          rw [if_neg (by omega)]
          simpa using e6 q a ha
    obtain ⟨s', ev⟩ := sim_turn s hcs rfl h1 rfl x
    exact ⟨_, _, q2, s', ev⟩

/-- The first of a row's elements. -/
theorem aElems_take (s : Sim G h w) {size : Nat} {v : AV} {x : Value} (hx : Rep G v x) {m : Nat} {xs : List AV} (e : aElems h size v = some (m, xs)) {k : Nat} (hk : k ≤ m) :
    ∃ vs : List Value, RepL G (xs.take (k * size)) vs ∧ (Builtin.firstCells size k x).run P w = .ok vs.toArray w := by
  have hmul : k * size ≤ m * size := Nat.mul_le_mul_right _ hk
  have snap : ∀ (n c : Nat) (cs : List AV) (base : Option Addr), aElems h size (.snap n cs) = some (m, xs) → k ≤ n → (base = none ∧ cs = [] ∧ n = 0 ∨ ∃ b o, base = some ⟨b, o, none⟩ ∧ RepAt G cs b o) →
      ∃ vs : List Value, RepL G (xs.take (k * size)) vs ∧ (Builtin.firstCells size k (.slice base n c)).run P w = .ok vs.toArray w := by
    intro n c cs base e hkn hb
    simp only [aElems] at e
    split at e
    · rename_i hl
      cases e
      rcases hb with ⟨rfl, rfl, rfl⟩ | ⟨b, o, rfl, h2⟩
      · exact ⟨[], by simp [RepL], by simp [Builtin.firstCells]⟩
      · obtain ⟨vs, h3, h4, h5⟩ := frozen_cells s h2 hl
        refine ⟨vs.take (k * size), ?_, ?_⟩
        · refine repL_of_at (by simp; omega) fun j a ha => ?_
          rw [List.getElem?_take] at ha ⊢
          split at ha
          · rename_i hj; rw [if_pos hj]; exact h4.at j a ha
          · cases ha
        · have := run_loadCells_list (P := P) w ⟨b, o, none⟩ (vs.take (k * size)) (fun j v hj => by
            rw [add_plain]
            rw [List.getElem?_take] at hj
            split at hj
            · exact h5 j v hj
            · cases hj)
          have hlen : (vs.take (k * size)).length = k * size := by simp; omega
          rw [hlen] at this
          simpa [Builtin.firstCells] using this
    · cases e
  unfold aElems at e
  split at e
  · rename_i n cs
    have hn : n = m := by split at e <;> cases e; rfl
    simp only [Rep] at hx
    rcases hx with ⟨rfl, rfl, rfl⟩ | ⟨b, o, c, h1, rfl, h2⟩
    · exact snap 0 0 [] none (by simpa [aElems] using e) (by omega) (.inl ⟨rfl, rfl, rfl⟩)
    · exact snap n c cs _ (by simpa [aElems] using e) (by omega) (.inr ⟨b, o, rfl, h2⟩)
  · rename_i n cs
    have hn : n = m := by split at e <;> cases e; rfl
    simp only [Rep] at hx
    rcases hx with ⟨rfl, rfl, rfl⟩ | ⟨b, o, rfl, h2⟩
    · exact snap 0 0 [] none (by simpa [aElems] using e) (by omega) (.inl ⟨rfl, rfl, rfl⟩)
    · exact snap n n cs _ (by simpa [aElems] using e) (by omega) (.inr ⟨b, o, rfl, h2⟩)
  · rename_i i off len sz
    split at e
    · rename_i cs hcs
      split at e
      · rename_i hc
        obtain ⟨rfl, hle⟩ := hc
        cases e
        simp only [Rep] at hx
        obtain ⟨b, o, c, ad, h1, h2, h3, h4, rfl⟩ := hx
        obtain ⟨vs, q1, q2, _, q4⟩ := aElems_ok (P := P) (size := sz) s (v := .sl i off k sz) (x := .slice (some ⟨b, ad, none⟩) k c) (by
          simp only [Rep]; exact ⟨b, o, c, ad, h1, h2, by omega, h4, rfl⟩) (m := k) (xs := (cs.drop off).take (k * sz)) (by simp [aElems, hcs]; omega)
        refine ⟨vs, ?_, ?_⟩
        · rw [List.take_take, Nat.min_eq_left hmul]; exact q2
        · simpa [Builtin.firstCells] using q4
      · cases e
    · cases e
  · rename_i s'
    split at e
    · rename_i h1
      subst h1
      cases e
      simp only [Rep] at hx
      obtain ⟨rfl, _⟩ := hx
      refine ⟨(s'.data.toList.take k).map fun b => Value.int .u8 b.toNat, by rw [Nat.mul_one, ← List.map_take]; exact repL_bytes G _, ?_⟩
      simp only [Builtin.firstCells, Sem.run_pure]
      congr 1
      apply Array.toList_inj.1
      simp [ByteArray.extract, ByteArray.copySlice]
    · cases e
  · cases e

def eCopy (size : Nat) (v x : AV) (h : AHeap) (K : AV → AHeap → Prop) : Prop :=
  match aElems h size x with
  | none => False
  | some (m, xs) => match v with
    | .sl i off len sz => (match h[i]? with
      | some (.cells cs) => (sz = size ∧ off + len * size ≤ cs.length ∧ xs.all AV.one = true) ∧ K (I (Nat.min m len)) (h.set i (.cells (splice cs off (xs.take (Nat.min m len * size)))))
      | _ => False)
    | .full n _ => Nat.min m n = 0 ∧ K (I 0) h
    | .snap n _ => Nat.min m n = 0 ∧ K (I 0) h
    | _ => False
structure qCopy (size : Nat) (v x : AV) (h : AHeap) (K : AV → AHeap → Prop) : Prop where
  mk :: (out : eCopy size v x h K)
theorem eCopy_ok (s : Sim G h w) {t e ty : TypeId} {ts : Array TypeId} {i : TypeInfo} (ht0 : ts[0]? = some t) (ht : P.underlying t = some (.slice e)) (hi : P.info? e = some i) {v x : AV} {a b : Value} (hx : Rep G v a) (hy : Rep G x b) {K : AV → AHeap → Prop} (k : eCopy i.size v x h K) :
    Ye P G h w (Builtin.copy_ ts ty #[a, b]) K := by
  unfold eCopy at k
  split at k
  · exact k.elim
  · rename_i m xs hxs
    obtain ⟨_, _, _, hm, _⟩ := aElems_ok (P := P) s hy hxs
    have none_ : ∀ (base : Option Addr) (n c : Nat), a = .slice base n c → Nat.min m n = 0 → K (I 0) h → Ye P G h w (Builtin.copy_ ts ty #[a, b]) K := by
      rintro base n c rfl hmn k
      obtain ⟨vs, hv1, hv2⟩ := aElems_take (P := P) s hy hxs (k := 0) (Nat.zero_le _)
      simp only [Nat.zero_mul, List.take_zero, RepL] at hv1
      subst hv1
      refine ⟨I 0, .int .i64 0, h, G, w, ?_, by simp [Rep, Value.oneCell'], k, s, Evo.refl _ _ _⟩
      have hmn' : min m n = 0 := hmn
      cases base <;> simp [Builtin.copy_, ht0, run_underlying ht, hm, sizeOf, typeInfo, hi, hmn', hv2, storeCells, goInt]
    split at k
    · rename_i j off len sz
      split at k
      · rename_i cs hcs
        obtain ⟨⟨rfl, hle, hone⟩, k⟩ := k
        have hkm : Nat.min m len ≤ m := Nat.min_le_left _ _
        have hkl : Nat.min m len ≤ len := Nat.min_le_right _ _
        obtain ⟨vs, hv1, hv2⟩ := aElems_take (P := P) s hy hxs hkm
        obtain ⟨ba, c, rfl, G', w', q1, q2, q3⟩ := row_store (P := P) s hcs hx hv1 (by
          rw [List.all_eq_true] at hone ⊢; exact fun y hy => hone y (List.mem_of_mem_take hy)) (by simp only [List.length_take]; exact Nat.le_trans (Nat.min_le_left _ _) (Nat.mul_le_mul_right _ hkl)) hle
        refine ⟨_, .int .i64 (Nat.min m len), _, G', w', ?_, by simp [Rep, Value.oneCell'], k, q2, q3⟩
        have hv2' : (Builtin.firstCells i.size (min m len) b).run P w = .ok vs.toArray w := hv2
        simp [Builtin.copy_, ht0, run_underlying ht, hm, sizeOf, typeInfo, hi, hv2', q1, goInt]
      · exact k.elim
    · rename_i n cs
      simp only [Rep] at hx
      rcases hx with ⟨rfl, rfl, rfl⟩ | ⟨bb, o, rfl, h2⟩
      · exact none_ _ _ _ rfl k.1 k.2
      · exact none_ _ _ _ rfl k.1 k.2
    · rename_i n cs
      simp only [Rep] at hx
      rcases hx with ⟨rfl, rfl, rfl⟩ | ⟨bb, o, c, _, rfl, h2⟩
      · exact none_ _ _ _ rfl k.1 k.2
      · exact none_ _ _ _ rfl k.1 k.2
    · exact k.elim
theorem eCopy_mono {size : Nat} {v x : AV} {h : AHeap} {K K' : AV → AHeap → Prop} (hk : ∀ v h, K v h → K' v h) (k : eCopy size v x h K) : eCopy size v x h K' := by
  unfold eCopy at *
  split at k
  · exact k.elim
  · split at k
    · split at k
      · exact ⟨k.1, hk _ _ k.2⟩
      · exact k.elim
    · exact ⟨k.1, hk _ _ k.2⟩
    · exact ⟨k.1, hk _ _ k.2⟩
    · exact k.elim

def eClear (size : Nat) (u v : AV) (h : AHeap) (K : AHeap → Prop) : Prop :=
  match v with
  | .sl i off len sz => (match h[i]? with
    | some (.cells cs) => (u.isTup = false ∧ u.cells.length = size ∧ sz = size ∧ off + len * size ≤ cs.length ∧ u.cells.all AV.one = true) ∧ K (h.set i (.cells (splice cs off (List.replicate len u.cells).flatten)))
    | _ => False)
  | .full 0 _ => K h
  | .snap 0 _ => K h
  | _ => False
structure qClear (size : Nat) (u v : AV) (h : AHeap) (K : AHeap → Prop) : Prop where
  mk :: (out : eClear size u v h K)
omit [Tabs] in
theorem zeroCells_list (zs : Array Value) : ∀ n, (Builtin.zeroCells zs n).toList = (List.replicate n zs.toList).flatten
  | 0 => by simp [Builtin.zeroCells]
  | n + 1 => by
    have ih := zeroCells_list zs n
    rw [List.replicate_succ', List.flatten_append, ← ih]
    simp only [Builtin.zeroCells, Array.toList_map, Array.toList_range, List.flatten_cons, List.flatten_nil, List.append_nil]
    rw [Nat.succ_mul, List.range_add, List.map_append]
    congr 1
    rw [List.map_map]
    apply List.ext_getElem?
    intro j
    simp only [List.getElem?_map, Function.comp_apply]
    by_cases hj : j < zs.size
    · simp [hj, Nat.mod_eq_of_lt hj]
    · simp [hj]
theorem repL_rep {G : Gh} {cs : List AV} {vs : List Value} (r : RepL G cs vs) : ∀ n, RepL G (List.replicate n cs).flatten (List.replicate n vs).flatten
  | 0 => by simp [RepL]
  | n + 1 => by rw [List.replicate_succ, List.replicate_succ, List.flatten_cons, List.flatten_cons]; exact r.append (repL_rep r n)
theorem eClear_ok (s : Sim G h w) {t e ty : TypeId} {ts : Array TypeId} {i : TypeInfo} {z : Value} (ht0 : ts[0]? = some t) (ht : P.underlying t = some (.slice e)) (hi : P.info? e = some i) (hz : i.zero = some z) {u v : AV} {a : Value} (hx : Rep G v a) (hu : Rep G u z) {K : AHeap → Prop} (k : eClear i.size u v h K) :
    Ye P G h w (Builtin.clear_ ts ty #[a]) (fun r h' => r = .tup [] ∧ K h') := by
  unfold eClear at k
  split at k
  · rename_i j off len sz
    split at k
    · rename_i cs hcs
      obtain ⟨⟨hut, hul, rfl, hle, hone⟩, k⟩ := k
      have hc := hu.cells hut
      have hrr := repL_rep hc len
      have hlen : (List.replicate len u.cells).flatten.length = len * i.size := by simp [List.length_flatten, hul]
      have hone' : (List.replicate len u.cells).flatten.all AV.one = true := by
        rw [List.all_eq_true] at hone ⊢
        intro y hy
        obtain ⟨l, h1, h2⟩ := List.mem_flatten.1 hy
        rw [(List.mem_replicate.1 h1).2] at h2
        exact hone y h2
      obtain ⟨ba, c, rfl, G', w', q1, q2, q3⟩ := row_store (P := P) s hcs hx hrr hone' (by omega) hle
      refine ⟨.tup [], .tuple #[], _, G', w', ?_, by simp [Rep, RepL], ⟨rfl, k⟩, q2, q3⟩
      rw [← zeroCells_list] at q1
      cases len with
      | zero =>
        have : w' = w := by
          simp [Builtin.zeroCells, storeCells] at q1
          exact q1.symm
        subst this
        simp [Builtin.clear_, ht0, run_underlying ht]
      | succ len => simp [Builtin.clear_, ht0, run_underlying ht, zeroValue, typeInfo, hi, hz, q1]
    · exact k.elim
  · simp only [Rep] at hx
    refine ⟨.tup [], .tuple #[], h, G, w, ?_, by simp [Rep, RepL], ⟨rfl, k⟩, s, Evo.refl _ _ _⟩
    rcases hx with ⟨_, rfl, rfl⟩ | ⟨bb, o, rfl, h2⟩ <;> simp [Builtin.clear_, ht0, run_underlying ht]
  · simp only [Rep] at hx
    refine ⟨.tup [], .tuple #[], h, G, w, ?_, by simp [Rep, RepL], ⟨rfl, k⟩, s, Evo.refl _ _ _⟩
    rcases hx with ⟨_, rfl, rfl⟩ | ⟨bb, o, c, _, rfl, h2⟩ <;> simp [Builtin.clear_, ht0, run_underlying ht]
  · exact k.elim
theorem eClear_mono {size : Nat} {u v : AV} {h : AHeap} {K K' : AHeap → Prop} (hk : ∀ h, K h → K' h) (k : eClear size u v h K) : eClear size u v h K' := by
  unfold eClear at *
  split at k
  · split at k
    · exact ⟨k.1, hk _ k.2⟩
    · exact k.elim
  · exact hk _ k
  · exact hk _ k
  · exact k.elim
end
end Go.Proofs.YtmocchnodigmlaaGreatDoor.AL
