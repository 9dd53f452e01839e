import Derived.Test.YtmocchnodigmlaaGreatDoorAL16
set_option linter.all false
set_option autoImplicit true
set_option relaxedAutoImplicit true
set_option linter.unusedVariables false
set_option linter.unusedSimpArgs false
/-! What a code comes to. -/
namespace Go.Proofs.YtmocchnodigmlaaGreatDoor.AL
variable [Tabs]
section
variable {P : Program} {G : Gh} {h : AHeap} {w : World} {n : Nat}

/-- What a code comes to. -/
def den (P : Program) (n : Nat) (pl : Plan) : Code → Env → AHeap → (Exit → Env → AHeap → Prop) → Prop
  | .skip, env, h, K => K .normal env h
  | .ret, env, h, K => K .ret env h
  | .exit id, env, h, K => K (.exit id) env h
  | .goto l, env, h, K => K (.goto l) env h
  | .label _, env, h, K => K .normal env h
  | .region _ ops false, env, h, K => denIx P n ops (List.range ops.size) env h fun env' h' => K .normal env' h'
  | .region id ops true, env, h, K => match planAt pl (1000000 + id) with
    | some (l, _) => if (P.follows .mixedOrders && canonOk P ops l) = true then denD P n ops (closeM ops l []) l env h [] fun env' h' => K .normal env' h' else False
    | none => False
  | .seq x y, env, h, K => den P n pl x env h fun e env' h' => match e with | .normal => den P n pl y env' h' K | e => K e env' h'
  | .cond c x y, env, h, K => withO (opv env c) fun v => ifB v (den P n pl x env h K) (den P n pl y env h K)
  | .block id c, env, h, K => den P n pl c env h fun e env' h' => match e with | .exit i => if i = id then K .normal env' h' else K (.exit i) env' h' | e => K e env' h'
  | .loop c, env, h, K => match planAt pl (firstId c) with
    | some (ws, ks) => if planOk c ws ks = true then ALoop ws ks (fun env' h' K' => den P n pl c env' h' K') env h K else False
    | none => False
  | _, _, _, _ => False
end

section
variable {P : Program} {n : Nat} {pl : Plan}
theorem getL_length : ∀ {ks : List Nat} {env : Env} {vs : List AV}, getL env ks = some vs → vs.length = ks.length
  | [], env, vs, h => by simp only [getL, Option.some.injEq] at h; subst h; rfl
  | k :: ks, env, vs, h => by
    simp only [getL] at h
    split at h
    · rename_i v vs' h1 h2; cases h; simp [getL_length h2]
    · cases h
theorem get_head : ∀ {ks : List Nat} {vs pre ws : List AV} {env env' : Env} {s : Nat} {a : AV}, vs = pre ++ ws → getL env' ks = some ws → get (headE vs pre.length ks ++ env) s = some a → get env' s = some a ∨ get env s = some a
  | [], vs, pre, ws, env, env', s, a, hv, h, e => .inr (by simpa [headE] using e)
  | k :: ks, vs, pre, ws, env, env', s, a, hv, h, e => by
    simp only [getL] at h
    split at h
    · rename_i v vs' h1 h2
      cases h
      simp only [headE, List.cons_append, get] at e
      split at e
      · rename_i hk
        subst hk
        subst hv
        simp [nthA] at e
        subst e
        exact .inl h1
      · exact get_head (vs := vs) (pre := pre ++ [v]) (ws := vs') (by rw [hv]; simp) h2 (by simpa using e)
    · cases h
theorem head_self {ks : List Nat} {vs : List AV} {env env' : Env} (h : getL env ks = some vs) (k : ∀ s a, get env' s = some a → get env s = some a) (s : Nat) (a : AV) (e : get (headE vs 0 ks ++ env') s = some a) : get env s = some a :=
  (get_head (pre := []) (by simp) h e).elim id (k s a)

/-- What stands in slots that are not written stays. -/
def Keep (ws : List Nat) (env env' : Env) : Prop := ∀ s, s ∉ ws → get env' s = get env s
theorem Keep.refl (ws : List Nat) (env : Env) : Keep ws env env := fun _ _ => rfl
theorem Keep.trans {ws : List Nat} {a b c : Env} (x : Keep ws a b) (y : Keep ws b c) : Keep ws a c := fun s hs => (y s hs).trans (x s hs)
theorem Keep.mono {ws ws' : List Nat} {a b : Env} (x : Keep ws a b) (h : ∀ s, s ∈ ws → s ∈ ws') : Keep ws' a b := fun s hs => x s fun m => hs (h s m)
theorem Keep.putD {ws : List Nat} (env : Env) {d : Option Tmp} (v : AV) (h : ∀ s, d = some s → s ∈ ws) : Keep ws env (putD env d v) := fun s hs => by
  cases d with
  | none => rfl
  | some d =>
    simp only [AL.putD, get]
    rw [if_neg (fun e => by subst e; exact hs (h d rfl))]
theorem Keep.know {ws : List Nat} (env : Env) {s : Nat} (v : AV) (h : s ∈ ws) : Keep ws env ((s, v) :: env) := fun k hk => by
  simp only [get]
  rw [if_neg (fun e => by subst e; exact hk h)]

def dsts (ops : Array Oper) : List Nat := ops.toList.filterMap (·.dst)
theorem mem_dsts {ops : Array Oper} {i s : Nat} {o : Oper} (ho : ops[i]? = some o) (hd : o.dst = some s) : s ∈ dsts ops := by
  simp only [dsts, List.mem_filterMap]
  exact ⟨o, Array.mem_toList_iff.2 (Array.mem_of_getElem? ho), hd⟩

theorem stepO_mono {env : Env} {h : AHeap} {o : Oper} {K K' : Env → AHeap → Prop} (hk : ∀ v h', K (putD env o.dst v) h' → K' (putD env o.dst v) h') (k : stepO P n env h o K) : stepO P n env h o K' := by
  unfold stepO at *
  split at k
  · rename_i hd; rw [if_pos hd]; exact aop_mono (fun v h' k => hk v h' k) k
  · exact k.elim

theorem denIx_mono (ops : Array Oper) : ∀ (l : List Nat) (env : Env) (h : AHeap) (K K' : Env → AHeap → Prop), (∀ env' h', Keep (dsts ops) env env' → K env' h' → K' env' h') → denIx P n ops l env h K → denIx P n ops l env h K'
  | [], env, h, K, K', hk, k => hk env h (Keep.refl _ _) k
  | i :: rest, env, h, K, K', hk, k => by
    unfold denIx at *
    split at k
    · exact k.elim
    · rename_i o ho
      have hd : ∀ s, o.dst = some s → s ∈ dsts ops := fun s e => mem_dsts ho e
      have go : ∀ {env1 : Env}, Keep (dsts ops) env env1 → stepO P n env1 h o (fun env' h' => denIx P n ops rest env' h' K) → stepO P n env1 h o (fun env' h' => denIx P n ops rest env' h' K') := fun hk1 k =>
        stepO_mono (fun v h' k => denIx_mono ops rest _ h' K K' (fun env2 h2 hk2 k2 => hk env2 h2 ((hk1.trans (Keep.putD _ v hd)).trans hk2) k2) k) k
      have skip : ∀ {env1 : Env}, Keep (dsts ops) env env1 → denIx P n ops rest (putD env1 o.dst (.tup [])) h K → denIx P n ops rest (putD env1 o.dst (.tup [])) h K' := fun hk1 k =>
        denIx_mono ops rest _ h K K' (fun env2 h2 hk2 k2 => hk env2 h2 ((hk1.trans (Keep.putD _ _ hd)).trans hk2) k2) k
      split at k
      · exact go (Keep.refl _ _) k
      · rename_i j want hg
        split at k
        · exact k.elim
        · rename_i sl hsl
          have hs : sl ∈ dsts ops := by
            cases hj : ops[j]? with
            | none => simp [hj] at hsl
            | some oj => rw [hj] at hsl; exact mem_dsts hj (by simpa using hsl)
          refine withO_mono (fun v k => ifG_mono ?_ ?_ ?_ k) _ k
          · intro k
            split at k
            · rename_i hw; rw [if_pos hw]; exact go (Keep.know _ _ hs) k
            · rename_i hw
              rw [if_neg hw]
              split at k
              · rename_i hd; rw [if_pos hd]; exact skip (Keep.know _ _ hs) k
              · exact k.elim
          · intro k
            split at k
            · rename_i hw
              rw [if_pos hw]
              split at k
              · rename_i hd; rw [if_pos hd]; exact skip (Keep.know _ _ hs) k
              · exact k.elim
            · rename_i hw; rw [if_neg hw]; exact go (Keep.know _ _ hs) k
          · intro k
            split at k
            · rename_i hd; rw [if_pos hd]; exact skip (Keep.know _ _ hs) k
            · exact k.elim

theorem pendOk_mono {m : Nat} {h : AHeap} {k k' : Prop} (hk : k → k') : ∀ {pend : Pend}, pendOk m pend h k → pendOk m pend h k'
  | [], x => hk x
  | (q, c) :: r, x => by
    simp only [pendOk] at x ⊢
    split at x
    · rename_i hb; rw [if_pos hb]; exact pendOk_mono hk x
    · rename_i hb; rw [if_neg hb]; exact ⟨x.1, pendOk_mono hk x.2⟩
theorem stepD_mono {m i : Nat} {env : Env} {h : AHeap} {o : Oper} {pend : Pend} {K K' : Env → AHeap → Pend → Prop} (hk : ∀ v h' pend', K (putD env o.dst v) h' pend' → K' (putD env o.dst v) h' pend') (k : stepD P n m i o env h pend K) : stepD P n m i o env h pend K' := by
  unfold stepD at *
  by_cases hd : dstOk n o.dst = true
  · rw [if_pos hd] at k ⊢
    by_cases hq : qOp P o.op = true
    · rw [if_pos hq] at k ⊢; exact aop_mono (fun v h' k => hk v h' _ k) k
    · rw [if_neg hq] at k ⊢; exact aop_mono (fun v h' k => pendOk_mono (hk v h' _) k) k
  · rw [if_neg hd] at k; exact k.elim
theorem denD_mono (ops : Array Oper) (ms : List (Nat × Nat)) : ∀ (l : List Nat) (env : Env) (h : AHeap) (pend : Pend) (K K' : Env → AHeap → Prop), (∀ env' h', Keep (dsts ops) env env' → K env' h' → K' env' h') → denD P n ops ms l env h pend K → denD P n ops ms l env h pend K'
  | [], env, h, pend, K, K', hk, k => hk env h (Keep.refl _ _) k
  | i :: rest, env, h, pend, K, K', hk, k => by
    unfold denD at *
    split at k
    · exact k.elim
    · rename_i o ho
      have hd : ∀ s, o.dst = some s → s ∈ dsts ops := fun s e => mem_dsts ho e
      have go : ∀ {env1 : Env}, Keep (dsts ops) env env1 → stepD P n (mask ms i) i o env1 h pend (fun env' h' pend' => denD P n ops ms rest env' h' pend' K) → stepD P n (mask ms i) i o env1 h pend (fun env' h' pend' => denD P n ops ms rest env' h' pend' K') := fun hk1 k =>
        stepD_mono (fun v h' pend' k => denD_mono ops ms rest _ h' pend' K K' (fun env2 h2 hk2 k2 => hk env2 h2 ((hk1.trans (Keep.putD _ v hd)).trans hk2) k2) k) k
      have skip : ∀ {env1 : Env}, Keep (dsts ops) env env1 → denD P n ops ms rest (putD env1 o.dst (.tup [])) h pend K → denD P n ops ms rest (putD env1 o.dst (.tup [])) h pend K' := fun hk1 k =>
        denD_mono ops ms rest _ h pend K K' (fun env2 h2 hk2 k2 => hk env2 h2 ((hk1.trans (Keep.putD _ _ hd)).trans hk2) k2) k
      split at k
      · exact go (Keep.refl _ _) k
      · rename_i j want hg
        split at k
        · exact k.elim
        · rename_i sl hsl
          have hs : sl ∈ dsts ops := by
            cases hj : ops[j]? with
            | none => simp [hj] at hsl
            | some oj => rw [hj] at hsl; exact mem_dsts hj (by simpa using hsl)
          refine withO_mono (fun v k => ifG_mono ?_ ?_ ?_ k) _ k
          · intro k
            split at k
            · rename_i hw; rw [if_pos hw]; exact go (Keep.know _ _ hs) k
            · rename_i hw
              rw [if_neg hw]
              split at k
              · rename_i hd; rw [if_pos hd]; exact skip (Keep.know _ _ hs) k
              · exact k.elim
          · intro k
            split at k
            · rename_i hw
              rw [if_pos hw]
              split at k
              · rename_i hd; rw [if_pos hd]; exact skip (Keep.know _ _ hs) k
              · exact k.elim
            · rename_i hw; rw [if_neg hw]; exact go (Keep.know _ _ hs) k
          · intro k
            split at k
            · rename_i hd; rw [if_pos hd]; exact skip (Keep.know _ _ hs) k
            · exact k.elim

theorem get_drop_mem {ws : List Nat} : ∀ {env : Env} {s : Nat} {a : AV}, get (dropE ws env) s = some a → s ∉ ws
  | [], s, a, e => by simp [dropE, get] at e
  | (k, v) :: env, s, a, e => by
    simp only [dropE, List.filter_cons] at e
    split at e
    · rename_i hc
      simp only [get] at e
      split at e
      · rename_i hk; subst hk; simpa using hc
      · exact get_drop_mem (env := env) e
    · exact get_drop_mem (env := env) e
theorem get_drop_eq {ws : List Nat} {s : Nat} (hs : s ∉ ws) : ∀ (env : Env), get (dropE ws env) s = get env s
  | [] => rfl
  | (k, v) :: env => by
    simp only [dropE, List.filter_cons]
    have ih := get_drop_eq hs env
    simp only [dropE] at ih
    split
    · simp only [get, ih]
    · rename_i hc
      have hne : k ≠ s := fun e => by subst e; simp at hc; exact hs hc
      simp only [get, if_neg hne, ih]
theorem get_head_ne : ∀ {ks : List Nat} {vs : List AV} {i : Nat} {env : Env} {s : Nat}, s ∉ ks → get (headE vs i ks ++ env) s = get env s
  | [], vs, i, env, s, _ => by simp [headE]
  | k :: ks, vs, i, env, s, h => by
    simp only [List.mem_cons, not_or] at h
    simp only [headE, List.cons_append, get, if_neg (Ne.symm h.1)]
    exact get_head_ne h.2
theorem den_mono : ∀ (c : Code) (env : Env) (h : AHeap) (K K' : Exit → Env → AHeap → Prop), (∀ e env' h', Keep (writes c) env env' → K e env' h' → K' e env' h') → den P n pl c env h K → den P n pl c env h K' := by
  intro c
  induction c with
  | skip => exact fun env h K K' hk k => hk _ _ _ (Keep.refl _ _) k
  | ret => exact fun env h K K' hk k => hk _ _ _ (Keep.refl _ _) k
  | exit id => exact fun env h K K' hk k => hk _ _ _ (Keep.refl _ _) k
  | goto l => exact fun env h K K' hk k => hk _ _ _ (Keep.refl _ _) k
  | label l => exact fun env h K K' hk k => hk _ _ _ (Keep.refl _ _) k
  | region id ops d =>
    intro env h K K' hk k
    cases d with
    | false => exact denIx_mono ops _ env h _ _ (fun env' h' q k => hk _ _ _ q k) k
    | true =>
      unfold den at k ⊢
      split at k
      · rename_i l x hp
        split at k
        · rename_i hok
          rw [if_pos hok]
          exact denD_mono ops _ _ env h _ _ _ (fun env' h' q k => hk _ _ _ q k) k
        · exact k.elim
      · exact k.elim
  | seq x y hx hy =>
    intro env h K K' hk k
    refine hx env h _ _ (fun e env1 h1 q k => ?_) k
    have q' : Keep (writes (.seq x y)) env env1 := q.mono fun s hs => by simp only [writes, List.mem_append]; exact .inl hs
    cases e <;> first
      | exact hk _ _ _ q' k
      | exact hy env1 h1 _ _ (fun e env2 h2 q2 k2 => hk _ _ _ (q'.trans (q2.mono fun s hs => by simp only [writes, List.mem_append]; exact .inr hs)) k2) k
  | cond c x y hx hy =>
    intro env h K K' hk k
    refine withO_mono (fun v k => ifB_mono (fun k => ?_) (fun k => ?_) k) _ k
    · exact hx env h _ _ (fun e env' h' q k => hk _ _ _ (q.mono fun s hs => by simp only [writes, List.mem_append]; exact .inl hs) k) k
    · exact hy env h _ _ (fun e env' h' q k => hk _ _ _ (q.mono fun s hs => by simp only [writes, List.mem_append]; exact .inr hs) k) k
  | block id c hc =>
    intro env h K K' hk k
    refine hc env h _ _ (fun e env' h' q k => ?_) k
    cases e <;> first
      | exact hk _ _ _ q k
      | (simp only at k ⊢
         split at k
         · rename_i hi; rw [if_pos hi]; exact hk _ _ _ q k
         · rename_i hi; rw [if_neg hi]; exact hk _ _ _ q k)
  | loop c hc =>
    intro env h K K' hk k
    unfold den at k ⊢
    split at k
    · rename_i ws ks hp
      split at k
      · rename_i hok
        rw [if_pos hok]
        obtain ⟨ho1, ho3, ho2⟩ := planOk_spec hok
        refine withL_mono (fun vs0 k => ?_) _ k
        obtain ⟨⟨J, h0, hr⟩⟩ := k
        refine ⟨⟨J, h0, fun k vs h' hJ => hc _ _ _ _ (fun e env' h'' q k => ?_) (hr k vs h' hJ)⟩⟩
        have q' : Keep ws env env' := fun s hs => by
          rw [q.mono ho1 s hs, get_head_ne (fun m => hs (ho2 s m)), get_drop_eq hs]
        have q'' : Keep (writes (.loop c)) env env' := q'.mono ho3
        cases e <;> first
          | exact k
          | exact hk _ _ _ q'' k
      · exact k.elim
    · exact k.elim
  | scope c hc => exact fun env h K K' hk k => k.elim
  | rangeFunc f ps a b ha hb => exact fun env h K K' hk k => k.elim
  | refuse why => exact fun env h K K' hk k => k.elim

theorem den_ok : ∀ (c : Code) (env : Env) (h : AHeap) (K : Exit → Env → AHeap → Prop), den P n pl c env h K → AWp P n c env h K := by
  intro c
  induction c with
  | skip => exact fun env h K k => awp_skip k
  | ret => exact fun env h K k => awp_ret k
  | exit id => exact fun env h K k => awp_exit k
  | goto l => exact fun env h K k => awp_goto k
  | label l => exact fun env h K k => awp_label k
  | region id ops d =>
    intro env h K k
    cases d with
    | false => exact awp_region k
    | true =>
      unfold den at k
      split at k
      · rename_i l x hp
        split at k
        · rename_i hok
          simp only [Bool.and_eq_true] at hok
          exact awp_drawn hok.1 hok.2 k
        · exact k.elim
      · exact k.elim
  | seq x y hx hy =>
    intro env h K k
    refine awp_seq ((hx env h _ k).mono fun e env' h' q => ?_)
    cases e <;> first | exact hy _ _ _ q | exact q
  | cond c x y hx hy =>
    intro env h K k
    refine awp_cond ?_
    obtain ⟨v, h1, h2⟩ := withO_ok k
    simp only [h1, withO]
    unfold ifB at h2 ⊢
    split at h2
    · exact hx _ _ _ h2
    · exact hy _ _ _ h2
    · exact h2.elim
  | block id c hc => exact fun env h K k => awp_block (hc env h _ k)
  | loop c hc =>
    intro env h K k
    unfold den at k
    split at k
    · rename_i ws ks hp
      split at k
      · rename_i hok
        obtain ⟨ho1, ho3, ho2⟩ := planOk_spec hok
        obtain ⟨vs0, hv0, ⟨J, ⟨k0, hJ0⟩, hr⟩⟩ := withL_ok k
        clear k
        -- what is known at each round's beginning
        have hweak : ∀ {env1 env2 : Env} {h : AHeap} {K : Exit → Env → AHeap → Prop} {c : Code}, (∀ s a, get env2 s = some a → get env1 s = some a) → AWp P n c env2 h K → AWp P n c env1 h K :=
          fun hs k G w a s hn r => k G w a s hn fun q b e => r q b (hs q b e)
        refine awp_loop (fun k env' h' => ∃ vs, env' = headE vs 0 ks ++ dropE ws env ∧ J k vs h') ?_ ?_ |> hweak (env2 := headE vs0 0 ks ++ dropE ws env) (head_self hv0 fun s a e => get_filter e)
        · exact ⟨k0, vs0, rfl, hJ0⟩
        · rintro k env' h' ⟨vs, rfl, hJ⟩
          refine (hc _ _ _ (den_mono c _ _ _ (fun e env2 h2 => (match e with | .normal => withL (getL env2 ks) fun vs' => ∃ m, m < k ∧ J m vs' h2 | e => K e env2 h2) ∧ Keep (writes c) (headE vs 0 ks ++ dropE ws env) env2) (fun e env2 h2 q k => ⟨k, q⟩) (hr k vs h' hJ))).mono fun e env2 h2 q => ?_
          obtain ⟨q, hkeep⟩ := q
          cases e <;> first
            | exact q
            | (obtain ⟨vs', hv', m, hm, hJ'⟩ := withL_ok q
               refine ⟨m, headE vs' 0 ks ++ dropE ws env, hm, ⟨vs', rfl, hJ'⟩, fun s a e => ?_⟩
               rcases get_head (pre := []) (by simp) hv' e with e | e
               · exact e
               · have hs := get_drop_mem e
                 rw [hkeep s (fun m => hs (ho1 s m)), get_head_ne (fun m => hs (ho2 s m))]
                 exact e)
      · exact k.elim
    · exact k.elim
  | scope c hc => exact fun env h K k => k.elim
  | rangeFunc f ps a b ha hb => exact fun env h K k => k.elim
  | refuse why => exact fun env h K k => k.elim
end
end Go.Proofs.YtmocchnodigmlaaGreatDoor.AL
