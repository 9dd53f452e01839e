import Derived.Test.YtmocchnodigmlaaGreatDoorAL15
set_option linter.all false
set_option autoImplicit true
set_option relaxedAutoImplicit true
set_option linter.unusedVariables false
set_option linter.unusedSimpArgs false
/-! Regions whose order is drawn: one order stands for all. -/
namespace Go.Proofs.YtmocchnodigmlaaGreatDoor.AL
variable [Tabs]
section
variable {P : Program} {n : Nat} {ops : Array Oper} {L : List Nat} {ms : List (Nat × Nat)}

theorem denD_cons {p : Nat} {r : List Nat} {env : Env} {h : AHeap} {pend : Pend} {K : Env → AHeap → Prop} (k : denD P n ops ms (p :: r) env h pend K) :
    ∃ o env1, ops[p]? = some o ∧ (∀ s, get env1 s = get env s) ∧
      ((guardIs ops o env1 true ∧ stepD P n (mask ms p) p o env1 h pend fun env' h' pend' => denD P n ops ms r env' h' pend' K) ∨
       (guardIs ops o env1 false ∧ dstOk n o.dst = true ∧ denD P n ops ms r (putD env1 o.dst (.tup [])) h pend K)) := by
  unfold denD at k
  split at k
  · exact k.elim
  · rename_i o ho
    split at k
    · rename_i hg
      exact ⟨o, env, ho, fun _ => rfl, .inl ⟨by simp [guardIs, hg], k⟩⟩
    · rename_i j want hg
      split at k
      · exact k.elim
      · rename_i s hs
        obtain ⟨v, hv, k⟩ := withO_ok k
        have same : ∀ {u : AV}, v = u → ∀ t, get ((s, u) :: env) t = get env t := fun e t => by
          simp only [get]; split
          · rename_i h; subst h; rw [hv, e]
          · rfl
        replace k := ifG_cases k
        rcases k with ⟨e, k⟩ | ⟨e, k⟩ | ⟨e, k⟩
        · refine ⟨o, (s, B true) :: env, ho, same e, ?_⟩
          cases want
          · simp only [Bool.false_eq_true, if_false] at k
            split at k
            · exact .inr ⟨by simp only [guardIs, hg]; exact ⟨s, hs, .inl (by simp [get])⟩, ‹_›, k⟩
            · exact k.elim
          · simp only [if_true] at k
            exact .inl ⟨by simp only [guardIs, hg]; exact ⟨s, hs, .inl (by simp [get])⟩, k⟩
        · refine ⟨o, (s, B false) :: env, ho, same e, ?_⟩
          cases want
          · simp only [Bool.false_eq_true, if_false] at k
            exact .inl ⟨by simp only [guardIs, hg]; exact ⟨s, hs, .inl (by simp [get])⟩, k⟩
          · simp only [if_true] at k
            split at k
            · exact .inr ⟨by simp only [guardIs, hg]; exact ⟨s, hs, .inl (by simp [get])⟩, ‹_›, k⟩
            · exact k.elim
        · refine ⟨o, (s, .tup []) :: env, ho, same e, ?_⟩
          split at k
          · exact .inr ⟨by simp only [guardIs, hg]; exact ⟨s, hs, .inr ⟨by simp, by simp [get]⟩⟩, ‹_›, k⟩
          · exact k.elim

variable {D : Nat → Bool} {env0 : Env} {G : Gh} {tmps : Array Value} {h : AHeap} {K : Env → AHeap → Prop} (hc : Canon P ops L)
include hc

theorem get_putD_self {env : Env} {d : Nat} {o : Option Tmp} (h : o = some d) (v : AV) : get (putD env o v) d = some v := by subst h; simp [putD, get]

theorem advance {i : Nat} {oi : Oper} (hi : ops[i]? = some oi) (hD : D i = false) (hp : ∀ p ∈ preds oi, D p = true) : ∀ (rest C : List Nat) (env : Env) (pend : Pend), Inv ops L D C rest env0 env G tmps → denD P n ops ms rest env h pend K →
    (∀ q ∈ C, D q = false → ∀ oq, ops[q]? = some oq → Known P n ops q oq env0 env h pend) →
    ∃ C' rest' env' pend', Inv ops L D C' rest' env0 env' G tmps ∧ denD P n ops ms rest' env' h pend' K ∧ (∀ q ∈ C', D q = false → ∀ oq, ops[q]? = some oq → Known P n ops q oq env0 env' h pend') ∧ (i ∈ C' ∨ ∃ post, rest' = i :: post ∧ qOp P oi.op = false)
  | [], C, env, pend, I, k, kn => by
    refine ⟨C, [], env, pend, I, k, kn, .inl ?_⟩
    have := hc.all i oi hi
    rw [I.split] at this
    simpa using this
  | p :: r, C, env, pend, I, k, kn => by
    by_cases hm : i ∈ C
    · exact ⟨C, p :: r, env, pend, I, k, kn, .inl hm⟩
    have k0 := k
    obtain ⟨o, env1, ho, hsame, k⟩ := denD_cons k
    by_cases hq : qOp P o.op = true
    · -- one that changes nothing
      have fin : ∀ (v : AV) (pend' : Pend), (∀ x ∈ pend, x ∈ pend') → dstOk n o.dst = true → denD P n ops ms r (putD env1 o.dst v) h pend' K →
          ((guardIs ops o env1 false ∧ v = .tup []) ∨ (guardIs ops o env1 true ∧ qOp P o.op = true ∧ (aop P env1 h o fun r h' => r = v ∧ h' = h) ∧ (hOp P o.op = true → (p, fun h2 => aop P env1 h2 o fun r _ => r = v) ∈ pend'))) →
          ∃ C' rest' env' pend', Inv ops L D C' rest' env0 env' G tmps ∧ denD P n ops ms rest' env' h pend' K ∧ (∀ q ∈ C', D q = false → ∀ oq, ops[q]? = some oq → Known P n ops q oq env0 env' h pend') ∧ (i ∈ C' ∨ ∃ post, rest' = i :: post ∧ qOp P oi.op = false) := by
        intro v pend' hpe hd k hk
        refine advance hi hD hp r (C ++ [p]) (putD env1 o.dst v) pend' (I.grow hc rfl ho hsame) k fun q hqm hqD oq hoq => ?_
        rcases List.mem_append.1 hqm with hqm | hqm
        · exact (kn q hqm hqD oq hoq).grow hc I rfl ho hsame hoq hqm hpe
        · have : q = p := by simpa using hqm
          subst this
          rw [ho] at hoq; cases hoq
          have se := I.sees hc rfl ho hsame
          have e : L = C ++ q :: r := I.split
          refine ⟨hd, env1, v, ⟨fun s hs hw => ?_, se.r2⟩, fun d hdd => get_putD_self hc hdd v, hk⟩
          rw [I.get_put hc rfl ho hsame, hsame]
          intro hds
          obtain ⟨i0, o0, h1, h2, h3⟩ := hw
          have := hc.uniq h1 ho h2 hds
          subst this
          exact hc.self ho h3
      rcases k with ⟨hg, k⟩ | ⟨hg, hd, k⟩
      · unfold stepD at k
        by_cases hd : dstOk n o.dst = true
        · rw [if_pos hd, if_pos hq] at k
          obtain ⟨v, k1, k2⟩ := aop_val hq k
          refine fin v _ (fun x hx => ?_) hd k1 (.inr ⟨hg, hq, k2, fun hh => ?_⟩)
          · split
            · exact List.mem_cons_of_mem _ hx
            · exact hx
          · rw [if_pos hh]; simp
        · rw [if_neg hd] at k; exact k.elim
      · exact fin (.tup []) pend (fun _ h => h) hd k (.inl ⟨hg, rfl⟩)
    · by_cases hpi : p = i
      · subst hpi
        rw [hi] at ho; cases ho
        exact ⟨C, p :: r, env, pend, I, k0, kn, .inr ⟨r, rfl, by simpa using hq⟩⟩
      · exfalso
        have hir : i ∈ r := by
          have := hc.all i oi hi
          rw [I.split] at this
          simp only [List.mem_append, List.mem_cons] at this
          rcases this with h | h | h
          · exact (hm h).elim
          · exact (hpi h.symm).elim
          · exact h
        rcases (hc.pair (A := C ++ [p]) (B := r) (by rw [I.split]; simp) p (by simp) i hir o oi ho hi).2.2 with h | h
        · have := h D I.closed fun o' ho' p' hp' => by rw [hi] at ho'; cases ho'; exact hp p' hp'
          exact hc.notMem I.split (I.sub p this)
        · exact hq h.1

theorem exec_ok {Q : Exit → Act → World → Prop} {next : Act → World → Prop} {o : Oper} {envq : Env} {a : Act} {w : World} {K' : AV → AHeap → Prop} (s : Sim G h w) (r : EnvRep G (restr envq (o.looksAt ops)) a.tmps) (k : aop P envq h o K')
    (hnext : ∀ v x h' G' w', Rep G' v x → K' v h' → Sim G' h' w' → Evo G h w G' h' w' → next (a.put o.dst x) w') : o.wp P a w next Q := by
  have k' : aop P (restr envq (o.looksAt ops)) h o K' := by
    rw [aop_congr (env' := envq)]
    · exact k
    · intro t ht
      exact get_restr (List.mem_append_left _ ht)
  unfold Oper.wp
  refine upon_of_upV ?_
  have := aop_ok s r k'
  unfold UpV at this ⊢
  split at this
  · obtain ⟨v, h', G', q1, q2, q3, q4⟩ := this; exact hnext _ _ _ _ _ q1 q2 q3 q4
  · obtain ⟨v, h', G', q1, q2, q3, q4⟩ := this; exact hnext _ _ _ _ _ q1 q2 q3 q4
  · exact Calls.mono this fun e w'' ⟨x, he, hv⟩ => ⟨x, he, by obtain ⟨v, h', G', q1, q2, q3, q4⟩ := hv; exact hnext _ _ _ _ _ q1 q2 q3 q4⟩
  · exact this.elim

omit hc in
theorem first_of {p : Nat → Prop} : ∀ {L : List Nat}, (∃ x ∈ L, p x) → ∃ A i B, L = A ++ i :: B ∧ p i ∧ ∀ x ∈ A, ¬ p x
  | [], h => by obtain ⟨x, hx, _⟩ := h; cases hx
  | y :: L, h => by
    by_cases hy : p y
    · exact ⟨[], y, L, rfl, hy, fun x hx => by cases hx⟩
    · obtain ⟨x, hx, hpx⟩ := h
      rcases List.mem_cons.1 hx with rfl | hx
      · exact (hy hpx).elim
      · obtain ⟨A, i, B, rfl, h1, h2⟩ := first_of ⟨x, hx, hpx⟩
        refine ⟨y :: A, i, B, rfl, h1, fun x hx => ?_⟩
        rcases List.mem_cons.1 hx with rfl | hx
        · exact hy
        · exact h2 x hx

/-- All are done: the order has come to its end. -/
theorem allDone {C rest : List Nat} {env : Env} {pend : Pend} (I : Inv ops L D C rest env0 env G tmps) (hall : ∀ i o, ops[i]? = some o → D i = true) (k : denD P n ops ms rest env h pend K) : K env h ∧ EnvRep G env tmps := by
  refine ⟨?_, fun s v e => I.new s v (fun i o hi _ => hall i o hi) e⟩
  cases rest with
  | nil => exact k
  | cons p r =>
    exfalso
    obtain ⟨o, ho, _⟩ := hc.order I.split
    exact hc.notMem I.split (I.sub p (hall p o ho))

theorem wpAny_ok (hms : ms = closeM ops L []) {h0 : AHeap} {G0 : Gh} {w0 : World} {Df : List Deferred} {Q : Exit → Act → World → Prop} (hq : ∀ a' w', OpsPost G0 h0 w0 n Df K a' w' → Q .normal a' w') :
    ∀ (fuel : Nat) (listed : Array Bool) (a : Act) (w : World) (G : Gh) (h : AHeap) (C rest : List Nat) (env : Env) (pend : Pend) (U : List Nat), listed.size = ops.size →
      Inv ops L (fun k => listed.getD k false) C rest env0 env G a.tmps → (∀ q ∈ C, listed.getD q false = false → ∀ oq, ops[q]? = some oq → Known P n ops q oq env0 env h pend) → Sim G h w → a.tmps.size = n → a.defers = Df → Evo G0 h0 w0 G h w →
      denD P n ops ms rest env h pend K → U.length ≤ fuel → (∀ i, i < ops.size → listed.getD i false = false → i ∈ U) → wpAny P .any ops Q fuel listed a w := by
  intro fuel
  induction fuel with
  | zero =>
    intro listed a w G h C rest env pend U hsz I kn s hn hdf ev k hU hUm
    have hU0 : U = [] := by simpa using hU
    subst hU0
    have hall : ∀ i o, ops[i]? = some o → listed.getD i false = true := fun i o ho => by
      cases hd : listed.getD i false with
      | true => rfl
      | false => have := hUm i (Array.getElem?_eq_some_iff.1 ho).1 hd; cases this
    obtain ⟨k1, k2⟩ := allDone hc I hall k
    refine ⟨?_, hq a w ⟨env, h, G, k1, s, ev, k2, hn, hdf⟩⟩
    apply List.eq_nil_iff_forall_not_mem.2
    intro i hi
    obtain ⟨hi0, o, ho, _⟩ := mem_ready.1 hi
    have h1 := hall i o ho
    have hlt : i < listed.size := by rw [hsz]; exact (Array.getElem?_eq_some_iff.1 ho).1
    simp [hlt] at hi0 h1
    rw [hi0] at h1; cases h1
  | succ fuel ih =>
    intro listed a w G h C rest env pend U hsz I kn s hn hdf ev k hU hUm
    refine ⟨fun hr => ?_, fun i hir => ?_⟩
    · -- nothing is ready: all is done
      have hall : ∀ i o, ops[i]? = some o → listed.getD i false = true := fun i o ho => by
        cases hd : listed.getD i false with
        | true => rfl
        | false =>
          exfalso
          obtain ⟨A, j, B, e, h1, h2⟩ := first_of (p := fun k => listed.getD k false = false) ⟨i, hc.all i o ho, hd⟩
          obtain ⟨oj, hj, hpj⟩ := hc.order e
          have : j ∈ Region.ready .any ops listed := mem_ready.2 ⟨by
            have hlt : j < listed.size := by rw [hsz]; exact (Array.getElem?_eq_some_iff.1 hj).1
            simp [hlt] at h1 ⊢; exact h1, oj, hj, fun e he hb => by
              have := h2 e.on (hpj e.on (List.mem_map.2 ⟨e, List.mem_filter.2 ⟨by simpa using he, hb⟩, rfl⟩))
              simpa using this⟩
          rw [hr] at this; cases this
      obtain ⟨k1, k2⟩ := allDone hc I hall k
      exact hq a w ⟨env, h, G, k1, s, ev, k2, hn, hdf⟩
    · obtain ⟨hi0, o, ho, hpre⟩ := mem_ready.1 hir
      have hlt : i < listed.size := by rw [hsz]; exact (Array.getElem?_eq_some_iff.1 ho).1
      have hD : listed.getD i false = false := by simp [hlt] at hi0 ⊢; exact hi0
      have hp : ∀ p ∈ preds o, listed.getD p false = true := fun p hp => by
        obtain ⟨e, he, rfl⟩ := List.mem_map.1 hp
        obtain ⟨he1, he2⟩ := List.mem_filter.1 he
        exact hpre e (by simpa using he1) he2
      obtain ⟨C', rest', env', pend', I', k', kn', hcase⟩ := advance hc ho hD hp rest C env pend I k kn
      have hD' : ∀ k, (listed.setIfInBounds i true).getD k false = true ↔ k = i ∨ listed.getD k false = true := fun k => by
        by_cases hki : i = k
        · subst hki; simp [hlt]
        · rw [getD_set_ne false hki]; simp [Ne.symm hki]
      have hDf : ∀ k, (listed.setIfInBounds i true).getD k false = false → k ≠ i ∧ listed.getD k false = false := fun k hk => by
        have := hD' k
        rw [hk] at this
        simp only [Bool.false_eq_true, false_iff, not_or, Bool.not_eq_true] at this
        exact this
      have hU' : (U.erase i).length ≤ fuel := by
        have := hUm i (by rw [← hsz]; exact hlt) hD
        rw [List.length_erase_of_mem this]; omega
      have hUm' : ∀ j, j < ops.size → (listed.setIfInBounds i true).getD j false = false → j ∈ U.erase i := fun j hj hjD => by
        obtain ⟨q1, q2⟩ := hDf j hjD
        exact (List.mem_erase_of_ne q1).2 (hUm j hj q2)
      unfold wpOp
      simp only [ho]
      rcases hcase with hm | ⟨post, rfl, hnq⟩
      · -- known already
        obtain ⟨hd, envq, v, se, hv, hk⟩ := (kn' i hm hD o ho).out
        have hr := I'.reads hc ho hD hp se
        have go : ∀ (x : Value) (G' : Gh) (w' : World), Rep G' v x → Sim G' h w' → Evo G h w G' h w' → wpAny P .any ops Q fuel (listed.setIfInBounds i true) (a.put o.dst x) w' := fun x G' w' hx s' ev' =>
          ih _ _ w' G' h C' rest' env' pend' (U.erase i) (by simp [hsz]) ((I'.mono ev'.le).done hc ho hm hp hD' rfl (by rw [hn]; exact hd) hv hx)
            (fun q hqm hqD oq hoq => kn' q hqm (hDf q hqD).2 oq hoq) s' (by rw [AL.put_size, hn]) (by rw [AL.put_defers, hdf]) (ev.trans ev') k' hU' hUm'
        rcases hk with ⟨hg, rfl⟩ | ⟨hg, hqo, hk, _⟩
        · rw [guard_wanted' hr hg]
          simp only [Bool.false_eq_true, if_false]
          exact go undef G w (by simp [Rep, RepL, undef]) s (Evo.refl _ _ _)
        · rw [guard_wanted' hr hg]
          simp only [if_true]
          refine .inl (exec_ok (G := G) (h := h) hc s hr hk fun v' x h' G' w' hx hk' s' ev' => ?_)
          obtain ⟨rfl, rfl⟩ := hk'
          exact go x G' w' hx s' ev'
      · -- the next one in the order
        obtain ⟨o', env1, ho', hsame, k'⟩ := denD_cons k'
        rw [ho] at ho'; cases ho'
        have se := I'.sees hc rfl ho hsame
        have hr := I'.reads hc ho hD hp se
        have grown : ∀ {v : AV} {q : Nat} {oq : Oper} {pend2 : Pend}, ops[q]? = some oq → q ∈ C' ++ [i] → (listed.setIfInBounds i true).getD q false = false → Known P n ops q oq env0 (putD env1 o.dst v) h pend' := fun {v q oq pend2} hoq hqm hqD => by
          obtain ⟨q1, q2⟩ := hDf q hqD
          have hqm : q ∈ C' := by
            rcases List.mem_append.1 hqm with h | h
            · exact h
            · exact (q1 (by simpa using h)).elim
          exact (kn' q hqm q2 oq hoq).grow hc I' rfl ho hsame hoq hqm fun _ h => h
        rcases k' with ⟨hg, k'⟩ | ⟨hg, hd, k'⟩
        · rw [guard_wanted' hr hg]
          simp only [if_true]
          unfold stepD at k'
          by_cases hd : dstOk n o.dst = true
          · rw [if_pos hd, if_neg (by simp [hnq])] at k'
            refine .inl (exec_ok (G := G) (h := h) hc s hr k' fun v x h' G' w' hx hk' s' ev' => ?_)
            obtain ⟨hk1, hk2⟩ := pendOk_out hk'
            have I2 := ((I'.grow hc rfl ho hsame (v := v)).mono ev'.le).done hc ho (by simp) hp hD' (a := a) rfl (by rw [hn]; exact hd) (fun d hdd => get_putD_self hc hdd v) hx
            refine ih _ _ w' G' h' _ post _ pend' (U.erase i) (by simp [hsz]) I2 (fun q hqm hqD oq hoq => ?_) s' (by rw [AL.put_size, hn]) (by rw [AL.put_defers, hdf]) (ev.trans ev') hk1 hU' hUm'
            obtain ⟨hdq, envq, vq, seq, hvq, hkq⟩ := (grown (v := v) (pend2 := pend') hoq hqm hqD).out
            refine ⟨hdq, envq, vq, seq, hvq, ?_⟩
            rcases hkq with hkq | ⟨g1, g2, g3, g4⟩
            · exact .inl hkq
            · refine .inr ⟨g1, g2, ?_, g4⟩
              have up : ∀ (k : aop P envq h' oq fun r _ => r = vq), aop P envq h' oq fun r h'' => r = vq ∧ h'' = h' := fun k => by
                obtain ⟨v2, e, k2⟩ := aop_val g2 k
                subst e; exact k2
              by_cases hh : hOp P oq.op = true
              · refine up (hk2 _ (g4 hh) ?_)
                cases hb : (mask ms i).testBit q with
                | false => rfl
                | true =>
                  exfalso
                  rw [hms] at hb
                  have hmust := closeM_must L [] (fun i j hb => by simp [mask] at hb) i q hb
                  have := hmust (fun k => listed.getD k false) I'.closed fun o' ho' p hp' => by rw [ho] at ho'; cases ho'; exact hp p hp'
                  simp only [(hDf q hqD).2] at this
                  cases this
              · exact up (aop_free g2 (by simpa using hh) (aop_mono (fun v h e => e.1) g3))
          · rw [if_neg hd] at k'; exact k'.elim
        · rw [guard_wanted' hr hg]
          simp only [Bool.false_eq_true, if_false]
          have I2 := (I'.grow hc rfl ho hsame (v := .tup [])).done hc ho (by simp) hp hD' (a := a) rfl (by rw [hn]; exact hd) (fun d hdd => get_putD_self hc hdd _) (x := undef) (by simp [Rep, RepL, undef])
          exact ih _ _ w G h _ post _ pend' (U.erase i) (by simp [hsz]) I2 (fun q hqm hqD oq hoq => grown (pend2 := pend') hoq hqm hqD) s (by rw [AL.put_size, hn]) (by rw [AL.put_defers, hdf]) ev k' hU' hUm'
end

section
variable {P : Program} {n : Nat}
theorem none_done (m i : Nat) : (Array.replicate m false).getD i false = false := by
  rw [Array.getD_eq_getD_getElem?, Array.getElem?_replicate]
  split <;> rfl
theorem awp_drawn {id : Nat} {ops : Array Oper} {L : List Nat} {env : Env} {h : AHeap} {K : Exit → Env → AHeap → Prop} (hm : P.follows .mixedOrders = true) (hok : canonOk P ops L = true)
    (k : denD P n ops (closeM ops L []) L env h [] fun env' h' => K .normal env' h') : AWp P n (.region id ops true) env h K := by
  intro G w a s hn r
  have hc := canon_of hok
  refine wp_region_any hm ?_
  have s' : Sim G h { w with drawn := w.drawn + 1 } := (s.drawn _).1
  have ev : Evo G h w G h { w with drawn := w.drawn + 1 } := ⟨Gh.le.refl G, Nat.le_refl _, rfl, rfl, rfl, fun _ _ _ => rfl, fun _ h => .inl h⟩
  refine wpAny_ok (env0 := env) hc rfl (G0 := G) (h0 := h) (w0 := w) (Df := a.defers) (K := fun env' h' => K .normal env' h') (fun a' w' p => p) ops.size _ a _ G h [] L env [] (List.range ops.size) (by simp) ⟨rfl, ?_, ?_, ?_, ?_, ?_⟩ ?_ s' hn rfl ev k (by simp) (fun i hi _ => List.mem_range.2 hi)
  · intro i o ho hd p hp
    have := (none_done ops.size i).symm.trans hd; cases this
  · intro i hd
    have := (none_done ops.size i).symm.trans hd; cases this
  · exact fun s _ => rfl
  · exact fun s v _ e => r s v e
  · exact fun s v _ e => r s v e
  · intro q hq; cases hq
end
end Go.Proofs.YtmocchnodigmlaaGreatDoor.AL
