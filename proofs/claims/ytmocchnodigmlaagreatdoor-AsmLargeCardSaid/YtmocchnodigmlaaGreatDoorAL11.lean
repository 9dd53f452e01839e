import Derived.Test.YtmocchnodigmlaaGreatDoorAL10x
set_option linter.all false
set_option autoImplicit true
set_option relaxedAutoImplicit true
set_option linter.unusedVariables false
/-! Code. -/
namespace Go.Proofs.YtmocchnodigmlaaGreatDoor.AL
variable [Tabs]
section
variable {P : Program} {G : Gh} {h : AHeap} {w : World} {n : Nat}

def putD (env : Env) (d : Option Tmp) (v : AV) : Env := match d with | some d => (d, v) :: env | none => env
def dstOk (n : Nat) (d : Option Tmp) : Bool := match d with | some d => decide (d < n) | none => true
theorem EnvRep.putD {env : Env} {a : Act} (r : EnvRep G env a.tmps) {d : Option Tmp} (hd : dstOk a.tmps.size d = true) {v : AV} {x : Value} (hx : Rep G v x) : EnvRep G (putD env d v) (a.put d x).tmps := by
  cases d with
  | none => exact r
  | some d => exact r.put (by simpa [dstOk] using hd) hx
theorem put_size (a : Act) (d : Option Tmp) (x : Value) : (a.put d x).tmps.size = a.tmps.size := by cases d <;> simp [Act.put]
theorem put_defers (a : Act) (d : Option Tmp) (x : Value) : (a.put d x).defers = a.defers := by cases d <;> simp [Act.put]

/-- One operation, and what comes then. -/
def stepO (P : Program) (n : Nat) (env : Env) (h : AHeap) (o : Oper) (K : Env → AHeap → Prop) : Prop :=
  if dstOk n o.dst = true then aop P env h o fun v h' => K (putD env o.dst v) h' else False

/-- What hangs on a slot that may have been passed over. -/
def ifT (v : AV) (X Y Z : Prop) : Prop := match v with | .tup [] => Z | _ => ifB v X Y
def ifG (g : Bool) (v : AV) (X Y Z : Prop) : Prop := match g with | true => ifT v X Y Z | false => ifB v X Y
def gdOf (ops : Array Oper) (j : Nat) : Bool := match ops[j]? with | some o => o.guard.isSome | none => false
omit [Tabs] in
theorem ifB_cases {v : AV} {X Y : Prop} (k : ifB v X Y) : (v = B true ∧ X) ∨ (v = B false ∧ Y) := by
  unfold ifB at k; split at k
  · exact .inl ⟨rfl, k⟩
  · exact .inr ⟨rfl, k⟩
  · exact k.elim
omit [Tabs] in
theorem ifG_cases {g : Bool} {v : AV} {X Y Z : Prop} (k : ifG g v X Y Z) : (v = B true ∧ X) ∨ (v = B false ∧ Y) ∨ (v = .tup [] ∧ Z) := by
  unfold ifG at k; split at k
  · unfold ifT at k; split at k
    · exact .inr (.inr ⟨rfl, k⟩)
    · exact (ifB_cases k).elim .inl fun h => .inr (.inl h)
  · exact (ifB_cases k).elim .inl fun h => .inr (.inl h)
theorem ifG_mono {g : Bool} {v : AV} {X Y Z X' Y' Z' : Prop} (hx : X → X') (hy : Y → Y') (hz : Z → Z') (k : ifG g v X Y Z) : ifG g v X' Y' Z' := by
  unfold ifG at *
  split at k
  · unfold ifT at *; split at k
    · exact hz k
    · exact ifB_mono hx hy k
  · exact ifB_mono hx hy k
omit [Tabs] in
theorem ifG_t {g : Bool} {X Y Z : Prop} (k : X) : ifG g (B true) X Y Z := by cases g <;> exact k
omit [Tabs] in
theorem ifG_f {g : Bool} {X Y Z : Prop} (k : Y) : ifG g (B false) X Y Z := by cases g <;> exact k
/-- Operations, in the order given. -/
def denIx (P : Program) (n : Nat) (ops : Array Oper) : List Nat → Env → AHeap → (Env → AHeap → Prop) → Prop
  | [], env, h, K => K env h
  | i :: rest, env, h, K => match ops[i]? with
    | none => False
    | some o => match o.guard with
      | none => stepO P n env h o fun env' h' => denIx P n ops rest env' h' K
      | some (j, want) => match (ops[j]?).bind (·.dst) with
        | none => False
        | some s => withO (get env s) fun v =>
          ifG (gdOf ops j) v
            (if want = true then stepO P n ((s, B true) :: env) h o fun env' h' => denIx P n ops rest env' h' K
             else if dstOk n o.dst = true then denIx P n ops rest (putD ((s, B true) :: env) o.dst (.tup [])) h K else False)
            (if want = true then (if dstOk n o.dst = true then denIx P n ops rest (putD ((s, B false) :: env) o.dst (.tup [])) h K else False)
             else stepO P n ((s, B false) :: env) h o fun env' h' => denIx P n ops rest env' h' K)
            (if dstOk n o.dst = true then denIx P n ops rest (putD ((s, .tup []) :: env) o.dst (.tup [])) h K else False)

/-- The goal of a run of operations. -/
def OpsPost (G : Gh) (h : AHeap) (w : World) (n : Nat) (D : List Deferred) (K : Env → AHeap → Prop) (a : Act) (w' : World) : Prop :=
  ∃ env' h' G', K env' h' ∧ Sim G' h' w' ∧ Evo G h w G' h' w' ∧ EnvRep G' env' a.tmps ∧ a.tmps.size = n ∧ a.defers = D

theorem stepO_ok {o : Oper} {env : Env} {K : Env → AHeap → Prop} {a : Act} {Q : Exit → Act → World → Prop} {next : Act → World → Prop} (s : Sim G h w) (hn : a.tmps.size = n) (r : EnvRep G env a.tmps) (k : stepO P n env h o K)
    (hnext : ∀ a' w', OpsPost G h w n a.defers K a' w' → next a' w') : o.wp P a w next Q := by
  unfold stepO at k
  split at k
  · rename_i hd
    unfold Oper.wp
    refine upon_of_upV ?_
    have := aop_ok s r k
    unfold UpV at this ⊢
    have conv : ∀ v w', N0 G h w (fun v h' => K (putD env o.dst v) h') v w' → next (a.put o.dst v) w' := fun v w' ⟨rr, h', G', q1, q2, q3, q4⟩ => by
      refine hnext _ _ ⟨_, h', G', q2, q3, q4, (r.mono q4.le).putD (by rw [hn]; exact hd) q1, by rw [put_size, hn], put_defers _ _ _⟩
    split at this
    · exact conv _ _ this
    · exact conv _ _ this
    · exact Calls.mono this fun e w'' ⟨v, he, hv⟩ => ⟨v, he, conv _ _ hv⟩
    · exact this.elim
  · exact k.elim

theorem envRep_know {env : Env} {tmps : Array Value} (r : EnvRep G env tmps) {s : Nat} {v : AV} (h : get env s = some v) : EnvRep G ((s, v) :: env) tmps := fun k a e => by
  simp only [get] at e
  split at e
  · rename_i hk; subst hk; cases e; exact r _ _ h
  · exact r k a e

theorem guard_wanted {ops : Array Oper} {o : Oper} {j : Nat} {want b : Bool} {s : Nat} {env : Env} {a : Act} (hg : o.guard = some (j, want)) (hs : (ops[j]?).bind (·.dst) = some s) (r : EnvRep G env a.tmps) (hv : get env s = some (B b)) :
    Region.wanted o (yielded ops a.tmps) = (b == want) := by
  obtain ⟨x, h1, h2⟩ := r s _ hv
  simp only [Rep] at h2
  obtain ⟨rfl, _⟩ := h2
  have hy : yielded ops a.tmps j = some b := by
    unfold yielded
    simp only [hs]
    simp [Array.getD_eq_getD_getElem?, h1]
  simp only [Region.wanted, hg, hy]
  cases b <;> cases want <;> rfl

theorem guard_passed {ops : Array Oper} {o : Oper} {j : Nat} {want : Bool} {s : Nat} {env : Env} {a : Act} (hg : o.guard = some (j, want)) (hs : (ops[j]?).bind (·.dst) = some s) (r : EnvRep G env a.tmps) (hv : get env s = some (.tup [])) :
    Region.wanted o (yielded ops a.tmps) = false := by
  obtain ⟨x, h1, h2⟩ := r s _ hv
  simp only [Rep] at h2
  obtain ⟨vs, rfl, h3⟩ := h2
  have hy : yielded ops a.tmps j = none := by
    unfold yielded
    simp only [hs]
    simp [Array.getD_eq_getD_getElem?, h1]
  simp only [Region.wanted, hg, hy]
  rfl

theorem denIx_ok (ops : Array Oper) (Q : Exit → Act → World → Prop) : ∀ (l : List Nat) (env : Env) (h : AHeap) (G : Gh) (w : World) (a : Act) (K : Env → AHeap → Prop), Sim G h w → a.tmps.size = n → EnvRep G env a.tmps → denIx P n ops l env h K →
    (∀ a' w', OpsPost G h w n a.defers K a' w' → Q .normal a' w') → wpOps P ops Q l a w
  | [], env, h, G, w, a, K, s, hn, r, k, hq => hq a w ⟨env, h, G, k, s, Evo.refl _ _ _, r, hn, rfl⟩
  | i :: rest, env, h, G, w, a, K, s, hn, r, k, hq => by
    unfold denIx at k
    unfold wpOps
    split at k
    · exact k.elim
    · rename_i o ho
      simp only [ho]
      -- what comes behind
      have go : ∀ {env : Env}, EnvRep G env a.tmps → stepO P n env h o (fun env' h' => denIx P n ops rest env' h' K) → o.wp P a w (wpOps P ops Q rest) Q := fun r k =>
        stepO_ok s hn r k fun a' w' ⟨env', h', G', q1, q2, q3, q4, q5, q6⟩ =>
          denIx_ok ops Q rest env' h' G' w' a' K q2 q5 q4 q1 fun a2 w2 ⟨env2, h2, G2, p1, p2, p3, p4, p5, p6⟩ => hq a2 w2 ⟨env2, h2, G2, p1, p2, q3.trans p3, p4, p5, p6.trans q6⟩
      have skip : ∀ {env : Env}, EnvRep G env a.tmps → dstOk n o.dst = true → denIx P n ops rest (putD env o.dst (.tup [])) h K → wpOps P ops Q rest (a.put o.dst undef) w := fun r hd k =>
        denIx_ok ops Q rest _ h G w _ K s (by rw [put_size, hn]) (r.putD (by rw [hn]; exact hd) (by simp [Rep, RepL, undef])) k fun a2 w2 p => hq a2 w2 (by rwa [put_defers] at p)
      split at k
      · rename_i hg
        have : Region.wanted o (yielded ops a.tmps) = true := by simp [Region.wanted, hg]
        rw [if_pos this]
        exact .inl (go r k)
      · rename_i j want hg
        split at k
        · exact k.elim
        · rename_i sl hsl
          obtain ⟨v, hv, k⟩ := withO_ok k
          replace k := ifG_cases k
          rcases k with ⟨rfl, k⟩ | ⟨rfl, k⟩ | ⟨rfl, k⟩
          · have r' := envRep_know r hv
            have hw := guard_wanted hg hsl r hv
            rw [hw]
            cases want
            · simp only [Bool.false_eq_true, if_false] at k
              rw [if_neg (by simp)]
              split at k
              · exact skip r' ‹_› k
              · exact k.elim
            · simp only [if_true] at k
              rw [if_pos (by simp)]
              exact .inl (go r' k)
          · have r' := envRep_know r hv
            have hw := guard_wanted hg hsl r hv
            rw [hw]
            cases want
            · simp only [Bool.false_eq_true, if_false] at k
              rw [if_pos (by simp)]
              exact .inl (go r' k)
            · simp only [if_true] at k
              rw [if_neg (by simp)]
              split at k
              · exact skip r' ‹_› k
              · exact k.elim
          · have r' := envRep_know r hv
            rw [guard_passed hg hsl r hv]
            rw [if_neg (by simp)]
            split at k
            · exact skip r' ‹_› k
            · exact k.elim

theorem awp_region {id : Nat} {ops : Array Oper} {env : Env} {K : Exit → Env → AHeap → Prop} (k : denIx P n ops (List.range ops.size) env h fun env' h' => K .normal env' h') : AWp P n (.region id ops false) env h K :=
  fun G w a s hn r => wp_region (denIx_ok ops _ _ env h G w a _ s hn r k fun a' w' p => p)

theorem awp_cond {c : Operand} {x y : Code} {env : Env} {K : Exit → Env → AHeap → Prop} (k : withO (opv env c) fun v => ifB v (AWp P n x env h K) (AWp P n y env h K)) : AWp P n (.cond c x y) env h K := by
  intro G w a s hn r
  obtain ⟨v, hv, k⟩ := withO_ok k
  have hr := opv_rep r hv
  unfold ifB at k
  split at k
  · simp only [Rep] at hr
    exact wp_cond_true hr.1 (k G w a s hn r)
  · simp only [Rep] at hr
    exact wp_cond_false hr.1 (k G w a s hn r)
  · exact k.elim

/-! ### Which slots a code writes -/
def writes : Code → List Nat
  | .region _ ops _ => ops.toList.filterMap (·.dst)
  | .seq a b => writes a ++ writes b
  | .cond _ a b => writes a ++ writes b
  | .block _ b => writes b
  | .loop b => writes b
  | .scope b => writes b
  | .rangeFunc _ _ a b => writes a ++ writes b
  | _ => []
def opSlots (o : Oper) : List Nat := o.op.operands.toList.filterMap fun | .tmp t => some t | _ => none
/-- Slots that are read ahead of being written; those that are surely written: over a region's operations. -/
def exposedOps (ops : Array Oper) : List Oper → List Nat → List Nat → List Nat × List Nat
  | [], ex, dw => (ex, dw)
  | o :: rest, ex, dw =>
    let rd := opSlots o ++ (match o.guard with | some (j, _) => ((ops[j]?).bind (·.dst)).toList | none => [])
    exposedOps ops rest (ex ++ (rd.filter fun s => !dw.contains s && !ex.contains s)) (match o.dst with | some d => d :: dw | none => dw)
/-- (read ahead of a write, surely written ahead of a normal end; none: it has no normal end) -/
def exposed : Code → List Nat × Option (List Nat)
  | .region _ ops _ => let (e, d) := exposedOps ops ops.toList [] []; (e, some d)
  | .seq a b =>
    let (ea, da) := exposed a
    match da with
    | none => (ea, none)
    | some da =>
      let (eb, db) := exposed b
      (ea ++ eb.filter (fun s => !da.contains s && !ea.contains s), db.map (da ++ ·))
  | .cond c a b =>
    let (ea, da) := exposed a
    let (eb, db) := exposed b
    let ec := match c with | .tmp t => [t] | _ => []
    (ec ++ ea.filter (fun s => !ec.contains s) ++ eb.filter (fun s => !ec.contains s && !ea.contains s), match da, db with
      | none, d => d
      | d, none => d
      | some x, some y => some (x.filter y.contains))
  | .block _ b => ((exposed b).1, some [])
  | .loop b => ((exposed b).1, some [])
  | .scope b => ((exposed b).1, some [])
  | .rangeFunc _ _ a b => ((exposed a).1 ++ (exposed b).1, some [])
  | .exit _ | .ret | .goto _ => ([], none)
  | _ => ([], some [])
def dedup : List Nat → List Nat
  | [] => []
  | x :: xs => if xs.contains x then dedup xs else x :: dedup xs
def insertN (x : Nat) : List Nat → List Nat
  | [] => [x]
  | y :: ys => if x < y then x :: y :: ys else if x = y then y :: ys else y :: insertN x ys
def sortN (l : List Nat) : List Nat := l.foldr insertN []
/-- The slots that a loop carries from round to round. -/
def carried (c : Code) (env : Env) : List Nat :=
  let ws := writes c
  (sortN ((exposed c).1.filter fun s => ws.contains s && (get env s).isSome)).filter ws.contains
def getL (env : Env) : List Nat → Option (List AV)
  | [] => some []
  | s :: l => match get env s, getL env l with
    | some v, some vs => some (v :: vs)
    | _, _ => none
def dropE (ws : List Nat) (env : Env) : Env := env.filter fun p => !ws.contains p.1

theorem get_filter {ws : List Nat} : ∀ {env : Env} {s : Nat} {a : AV}, get (dropE ws env) s = some a → get env s = some a
  | [], s, a, e => by simp [dropE, get] at e
  | (k, v) :: env, s, a, e => by
    simp only [dropE, List.filter_cons] at e
    split at e
    · simp only [get] at e ⊢
      split
      · rename_i hk; rw [if_pos hk] at e; exact e
      · rename_i hk; rw [if_neg hk] at e; exact get_filter e
    · rename_i hc
      have ih := get_filter (ws := ws) (env := env) (s := s) (a := a) e
      simp only [get]
      split
      · rename_i hk
        subst hk
        exfalso
        have : ∀ env : Env, get (dropE ws env) k = none := fun env => by
          induction env with
          | nil => simp [dropE, get]
          | cons p env ih =>
            simp only [dropE, List.filter_cons]
            split
            · rename_i hp
              simp only [get]
              rw [if_neg (fun e => by subst e; exact hc hp)]
              exact ih
            · exact ih
        rw [show env.filter _ = dropE ws env from rfl, this] at e
        cases e
      · exact ih
def nthA (vs : List AV) (i : Nat) : AV := (vs[i]?).getD default
def headE (vs : List AV) : Nat → List Nat → Env
  | _, [] => []
  | i, k :: ks => (k, nthA vs i) :: headE vs (i + 1) ks
/-- A loop: J tells of each round's beginning. -/
structure Loop (vs : List AV) (h : AHeap) (B : List AV → AHeap → (List AV → AHeap → Prop) → Prop) : Prop where
  mk :: (out : ∃ J : Nat → List AV → AHeap → Prop, (∃ k, J k vs h) ∧ ∀ k vs h, J k vs h → B vs h fun vs' h' => ∃ m, m < k ∧ J m vs' h')
def ALoop (ws ks : List Nat) (body : Env → AHeap → (Exit → Env → AHeap → Prop) → Prop) (env : Env) (h : AHeap) (K : Exit → Env → AHeap → Prop) : Prop :=
  withL (getL env ks) fun vs0 => Loop vs0 h fun vs h next => body (headE vs 0 ks ++ dropE ws env) h fun e env' h' => match e with
    | .normal => withL (getL env' ks) fun vs' => next vs' h'
    | e => K e env' h'

/-- For each loop, known by its first operations' number: the slots that it writes, those that it carries. -/
abbrev Plan := List (Nat × List Nat × List Nat)
def firstId : Code → Nat
  | .region id _ _ => id + 1
  | .seq a b => match firstId a with | 0 => firstId b | k => k
  | .cond _ a b => match firstId a with | 0 => firstId b | k => k
  | .block _ b => firstId b
  | .loop b => firstId b
  | .scope b => firstId b
  | _ => 0
def planAt : Plan → Nat → Option (List Nat × List Nat)
  | [], _ => none
  | (k, p) :: r, i => if k = i then some p else planAt r i
def planOk (c : Code) (ws ks : List Nat) : Bool := ((writes c).all ws.contains && ws.all (writes c).contains) && ks.all ws.contains
theorem planOk_spec {c : Code} {ws ks : List Nat} (h : planOk c ws ks = true) : (∀ s, s ∈ writes c → s ∈ ws) ∧ (∀ s, s ∈ ws → s ∈ writes c) ∧ ∀ s, s ∈ ks → s ∈ ws := by
  simp only [planOk, Bool.and_eq_true, List.all_eq_true] at h
  exact ⟨fun s hs => by simpa using h.1.1 s hs, fun s hs => by simpa using h.1.2 s hs, fun s hs => by simpa using h.2 s hs⟩

end
end Go.Proofs.YtmocchnodigmlaaGreatDoor.AL
