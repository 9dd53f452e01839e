import Derived.Test.YtmocchnodigmlaaGreatDoorAL24
import Derived.ScopeJumps
set_option linter.all false
set_option autoImplicit true
set_option relaxedAutoImplicit true
set_option linter.unusedVariables false
set_option linter.unusedSimpArgs false
/-! Code, made ready to be run. -/
namespace Go.Proofs.YtmocchnodigmlaaGreatDoor.AL
noncomputable section
structure ClR where
  f : CallB → ET → HT → Nat → (ET → HT → Nat → Bool) → Bool
structure PD where
  q : Nat
  o : Oper
  e : ET
  v : AV
structure ClD where
  f : CallB → ET → HT → Nat → List PD → (ET → HT → Nat → List PD → Bool) → Bool
structure ClC where
  f : CallB → ET → HT → Nat → (Exit → ET → HT → Nat → Bool) → Bool
structure ClF where
  f : CallB → List AV → HT → Nat → (AV → HT → Nat → Bool) → Bool
structure ClV where
  f : ET → HT → (List AV → Bool) → Bool
def noR : ClR := ⟨fun _ _ _ _ _ => false⟩
def noD : ClD := ⟨fun _ _ _ _ _ _ => false⟩
def noC : ClC := ⟨fun _ _ _ _ _ => false⟩
def noF : ClF := ⟨fun _ _ _ _ _ => false⟩
def putE (e : ET) (d : Option Tmp) (v : AV) : ET := match d with | some d => (lens d).s e v | none => e
def compS (P : Program) (tb : TabB) (nt : Nat) (o : Oper) : ClR := match dstOk nt o.dst with
  | true => (match o.dst with
    | some d => ⟨fun c e t n K => (compO P tb o.op).f c e t n fun v t n => K ((lens d).s e v) t n⟩
    | none => ⟨fun c e t n K => (compO P tb o.op).f c e t n fun _ t n => K e t n⟩)
  | false => noR
def ifV (v : AV) (x y : Bool) : Bool := match v with | .lit (.bool true) => x | .lit (.bool false) => y | _ => false
def ifV3 (g : Bool) (v : AV) (x y z : Bool) : Bool := match v with | .lit (.bool true) => x | .lit (.bool false) => y | .tup [] => bA g z | _ => false
def compIx (P : Program) (tb : TabB) (nt : Nat) (ops : Array Oper) : List Nat → ClR
  | [] => ⟨fun _ e t n K => K e t n⟩
  | i :: rest => match ops[i]? with
    | none => noR
    | some o => match o.guard with
      | none => ⟨fun c e t n K => (compS P tb nt o).f c e t n fun e t n => (compIx P tb nt ops rest).f c e t n K⟩
      | some (j, want) => match (ops[j]?).bind (·.dst) with
        | none => noR
        | some s => match want with
          | true => ⟨fun c e t n K => oM ((lens s).g e) fun v => ifV3 (gdOf ops j) v ((compS P tb nt o).f c e t n fun e t n => (compIx P tb nt ops rest).f c e t n K) (bA (dstOk nt o.dst) ((compIx P tb nt ops rest).f c (putE e o.dst (.tup [])) t n K)) (bA (dstOk nt o.dst) ((compIx P tb nt ops rest).f c (putE e o.dst (.tup [])) t n K))⟩
          | false => ⟨fun c e t n K => oM ((lens s).g e) fun v => ifV3 (gdOf ops j) v (bA (dstOk nt o.dst) ((compIx P tb nt ops rest).f c (putE e o.dst (.tup [])) t n K)) ((compS P tb nt o).f c e t n fun e t n => (compIx P tb nt ops rest).f c e t n K) (bA (dstOk nt o.dst) ((compIx P tb nt ops rest).f c (putE e o.dst (.tup [])) t n K))⟩

/-! ### Values that are the same -/
def litEq : Value → Value → Bool
  | .bool a, .bool b => a == b
  | .int j a, .int k b => kEq j k && iEq a b
  | .string a, .string b => sEq a b
  | .pointer none, .pointer none => true
  | .map none, .map none => true
  | .nilFunc, .nilFunc => true
  | .nilIface, .nilIface => true
  | _, _ => false
theorem litEq_ok {a b : Value} (h : litEq a b = true) : a = b := by
  unfold litEq at h
  split at h <;> first
    | rfl
    | (cases h; done)
    | (simp only [beq_iff_eq] at h; rw [h])
    | (simp only [Bool.and_eq_true, kEq_iff, iEq_iff] at h; rw [h.1, h.2])
    | (rw [sEq_iff] at h; rw [h])
def fnEq : Fn → Fn → Bool
  | .func a, .func b => Nat.beq a b
  | _, _ => false
mutual
def avEq : AV → AV → Bool
  | .lit a, .lit b => litEq a b
  | .ptr i o, .ptr j p => Nat.beq i j && Nat.beq o p
  | .cptr a, .cptr b => avEqL a b
  | .sl i o l s, .sl j p m r => Nat.beq i j && Nat.beq o p && Nat.beq l m && Nat.beq s r
  | .snap n a, .snap m b => Nat.beq n m && avEqL a b
  | .full n a, .full m b => Nat.beq n m && avEqL a b
  | .map i, .map j => Nat.beq i j
  | .fn f a b, .fn g c d => fnEq f g && (avEqL a c && avEqL b d)
  | .iface t v, .iface u w => Nat.beq t u && avEq v w
  | .agg a, .agg b => avEqL a b
  | .tup a, .tup b => avEqL a b
  | .sym i, .sym j => Nat.beq i j
  | _, _ => false
def avEqL : List AV → List AV → Bool
  | [], [] => true
  | a :: l, b :: m => avEq a b && avEqL l m
  | _, _ => false
end
theorem fnEq_ok : ∀ {a b : Fn}, fnEq a b = true → a = b
  | .func a, .func b, h => by have := Nat.eq_of_beq_eq_true h; rw [this]
mutual
theorem avEq_ok : ∀ (a b : AV), avEq a b = true → a = b
  | .lit a, b, h => by cases b <;> simp only [avEq] at h <;> first | (cases h; done) | (rw [litEq_ok h])
  | .ptr i o, b, h => by
    cases b <;> simp only [avEq, Bool.and_eq_true] at h <;> first | (cases h; done) | skip
    rw [Nat.eq_of_beq_eq_true h.1, Nat.eq_of_beq_eq_true h.2]
  | .cptr a, b, h => by cases b <;> simp only [avEq] at h <;> first | (cases h; done) | (rw [avEqL_ok _ _ h])
  | .sl i o l s, b, h => by
    cases b <;> simp only [avEq, Bool.and_eq_true] at h <;> first | (cases h; done) | skip
    rw [Nat.eq_of_beq_eq_true h.1.1.1, Nat.eq_of_beq_eq_true h.1.1.2, Nat.eq_of_beq_eq_true h.1.2, Nat.eq_of_beq_eq_true h.2]
  | .snap n a, b, h => by
    cases b <;> simp only [avEq, Bool.and_eq_true] at h <;> first | (cases h; done) | skip
    rw [Nat.eq_of_beq_eq_true h.1, avEqL_ok _ _ h.2]
  | .full n a, b, h => by
    cases b <;> simp only [avEq, Bool.and_eq_true] at h <;> first | (cases h; done) | skip
    rw [Nat.eq_of_beq_eq_true h.1, avEqL_ok _ _ h.2]
  | .map i, b, h => by cases b <;> simp only [avEq] at h <;> first | (cases h; done) | (rw [Nat.eq_of_beq_eq_true h])
  | .fn f a c, b, h => by
    cases b <;> simp only [avEq, Bool.and_eq_true] at h <;> first | (cases h; done) | skip
    rw [fnEq_ok h.1, avEqL_ok _ _ h.2.1, avEqL_ok _ _ h.2.2]
  | .iface t v, b, h => by
    cases b <;> simp only [avEq, Bool.and_eq_true] at h <;> first | (cases h; done) | skip
    rw [Nat.eq_of_beq_eq_true h.1, avEq_ok _ _ h.2]
  | .agg a, b, h => by cases b <;> simp only [avEq] at h <;> first | (cases h; done) | (rw [avEqL_ok _ _ h])
  | .tup a, b, h => by cases b <;> simp only [avEq] at h <;> first | (cases h; done) | (rw [avEqL_ok _ _ h])
  | .sym i, b, h => by cases b <;> simp only [avEq] at h <;> first | (cases h; done) | (rw [Nat.eq_of_beq_eq_true h])
theorem avEqL_ok : ∀ (a b : List AV), avEqL a b = true → a = b
  | [], b, h => by cases b <;> simp only [avEqL] at h <;> first | rfl | (cases h; done)
  | a :: l, b, h => by
    cases b <;> simp only [avEqL, Bool.and_eq_true] at h <;> first | (cases h; done) | skip
    rw [avEq_ok _ _ h.1, avEqL_ok _ _ h.2]
end

/-! ### Regions whose order is drawn -/
def pendB (P : Program) (tb : TabB) (c : CallB) (m : Nat) (t : HT) (n : Nat) (k : Bool) : List PD → Bool
  | [] => k
  | ⟨q, o, e, v⟩ :: r => bI (Nat.testBit m q) (pendB P tb c m t n k r) (bA ((compO P tb o.op).f c e t n fun r _ _ => avEq r v) (pendB P tb c m t n k r))
def compSD (P : Program) (tb : TabB) (nt : Nat) (m i : Nat) (o : Oper) : ClD := match dstOk nt o.dst with
  | true => (match qOp P o.op with
    | true => (match hOp P o.op with
      | true => ⟨fun c e t n pd K => (compO P tb o.op).f c e t n fun v t n => K (putE e o.dst v) t n (⟨i, o, e, v⟩ :: pd)⟩
      | false => ⟨fun c e t n pd K => (compO P tb o.op).f c e t n fun v t n => K (putE e o.dst v) t n pd⟩)
    | false => ⟨fun c e t n pd K => (compO P tb o.op).f c e t n fun v t n => pendB P tb c m t n (K (putE e o.dst v) t n pd) pd⟩)
  | false => noD
def compD (P : Program) (tb : TabB) (nt : Nat) (ops : Array Oper) (ms : List (Nat × Nat)) : List Nat → ClD
  | [] => ⟨fun _ e t n pd K => K e t n pd⟩
  | i :: rest => match ops[i]? with
    | none => noD
    | some o => match o.guard with
      | none => ⟨fun c e t n pd K => (compSD P tb nt (mask ms i) i o).f c e t n pd fun e t n pd => (compD P tb nt ops ms rest).f c e t n pd K⟩
      | some (j, want) => match (ops[j]?).bind (·.dst) with
        | none => noD
        | some s => match want with
          | true => ⟨fun c e t n pd K => oM ((lens s).g e) fun v => ifV3 (gdOf ops j) v ((compSD P tb nt (mask ms i) i o).f c e t n pd fun e t n pd => (compD P tb nt ops ms rest).f c e t n pd K) (bA (dstOk nt o.dst) ((compD P tb nt ops ms rest).f c (putE e o.dst (.tup [])) t n pd K)) (bA (dstOk nt o.dst) ((compD P tb nt ops ms rest).f c (putE e o.dst (.tup [])) t n pd K))⟩
          | false => ⟨fun c e t n pd K => oM ((lens s).g e) fun v => ifV3 (gdOf ops j) v (bA (dstOk nt o.dst) ((compD P tb nt ops ms rest).f c (putE e o.dst (.tup [])) t n pd K)) ((compSD P tb nt (mask ms i) i o).f c e t n pd fun e t n pd => (compD P tb nt ops ms rest).f c e t n pd K) (bA (dstOk nt o.dst) ((compD P tb nt ops ms rest).f c (putE e o.dst (.tup [])) t n pd K))⟩
def pickO (P : Program) (ops : Array Oper) (done : List Nat) : Option Nat :=
  let ready := (List.range ops.size).filter fun i => !done.contains i && (match ops[i]? with | some o => (preds o).all done.contains | none => false)
  match ready.find? (fun i => match ops[i]? with | some o => qOp P o.op | none => false) with
  | some i => some i
  | none => ready.head?
def autoO (P : Program) (ops : Array Oper) : Nat → List Nat → List Nat
  | 0, done => done.reverse
  | k + 1, done => match pickO P ops done with
    | some i => autoO P ops k (i :: done)
    | none => done.reverse
def theOrder (P : Program) (ops : Array Oper) : Option (List Nat) :=
  match canonOk P ops (autoO P ops ops.size []) with
  | true => some (autoO P ops ops.size [])
  | false => match canonOk P ops (List.range ops.size) with
    | true => some (List.range ops.size)
    | false => none
/-! ### Code -/
def iterI (body : ClC) (c : CallB) : Nat → ET → HT → Nat → (Exit → ET → HT → Nat → Bool) → Bool
  | 0, _, _, _, _ => false
  | k + 1, e, t, n, K => body.f c e t n fun ex e t n => match ex with | .normal => iterI body c k e t n K | ex => K ex e t n
def iterC (body : ClC) (c : CallB) (k : Nat) : ET → HT → Nat → (Exit → ET → HT → Nat → Bool) → Bool :=
  @Nat.rec (fun _ => ET → HT → Nat → (Exit → ET → HT → Nat → Bool) → Bool) (fun _ _ _ _ => false) (fun _ ih e t n K => body.f c e t n fun ex e t n => match ex with | .normal => ih e t n K | ex => K ex e t n) k
def loopMost : Nat := 1000000
def labelOf : Code → Option Nat
  | .label l => some l
  | .seq a b => match labelOf a with | some l => some l | none => labelOf b
  | .cond _ a b => match labelOf a with | some l => some l | none => labelOf b
  | .block _ b => labelOf b
  | .loop b => labelOf b
  | _ => none
def jumpK (l : Nat) (again : ET → HT → Nat → Bool) (K : Exit → ET → HT → Nat → Bool) : Exit → ET → HT → Nat → Bool :=
  fun ex e t n => match ex with | .goto l' => bA (Nat.beq l' l) (again e t n) | ex => K ex e t n
def iterGI (body : ClC) (c : CallB) (l : Nat) : Nat → ET → HT → Nat → (Exit → ET → HT → Nat → Bool) → Bool
  | 0, _, _, _, _ => false
  | k + 1, e, t, n, K => body.f c e t n (jumpK l (fun e t n => iterGI body c l k e t n K) K)
def iterG (body : ClC) (c : CallB) (l : Nat) (k : Nat) : ET → HT → Nat → (Exit → ET → HT → Nat → Bool) → Bool :=
  @Nat.rec (fun _ => ET → HT → Nat → (Exit → ET → HT → Nat → Bool) → Bool) (fun _ _ _ _ => false) (fun _ ih e t n K => body.f c e t n (jumpK l (fun e t n => ih e t n K) K)) k
def compC1 (P : Program) (tb : TabB) (nt : Nat) (jmp : Code → ClC) : Code → ClC
  | .skip => ⟨fun _ e t n K => K .normal e t n⟩
  | .ret => ⟨fun _ e t n K => K .ret e t n⟩
  | .exit id => ⟨fun _ e t n K => K (.exit id) e t n⟩
  | .goto l => ⟨fun _ e t n K => K (.goto l) e t n⟩
  | .label _ => ⟨fun _ e t n K => K .normal e t n⟩
  | .region _ ops d => match d with
    | false => ⟨fun c e t n K => (compIx P tb nt ops (List.range ops.size)).f c e t n fun e t n => K .normal e t n⟩
    | true => match theOrder P ops, P.follows .mixedOrders with
      | some l, true => ⟨fun c e t n K => (compD P tb nt ops (closeM ops l []) l).f c e t n [] fun e t n _ => K .normal e t n⟩
      | _, _ => noC
  | .seq x y => ⟨fun c e t n K => (compC1 P tb nt jmp x).f c e t n fun ex e t n => match ex with | .normal => (compC1 P tb nt jmp y).f c e t n K | ex => K ex e t n⟩
  | .cond x a b => ⟨fun c e t n K => (compX x).f e fun v => ifV v ((compC1 P tb nt jmp a).f c e t n K) ((compC1 P tb nt jmp b).f c e t n K)⟩
  | .block id x => ⟨fun c e t n K => (compC1 P tb nt jmp x).f c e t n fun ex e t n => match ex with | .exit i => bI (Nat.beq i id) (K .normal e t n) (K (.exit i) e t n) | ex => K ex e t n⟩
  | .loop x => ⟨fun c e t n K => iterC (compC1 P tb nt jmp x) c loopMost e t n K⟩
  | .scope x => match labelOf x with
    | some l => (match findLabel x l with
      | some rest => ⟨fun c e t n K => (compC1 P tb nt jmp x).f c e t n (jumpK l (fun e t n => iterG (jmp rest) c l loopMost e t n K) K)⟩
      | none => noC)
    | none => noC
  | _ => noC
def compC0 (P : Program) (tb : TabB) (nt : Nat) : Code → ClC := compC1 P tb nt fun _ => noC
def compC (P : Program) (tb : TabB) (nt : Nat) : Code → ClC := compC1 P tb nt (compC0 P tb nt)
/-! ### Functions -/
def compV (P : Program) : List ResultVar → ClV
  | [] => ⟨fun _ _ K => K []⟩
  | .tmp s :: rs => ⟨fun e t K => oM ((lens s).g e) fun v => (compV P rs).f e t fun vs => K (v :: vs)⟩
  | .cell a ty :: rs => match P.underlying ty, P.info? ty with
    | some d, some i => (match isAggD d with
      | true => ⟨fun e t K => oM ((lens a).g e) fun p => tLoadA i.size p t fun v => (compV P rs).f e t fun vs => K (v :: vs)⟩
      | false => ⟨fun e t K => oM ((lens a).g e) fun p => tLoad1 p t fun v => (compV P rs).f e t fun vs => K (v :: vs)⟩)
    | _, _ => ⟨fun _ _ _ => false⟩
def envOf : Nat → List AV → ET
  | _, [] => ee0
  | k, v :: vs => (lens k).s (envOf (k + 1) vs) v
def compF (P : Program) (tb : TabB) (fn : Func) : ClF := match fn.body with
  | none => noF
  | some c => match fn.name == "runtime.NumGoroutine" with
    | true => noF
    | false => ⟨fun call args t n K => bA (Nat.ble args.length fn.ntmps) ((compC P tb fn.ntmps c).f call (envOf 0 args) t n fun ex e t n => match ex with
      | .normal => (compV P fn.results.toList).f e t fun vs => K (oneOr vs) t n
      | .ret => (compV P fn.results.toList).f e t fun vs => K (oneOr vs) t n
      | _ => false)⟩
abbrev SpecB := FuncId → List AV → HT → Nat → (AV → HT → Nat → Bool) → Option Bool
def runI (P : Program) (tb : TabB) (sp : SpecB) : Nat → CallB
  | 0 => fun _ _ _ _ _ => false
  | k + 1 => fun f args t n K => match sp f args t n K with
    | some b => b
    | none => match P.funcs[f]? with
      | some fn => (compF P tb fn).f (runI P tb sp k) args t n K
      | none => false
def runF (P : Program) (tb : TabB) (sp : SpecB) (k : Nat) : CallB :=
  @Nat.rec (fun _ => CallB) (fun _ _ _ _ _ => false) (fun _ ih f args t n K => match sp f args t n K with
    | some b => b
    | none => match P.funcs[f]? with
      | some fn => (compF P tb fn).f ih args t n K
      | none => false) k

/-! ### It is so -/
variable [Tabs]
section
variable {P : Program} {nt : Nat} {call : CallB} {tb : TabB}
def KE (K : ET → HT → Nat → Bool) (env : Env) (h : AHeap) : Prop := ∃ e t n, ER e env ∧ HR t n h ∧ K e t n = true
theorem ER.putD {e : ET} {env : Env} (r : ER e env) (d : Option Tmp) (v : AV) : ER (putE e d v) (putD env d v) := by
  cases d with
  | none => exact r
  | some d => exact r.put d v
theorem ER.know {e : ET} {env : Env} (r : ER e env) {s : Nat} {v : AV} (h : (lens s).g e = some v) : ER e ((s, v) :: env) := fun k u hu => by
  simp only [AL.get]
  by_cases hk : s = k
  · subst hk; rw [if_pos rfl, ← h, hu]
  · rw [if_neg hk]; exact r k u hu
theorem compS_ok (ht : TabOk tb) (hc : CallOk P call) {o : Oper} {e : ET} {env : Env} {t : HT} {n : Nat} {h : AHeap} {K : ET → HT → Nat → Bool} (er : ER e env) (hr : HR t n h) (k : (compS P tb nt o).f call e t n K = true) : stepO P nt env h o (KE K) := by
  unfold compS at k
  unfold stepO
  split at k
  · rename_i hd
    rw [if_pos hd]
    split at k
    · rename_i d ho
      refine aop_mono (fun v h' k => ?_) (compO_ok ht hc er hr k)
      obtain ⟨t', n', hr', k⟩ := k
      refine ⟨_, t', n', ?_, hr', k⟩
      rw [ho]; exact er.put d v
    · rename_i ho
      refine aop_mono (fun v h' k => ?_) (compO_ok ht hc er hr k)
      obtain ⟨t', n', hr', k⟩ := k
      refine ⟨_, t', n', ?_, hr', k⟩
      rw [ho]; exact er
  · cases k
theorem oM_ok {o : Option AV} {K : AV → Bool} (k : oM o K = true) : ∃ v, o = some v ∧ K v = true := by
  unfold oM at k; split at k
  · exact ⟨_, rfl, k⟩
  · cases k
theorem ifV_ok {v : AV} {x y : Bool} (k : ifV v x y = true) : (v = B true ∧ x = true) ∨ (v = B false ∧ y = true) := by
  unfold ifV at k; split at k
  · exact .inl ⟨rfl, k⟩
  · exact .inr ⟨rfl, k⟩
  · cases k
theorem ifV3_ok {g : Bool} {v : AV} {x y z : Bool} (k : ifV3 g v x y z = true) : (v = B true ∧ x = true) ∨ (v = B false ∧ y = true) ∨ (v = .tup [] ∧ g = true ∧ z = true) := by
  unfold ifV3 at k; split at k
  · exact .inl ⟨rfl, k⟩
  · exact .inr (.inl ⟨rfl, k⟩)
  · rw [bA_eq] at k; exact .inr (.inr ⟨rfl, k⟩)
  · cases k
theorem denIx_mono' {ops : Array Oper} {l : List Nat} {env : Env} {h : AHeap} {K K' : Env → AHeap → Prop} (hk : ∀ env' h', K env' h' → K' env' h') (k : denIx P nt ops l env h K) : denIx P nt ops l env h K' :=
  denIx_mono ops l env h K K' (fun env' h' _ k => hk env' h' k) k
theorem stepO_mono' {env : Env} {h : AHeap} {o : Oper} {K K' : Env → AHeap → Prop} (hk : ∀ env' h', K env' h' → K' env' h') (k : stepO P nt env h o K) : stepO P nt env h o K' :=
  stepO_mono (fun v h' k => hk _ _ k) k
theorem compIx_ok (ht : TabOk tb) (hc : CallOk P call) (ops : Array Oper) : ∀ (l : List Nat) {e : ET} {env : Env} {t : HT} {n : Nat} {h : AHeap} {K : ET → HT → Nat → Bool}, ER e env → HR t n h → (compIx P tb nt ops l).f call e t n K = true → denIx P nt ops l env h (KE K)
  | [], e, env, t, n, h, K, er, hr, k => ⟨e, t, n, er, hr, k⟩
  | i :: rest, e, env, t, n, h, K, er, hr, k => by
    unfold compIx at k
    unfold denIx
    split at k
    · cases k
    · rename_i o ho
      simp only [ho]
      split at k
      · rename_i hg
        simp only [hg]
        exact stepO_mono' (fun env' h' ⟨e', t', n', er', hr', k'⟩ => compIx_ok ht hc ops rest er' hr' k') (compS_ok ht hc er hr k)
      · rename_i j want hg
        simp only [hg]
        split at k
        · cases k
        · rename_i s hs
          simp only [hs]
          split at k
          · obtain ⟨v, hv, k⟩ := oM_ok k
            rw [er s _ hv]
            replace k := ifV3_ok k
            rcases k with ⟨rfl, k⟩ | ⟨rfl, k⟩ | ⟨rfl, hgd, k⟩
            · refine ifG_t ?_
              simp only [if_true]
              exact stepO_mono' (fun env' h' ⟨e', t', n', er', hr', k'⟩ => compIx_ok ht hc ops rest er' hr' k') (compS_ok ht hc (er.know hv) hr k)
            · refine ifG_f ?_
              simp only [if_true]
              rw [bA_eq] at k
              rw [if_pos k.1]
              exact compIx_ok ht hc ops rest ((er.know hv).putD _ _) hr k.2
            · simp only [withO, hgd, ifG, ifT]
              rw [bA_eq] at k
              rw [if_pos k.1]
              exact compIx_ok ht hc ops rest ((er.know hv).putD _ _) hr k.2
          · obtain ⟨v, hv, k⟩ := oM_ok k
            rw [er s _ hv]
            replace k := ifV3_ok k
            rcases k with ⟨rfl, k⟩ | ⟨rfl, k⟩ | ⟨rfl, hgd, k⟩
            · refine ifG_t ?_
              simp only [Bool.false_eq_true, if_false]
              rw [bA_eq] at k
              rw [if_pos k.1]
              exact compIx_ok ht hc ops rest ((er.know hv).putD _ _) hr k.2
            · refine ifG_f ?_
              simp only [Bool.false_eq_true, if_false]
              exact stepO_mono' (fun env' h' ⟨e', t', n', er', hr', k'⟩ => compIx_ok ht hc ops rest er' hr' k') (compS_ok ht hc (er.know hv) hr k)
            · simp only [withO, hgd, ifG, ifT]
              rw [bA_eq] at k
              rw [if_pos k.1]
              exact compIx_ok ht hc ops rest ((er.know hv).putD _ _) hr k.2
def PR (P : Program) : List PD → Pend → Prop
  | [], p => p = []
  | ⟨q, o, e, v⟩ :: r, p => ∃ env p', p = (q, fun h2 => aop P env h2 o fun r _ => r = v) :: p' ∧ ER e env ∧ PR P r p'
theorem pendB_ok (ht : TabOk tb) (hc : CallOk P call) {m : Nat} {t : HT} {n : Nat} {h : AHeap} (hr : HR t n h) {k : Bool} {X : Prop} (hk : k = true → X) : ∀ {pd : List PD} {p : Pend}, PR P pd p → pendB P tb call m t n k pd = true → pendOk m p h X
  | [], p, hp, b => by simp only [PR] at hp; subst hp; exact hk b
  | ⟨q, o, e, v⟩ :: r, p, hp, b => by
    obtain ⟨env, p', rfl, er, hp⟩ := hp
    unfold pendB at b
    unfold pendOk
    rcases (bI_eq _ _ _).1 b with ⟨hq, b⟩ | ⟨hq, b⟩
    · rw [if_pos hq]; exact pendB_ok ht hc hr hk hp b
    · rw [if_neg (by rw [hq]; simp)]
      rw [bA_eq] at b
      exact ⟨aop_mono (fun r h' ⟨t', n', _, k⟩ => avEq_ok _ _ k) (compO_ok ht hc er hr b.1), pendB_ok ht hc hr hk hp b.2⟩
def KD (P : Program) (K : ET → HT → Nat → List PD → Bool) (env : Env) (h : AHeap) (p : Pend) : Prop := ∃ e t n pd, ER e env ∧ HR t n h ∧ PR P pd p ∧ K e t n pd = true
theorem compSD_ok (ht : TabOk tb) (hc : CallOk P call) {m i : Nat} {o : Oper} {e : ET} {env : Env} {t : HT} {n : Nat} {h : AHeap} {pd : List PD} {p : Pend} {K : ET → HT → Nat → List PD → Bool} (er : ER e env) (hr : HR t n h) (hp : PR P pd p) (k : (compSD P tb nt m i o).f call e t n pd K = true) : stepD P nt m i o env h p (KD P K) := by
  unfold compSD at k
  unfold stepD
  split at k
  · rename_i hd
    rw [if_pos hd]
    split at k
    · rename_i hq
      rw [if_pos hq]
      split at k
      · rename_i hh
        refine aop_mono (fun v h' k => ?_) (compO_ok ht hc er hr k)
        obtain ⟨t', n', hr', k⟩ := k
        rw [if_pos hh]
        exact ⟨_, t', n', ⟨i, o, e, v⟩ :: pd, er.putD _ _, hr', ⟨env, p, rfl, er, hp⟩, k⟩
      · rename_i hh
        refine aop_mono (fun v h' k => ?_) (compO_ok ht hc er hr k)
        obtain ⟨t', n', hr', k⟩ := k
        rw [if_neg (by rw [hh]; simp)]
        exact ⟨_, t', n', _, er.putD _ _, hr', hp, k⟩
    · rename_i hq
      rw [if_neg (by rw [hq]; simp)]
      refine aop_mono (fun v h' k => ?_) (compO_ok ht hc er hr k)
      obtain ⟨t', n', hr', k⟩ := k
      exact pendB_ok ht hc hr' (fun k => ⟨_, t', n', _, er.putD _ _, hr', hp, k⟩) hp k
  · cases k
theorem compD_ok (ht : TabOk tb) (hc : CallOk P call) (ops : Array Oper) (ms : List (Nat × Nat)) : ∀ (l : List Nat) {e : ET} {env : Env} {t : HT} {n : Nat} {h : AHeap} {pd : List PD} {p : Pend} {K : ET → HT → Nat → List PD → Bool}, ER e env → HR t n h → PR P pd p → (compD P tb nt ops ms l).f call e t n pd K = true →
    denD P nt ops ms l env h p fun env' h' => ∃ e t n pd, ER e env' ∧ HR t n h' ∧ K e t n pd = true
  | [], e, env, t, n, h, pd, p, K, er, hr, hp, k => ⟨e, t, n, pd, er, hr, k⟩
  | i :: rest, e, env, t, n, h, pd, p, K, er, hr, hp, k => by
    unfold compD at k
    unfold denD
    have sm : ∀ {env : Env} {K' K2 : Env → AHeap → Pend → Prop} {o : Oper}, (∀ env' h' p', K' env' h' p' → K2 env' h' p') → stepD P nt (mask ms i) i o env h p K' → stepD P nt (mask ms i) i o env h p K2 := fun hk k => stepD_mono (fun v h' p' k => hk _ _ _ k) k
    split at k
    · cases k
    · rename_i o ho
      simp only [ho]
      split at k
      · rename_i hg
        simp only [hg]
        exact sm (fun env' h' p' ⟨e', t', n', pd', er', hr', hp', k'⟩ => compD_ok ht hc ops ms rest er' hr' hp' k') (compSD_ok ht hc er hr hp k)
      · rename_i j want hg
        simp only [hg]
        split at k
        · cases k
        · rename_i s hs
          simp only [hs]
          split at k
          · obtain ⟨v, hv, k⟩ := oM_ok k
            rw [er s _ hv]
            replace k := ifV3_ok k
            rcases k with ⟨rfl, k⟩ | ⟨rfl, k⟩ | ⟨rfl, hgd, k⟩
            · refine ifG_t ?_
              simp only [if_true]
              exact sm (fun env' h' p' ⟨e', t', n', pd', er', hr', hp', k'⟩ => compD_ok ht hc ops ms rest er' hr' hp' k') (compSD_ok ht hc (er.know hv) hr hp k)
            · refine ifG_f ?_
              simp only [if_true]
              rw [bA_eq] at k
              rw [if_pos k.1]
              exact compD_ok ht hc ops ms rest ((er.know hv).putD _ _) hr hp k.2
            · simp only [withO, hgd, ifG, ifT]
              rw [bA_eq] at k
              rw [if_pos k.1]
              exact compD_ok ht hc ops ms rest ((er.know hv).putD _ _) hr hp k.2
          · obtain ⟨v, hv, k⟩ := oM_ok k
            rw [er s _ hv]
            replace k := ifV3_ok k
            rcases k with ⟨rfl, k⟩ | ⟨rfl, k⟩ | ⟨rfl, hgd, k⟩
            · refine ifG_t ?_
              simp only [Bool.false_eq_true, if_false]
              rw [bA_eq] at k
              rw [if_pos k.1]
              exact compD_ok ht hc ops ms rest ((er.know hv).putD _ _) hr hp k.2
            · refine ifG_f ?_
              simp only [Bool.false_eq_true, if_false]
              exact sm (fun env' h' p' ⟨e', t', n', pd', er', hr', hp', k'⟩ => compD_ok ht hc ops ms rest er' hr' hp' k') (compSD_ok ht hc (er.know hv) hr hp k)
            · simp only [withO, hgd, ifG, ifT]
              rw [bA_eq] at k
              rw [if_pos k.1]
              exact compD_ok ht hc ops ms rest ((er.know hv).putD _ _) hr hp k.2
theorem theOrder_ok {ops : Array Oper} {l : List Nat} (h : theOrder P ops = some l) : canonOk P ops l = true := by
  unfold theOrder at h
  split at h
  · cases h; assumption
  · split at h
    · cases h; assumption
    · cases h


theorem rounds_mono {c : Code} {Q Q' : Exit → Act → World → Prop} (hq : ∀ e a w, Q e a w → Q' e a w) : ∀ (k : Nat) (a : Act) (w : World), Code.rounds P c Q k a w → Code.rounds P c Q' k a w
  | 0, a, w, h => h
  | k + 1, a, w, h => Go.wp_mono h fun e a' w' p => by
    cases e with
    | normal => exact rounds_mono hq k a' w' p
    | _ => exact hq _ _ _ p
def KX (K : Exit → ET → HT → Nat → Bool) (ex : Exit) (env : Env) (h : AHeap) : Prop := ∃ e t n, ER e env ∧ HR t n h ∧ K ex e t n = true
theorem iter_ok {c : Code} {body : ClC} (hb : ∀ {e : ET} {env : Env} {t : HT} {n : Nat} {h : AHeap} {K : Exit → ET → HT → Nat → Bool}, ER e env → HR t n h → body.f call e t n K = true → AWp P nt c env h (KX K)) :
    ∀ (k : Nat) {e : ET} {env : Env} {t : HT} {n : Nat} {h : AHeap} {K : Exit → ET → HT → Nat → Bool}, ER e env → HR t n h → iterC body call k e t n K = true →
      ∀ (G : Gh) (w : World) (a : Act), Sim G h w → a.tmps.size = nt → EnvRep G env a.tmps → Code.rounds P c (Post G h w nt a.defers (KX K)) k a w
  | 0, e, env, t, n, h, K, er, hr, k => by cases k
  | m + 1, e, env, t, n, h, K, er, hr, k => by
    intro G w a s hn r
    refine Go.wp_mono (hb er hr k G w a s hn r) fun ex a' w' p => ?_
    obtain ⟨env', h', G', ⟨e', t', n', er', hr', hk⟩, s', ev, r', hn', hd'⟩ := p
    cases ex with
    | normal =>
      have := iter_ok hb m er' hr' hk G' w' a' s' hn' r'
      exact rounds_mono (fun e a2 w2 p2 => by rw [hd'] at p2; exact p2.step ev) m a' w' this
    | _ => exact ⟨env', h', G', ⟨e', t', n', er', hr', hk⟩, s', ev, r', hn', hd'⟩

/-- Code that is run tells of the code. -/
def CodeOk (P : Program) (nt : Nat) (call : CallB) (f : Code → ClC) : Prop := ∀ (c : Code) {e : ET} {env : Env} {t : HT} {n : Nat} {h : AHeap} {K : Exit → ET → HT → Nat → Bool}, ER e env → HR t n h → (f c).f call e t n K = true → AWp P nt c env h (KX K)
/-- So many jumps. -/
def jumps (P : Program) (rest : Code) (l : Nat) (Q : Exit → Act → World → Prop) : Nat → Act → World → Prop
  | 0, _, _ => False
  | n + 1, a, w => rest.wp P (Exit.jump l (jumps P rest l Q n) Q) a w
theorem jumps_mono {rest : Code} {l : Nat} {Q Q' : Exit → Act → World → Prop} (hq : ∀ e a w, Q e a w → Q' e a w) : ∀ (k : Nat) (a : Act) (w : World), jumps P rest l Q k a w → jumps P rest l Q' k a w
  | 0, a, w, h => h
  | k + 1, a, w, h => Go.wp_mono h fun e a' w' p => by
    cases e with
    | goto l' => exact ⟨p.1, jumps_mono hq k a' w' p.2⟩
    | _ => exact hq _ _ _ p
theorem wp_scope_fuel {c rest : Code} {Q : Exit → Act → World → Prop} {a : Act} {w : World} (l m : Nat) (hf : findLabel c l = some rest) (first : c.wp P (Exit.jump l (jumps P rest l Q m) Q) a w) : (Code.scope c).wp P Q a w := by
  refine wp_scope_jumps l (fun a w => ∃ k, jumps P rest l Q k a w) (fun a w => leastN fun k => jumps P rest l Q k a w) hf (Go.wp_mono first fun e a' w' p => ?_) fun a w hJ => ?_
  · cases e with
    | goto l' => exact ⟨p.1, m, p.2⟩
    | _ => exact p
  · have hsp := leastN_spec hJ
    generalize hk : leastN (fun k => jumps P rest l Q k a w) = k at hsp
    cases k with
    | zero => exact hsp.elim
    | succ k =>
      refine Go.wp_mono (show rest.wp P (Exit.jump l (jumps P rest l Q k) Q) a w from hsp) fun e a' w' p => ?_
      cases e with
      | goto l' => exact ⟨p.1, ⟨k, p.2⟩, Nat.lt_of_le_of_lt (leastN_le p.2) (Nat.lt_succ_self k)⟩
      | _ => exact p
theorem jumps_ok {rest : Code} {body : ClC} {l : Nat} (hb : ∀ {e : ET} {env : Env} {t : HT} {n : Nat} {h : AHeap} {K : Exit → ET → HT → Nat → Bool}, ER e env → HR t n h → body.f call e t n K = true → AWp P nt rest env h (KX K)) :
    ∀ (k : Nat) {e : ET} {env : Env} {t : HT} {n : Nat} {h : AHeap} {K : Exit → ET → HT → Nat → Bool}, ER e env → HR t n h → iterG body call l k e t n K = true →
      ∀ (G : Gh) (w : World) (a : Act), Sim G h w → a.tmps.size = nt → EnvRep G env a.tmps → jumps P rest l (Post G h w nt a.defers (KX K)) k a w
  | 0, e, env, t, n, h, K, er, hr, k => by cases k
  | m + 1, e, env, t, n, h, K, er, hr, k => by
    intro G w a s hn r
    have k : body.f call e t n (jumpK l (fun e t n => iterG body call l m e t n K) K) = true := k
    refine Go.wp_mono (hb er hr k G w a s hn r) fun ex a' w' p => ?_
    obtain ⟨env', h', G', ⟨e', t', n', er', hr', hk⟩, s', ev, r', hn', hd'⟩ := p
    cases ex with
    | goto l' =>
      simp only [jumpK, bA_eq] at hk
      refine ⟨Nat.eq_of_beq_eq_true hk.1, ?_⟩
      have := jumps_ok hb m er' hr' hk.2 G' w' a' s' hn' r'
      exact jumps_mono (fun e a2 w2 p2 => by rw [hd'] at p2; exact p2.step ev) m a' w' this
    | _ => exact ⟨env', h', G', ⟨e', t', n', er', hr', hk⟩, s', ev, r', hn', hd'⟩

theorem compC1_ok (ht : TabOk tb) (hc : CallOk P call) {jmp : Code → ClC} (hj : CodeOk P nt call jmp) : ∀ (c : Code) {e : ET} {env : Env} {t : HT} {n : Nat} {h : AHeap} {K : Exit → ET → HT → Nat → Bool}, ER e env → HR t n h → (compC1 P tb nt jmp c).f call e t n K = true → AWp P nt c env h (KX K) := by
  intro c
  induction c with
  | skip => exact fun er hr k => awp_skip ⟨_, _, _, er, hr, k⟩
  | ret => exact fun er hr k => awp_ret ⟨_, _, _, er, hr, k⟩
  | exit id => exact fun er hr k => awp_exit ⟨_, _, _, er, hr, k⟩
  | goto l => exact fun er hr k => awp_goto ⟨_, _, _, er, hr, k⟩
  | label l => exact fun er hr k => awp_label ⟨_, _, _, er, hr, k⟩
  | region id ops d =>
    intro e env t n h K er hr k
    cases d with
    | false => exact awp_region (denIx_mono' (fun env' h' ⟨e', t', n', er', hr', k'⟩ => ⟨e', t', n', er', hr', k'⟩) (compIx_ok ht hc ops _ er hr k))
    | true =>
      simp only [compC1] at k
      split at k
      · rename_i l hl hf
        refine awp_drawn hf (theOrder_ok hl) (denD_mono ops _ l env h [] _ _ (fun env' h' _ ⟨e', t', n', pd, er', hr', k'⟩ => ⟨e', t', n', er', hr', k'⟩) (compD_ok ht hc ops _ l er hr (pd := []) (by simp [PR]) k))
      · cases k
  | seq x y hx hy =>
    intro e env t n h K er hr k
    refine awp_seq ((hx er hr k).mono fun ex env' h' ⟨e', t', n', er', hr', k'⟩ => ?_)
    cases ex with
    | normal => exact hy er' hr' k'
    | _ => exact ⟨e', t', n', er', hr', k'⟩
  | cond x a b ha hb =>
    intro e env t n h K er hr k
    obtain ⟨v, hv, k⟩ := compX_ok er k
    refine awp_cond ?_
    rw [hv]
    rcases ifV_ok k with ⟨rfl, k1⟩ | ⟨rfl, k1⟩
    · exact ha er hr k1
    · exact hb er hr k1
  | block id x hx =>
    intro e env t n h K er hr k
    refine awp_block ((hx er hr k).mono fun ex env' h' ⟨e', t', n', er', hr', k'⟩ => ?_)
    cases ex with
    | exit i =>
      simp only [bI_eq] at k'
      rcases k' with ⟨hi, k'⟩ | ⟨hi, k'⟩
      · show if i = id then _ else _
        rw [if_pos (Nat.eq_of_beq_eq_true hi)]; exact ⟨e', t', n', er', hr', k'⟩
      · show if i = id then _ else _
        rw [if_neg (fun e => by rw [Nat.beq_eq.mpr e] at hi; cases hi)]; exact ⟨e', t', n', er', hr', k'⟩
    | _ => exact ⟨e', t', n', er', hr', k'⟩
  | loop x hx =>
    intro e env t n h K er hr k G w a s hn r
    have k' : iterC (compC1 P tb nt jmp x) call loopMost e t n K = true := k
    generalize loopMost = m at k'
    exact wp_loop_rounds m (iter_ok (fun er hr k => hx er hr k) m er hr k' G w a s hn r)
  | scope x hx =>
    intro e env t n h K er hr k
    simp only [compC1] at k
    split at k
    · rename_i l hl
      split at k
      · rename_i rest hrest
        intro G w a s hn r
        have k' : (compC1 P tb nt jmp x).f call e t n (jumpK l (fun e t n => iterG (jmp rest) call l loopMost e t n K) K) = true := k
        clear k
        generalize loopMost = m at k'
        refine wp_scope_fuel l m hrest (Go.wp_mono (hx er hr k' G w a s hn r) fun ex a' w' p => ?_)
        obtain ⟨env', h', G', ⟨e', t', n', er', hr', hk⟩, s', ev, r', hn', hd'⟩ := p
        cases ex with
        | goto l' =>
          simp only [jumpK, bA_eq] at hk
          refine ⟨Nat.eq_of_beq_eq_true hk.1, ?_⟩
          have := jumps_ok (hj rest) m er' hr' hk.2 G' w' a' s' hn' r'
          exact jumps_mono (fun e a2 w2 p2 => by rw [hd'] at p2; exact p2.step ev) m a' w' this
        | _ => exact ⟨env', h', G', ⟨e', t', n', er', hr', hk⟩, s', ev, r', hn', hd'⟩
      · cases k
    · cases k
  | _ => intro e env t n h K er hr k; cases k
theorem compC_ok (ht : TabOk tb) (hc : CallOk P call) : ∀ (c : Code) {e : ET} {env : Env} {t : HT} {n : Nat} {h : AHeap} {K : Exit → ET → HT → Nat → Bool}, ER e env → HR t n h → (compC P tb nt c).f call e t n K = true → AWp P nt c env h (KX K) :=
  compC1_ok ht hc (compC1_ok ht hc fun c {e env t n h K} er hr k => by cases k)

theorem compV_ok {e : ET} {env : Env} {t : HT} {n : Nat} {h : AHeap} (er : ER e env) (hr : HR t n h) : ∀ {rs : List ResultVar} {K : List AV → Bool}, (compV P rs).f e t K = true → resK P env h rs fun vs => K vs = true
  | [], K, k => k
  | .tmp s :: rs, K, k => by
    obtain ⟨v, hv, k⟩ := oM_ok k
    unfold resK
    rw [er s _ hv]
    exact compV_ok er hr k
  | .cell a ty :: rs, K, k => by
    simp only [compV] at k
    unfold resK
    split at k
    · split at k
      · obtain ⟨v, hv, k⟩ := oM_ok k
        rw [er a _ hv]
        show aLoad P ty v h _
        unfold aLoad
        simp only [*, if_true]
        exact qLoadA_mono (fun r k => compV_ok er hr k) _ _ _ ⟨tLoadA_ok hr k⟩
      · obtain ⟨v, hv, k⟩ := oM_ok k
        rw [er a _ hv]
        show aLoad P ty v h _
        unfold aLoad
        simp only [*, Bool.false_eq_true, if_false]
        exact qLoad1_mono (fun r k => compV_ok er hr k) _ _ ⟨tLoad1_ok hr k⟩
    · cases k
theorem resK_mono {env : Env} {h : AHeap} : ∀ {rs : List ResultVar} {K K' : List AV → Prop}, (∀ vs, K vs → K' vs) → resK P env h rs K → resK P env h rs K'
  | [], K, K', hk, k => hk _ k
  | .tmp s :: rs, K, K', hk, k => withO_imp (fun v k => resK_mono (fun vs k => hk _ k) k) k
  | .cell a ty :: rs, K, K', hk, k => withO_imp (fun v k => by
      unfold aLoad at *
      split at k
      · split at k
        · rename_i hd; rw [if_pos hd]; exact qLoadA_mono (fun r k => resK_mono (fun vs k => hk _ k) k) _ _ _ k
        · rename_i hd; rw [if_neg hd]; exact qLoad1_mono (fun r k => resK_mono (fun vs k => hk _ k) k) _ _ k
      · exact k.elim) k
theorem envOf_ok : ∀ (k : Nat) (vs : List AV), ER (envOf k vs) (env0 k vs)
  | k, [] => fun i v h => by rw [envOf, ee0_get] at h; cases h
  | k, v :: vs => (envOf_ok (k + 1) vs).put k v

theorem compF_ok (ht : TabOk tb) (hc : CallOk P call) {f : FuncId} {fn : Func} (hf : P.funcs[f]? = some fn) {args : List AV} {t : HT} {n : Nat} {h : AHeap} {K : AV → HT → Nat → Bool} (hr : HR t n h) (k : (compF P tb fn).f call args t n K = true) : ACall P f args h (KH K) := by
  unfold compF at k
  split at k
  · cases k
  · rename_i c hb
    split at k
    · cases k
    · rename_i hname
      simp only [bA_eq] at k
      obtain ⟨hn, k⟩ := k
      have hn := Nat.le_of_ble_eq_true hn
      refine ⟨⟨fn, hf, hname, by simp [hb]⟩, fun G w vs s r => ?_⟩
      refine calls_of_wp hf hb ?_
      have hl := r.length
      have hre : EnvRep G (env0 0 args) (vs.toArray ++ Array.replicate (fn.ntmps - vs.toArray.size) undef) := fun k a e => by
        obtain ⟨_, h1⟩ := env0_get args 0 k a e
        obtain ⟨v, h2, h3⟩ := r.at _ _ h1
        have hk : k < vs.length := (List.getElem?_eq_some_iff.1 h2).1
        exact ⟨v, by rw [Array.getElem?_append_left (by simpa using hk)]; simpa using h2, h3⟩
      have W := compC_ok ht hc c (envOf_ok 0 args) hr k G w { tmps := vs.toArray ++ Array.replicate (fn.ntmps - vs.toArray.size) undef, defers := [] } s (by simp; omega) hre
      have fin : ∀ {e : ET} {env' : Env} {t' : HT} {n' : Nat} {h' : AHeap}, ER e env' → HR t' n' h' → (compV P fn.results.toList).f e t' (fun vs => K (oneOr vs) t' n') = true → finK P fn.results.toList env' h' (KH K) := fun er hr k =>
        resK_mono (fun vs k => kh hr k) (compV_ok er hr k)
      refine wp_mono W fun e a w' ⟨env', h', G', ⟨e', t', n', er', hr', hk⟩, s', ev, r', hn', hd'⟩ => ?_
      cases e with
      | normal =>
        obtain ⟨v, x, q1, q2, q3⟩ := finK_ok s' r' (fin er' hr' hk)
        exact ⟨hd', x, q1, v, x, h', G', rfl, q2, q3, s', ev⟩
      | ret =>
        obtain ⟨v, x, q1, q2, q3⟩ := finK_ok s' r' (fin er' hr' hk)
        exact ⟨hd', x, q1, v, x, h', G', rfl, q2, q3, s', ev⟩
      | exit id => cases hk
      | goto l => cases hk
      | panic ch => cases hk
      | outgrown => cases hk
def SpecOk (P : Program) (sp : SpecB) : Prop := ∀ (f : FuncId) (args : List AV) (t : HT) (n : Nat) (h : AHeap) (K : AV → HT → Nat → Bool), HR t n h → sp f args t n K = some true → ACall P f args h (KH K)
theorem runF_ok {sp : SpecB} (ht : TabOk tb) (hs : SpecOk P sp) : ∀ d, CallOk P (runF P tb sp d)
  | 0 => fun f args t n h K hr k => by cases k
  | d + 1 => fun f args t n h K hr k => by
    have k : (match sp f args t n K with
      | some b => b
      | none => match P.funcs[f]? with
        | some fn => (compF P tb fn).f (runF P tb sp d) args t n K
        | none => false) = true := k
    split at k
    · rename_i b hb; subst k; exact hs f args t n h K hr hb
    · split at k
      · rename_i fn hf; exact compF_ok ht (runF_ok ht hs d) hf hr k
      · cases k
def noSp : SpecB := fun _ _ _ _ _ => none
theorem noSp_ok : SpecOk P noSp := fun f args t n h K hr k => by cases k
def kTrue (r : AV) (_ : HT) (_ : Nat) : Bool := match r with | .lit (.bool true) => true | _ => false
theorem run_true {sp : SpecB} (ht : TabOk tb) (hs : SpecOk P sp) {d : Nat} {f : FuncId} {args : List AV} (k : runF P tb sp d f args .leaf 0 kTrue = true) : ACall P f args [] fun r _ => r = B true :=
  (runF_ok ht hs d f args .leaf 0 [] kTrue (HR.none rfl) k).mono fun r h ⟨t, n, _, k⟩ => by
    unfold kTrue at k
    split at k
    · rfl
    · cases k
end
end
end Go.Proofs.YtmocchnodigmlaaGreatDoor.AL
