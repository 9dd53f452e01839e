import Derived.Test.YtmocchnodigmlaaGreatDoorAL9w
set_option linter.all false
set_option autoImplicit true
set_option relaxedAutoImplicit true
set_option linter.unusedVariables false
/-! Operations as the code has them. -/
namespace Go.Proofs.YtmocchnodigmlaaGreatDoor.AL
variable [Tabs]
section
variable {P : Program} {G : Gh} {h : AHeap} {w : World}

/-- Of an operation's outcome. -/
def UpV (P : Program) (N : Value → World → Prop) : Result Next → Prop
  | .ok (.value v) w' => N v w'
  | .ok .skip w' => N undef w'
  | .ok (.enter f args) w' => Calls P f args w' fun e w'' => ∃ v, e = .returned v ∧ N v w''
  | _ => False

theorem upon_of_upV {o : Oper} {a : Act} {next : Act → World → Prop} {Q : Exit → Act → World → Prop} {r : Result Next} (k : UpV P (fun v w' => next (a.put o.dst v) w') r) : o.upon P a next Q r := by
  unfold UpV at k
  split at k
  · exact k
  · exact k
  · refine Calls.mono k fun e w'' ⟨v, he, hn⟩ => ?_
    subst he
    exact hn
  · exact k.elim

def N0 (G : Gh) (h : AHeap) (w : World) (K : AV → AHeap → Prop) (v : Value) (w' : World) : Prop := ∃ r h' G', Rep G' r v ∧ K r h' ∧ Sim G' h' w' ∧ Evo G h w G' h' w'

theorem upV_of_yl (s : Sim G h w) {m : Sem Value} {K : AV → AHeap → Prop} (k : Yl P G w m fun r => K r h) : UpV P (N0 G h w K) ((do pure (.value (← m)) : Sem Next).run P w) := by
  obtain ⟨r, v, h1, h2, h3⟩ := k
  simp only [Sem.run_bind, h1, Result.andThen_ok, Sem.run_pure]
  exact ⟨r, h, G, h2, h3, s, Evo.refl _ _ _⟩
theorem upV_of_ye {m : Sem Value} {K : AV → AHeap → Prop} (k : Ye P G h w m K) : UpV P (N0 G h w K) ((do pure (.value (← m)) : Sem Next).run P w) := by
  obtain ⟨r, v, h', G', w', h1, h2, h3, h4, h5⟩ := k
  simp only [Sem.run_bind, h1, Result.andThen_ok, Sem.run_pure]
  exact ⟨r, h', G', h2, h3, h4, h5⟩

/-! ### Calls -/
def HasBody (P : Program) (f : FuncId) : Prop := ∃ fn, P.funcs[f]? = some fn ∧ (fn.name == "runtime.NumGoroutine") = false ∧ fn.body.isNone = false
structure ACall (P : Program) (f : FuncId) (args : List AV) (h : AHeap) (K : AV → AHeap → Prop) : Prop where
  body : HasBody P f
  calls : ACalls P f args h K
def ACallV (P : Program) (v : AV) (args : List AV) (h : AHeap) (K : AV → AHeap → Prop) : Prop :=
  match v with
  | .fn (.func f) fi ca => ACall P f (fi ++ args ++ ca) h K
  | _ => False
theorem ACall.mono {f : FuncId} {args : List AV} {K K' : AV → AHeap → Prop} (c : ACall P f args h K) (hk : ∀ r h', K r h' → K' r h') : ACall P f args h K' := ⟨c.1, c.2.mono hk⟩

theorem call_ok (s : Sim G h w) {v : AV} {args : List AV} {x : Value} {ys : Array Value} {K : AV → AHeap → Prop} (hx : Rep G v x) (hy : RepL G args ys.toList) (k : ACallV P v args h K) :
    UpV P (N0 G h w K) ((do let d ← Deferred.ofValue x ys; invoke d.target d.args : Sem Next).run P w) := by
  unfold ACallV at k
  split at k
  · rename_i f fi ca
    obtain ⟨⟨fn, h1, h2, h3⟩, k⟩ := k
    simp only [Rep] at hx
    obtain ⟨vs, ws, rfl, hv, hw⟩ := hx
    simp only [Deferred.ofValue, Sem.run_bind, Sem.run_pure, Result.andThen_ok, invoke, callFunc, run_program, h1, h2, h3, Bool.false_eq_true, if_false]
    have := k G w _ s ((hv.append hy).append hw)
    have e : (vs ++ ys.toList ++ ws).toArray = vs.toArray ++ ys ++ ws.toArray := by
      apply Array.toList_inj.1; simp
    rw [e] at this
    exact this.mono fun e w'' ⟨r, v, h', G', a, b, c, d, ev⟩ => ⟨v, a, r, h', G', b, c, d, ev⟩
  · exact k.elim

/-! ### The operations -/
def withO2 (a b : Option AV) (K : AV → AV → Prop) : Prop := withO a fun x => withO b fun y => K x y
def withL (a : Option (List AV)) (K : List AV → Prop) : Prop := match a with | some l => K l | none => False
def optO (env : Env) : Option Operand → Option (Option AV)
  | none => some none
  | some x => match opv env x with | some v => some (some v) | none => none
def withP (a : Option (Option AV)) (K : Option AV → Prop) : Prop := match a with | some l => K l | none => False

def aBuild (P : Program) (t : TypeId) (is : List Nat) (vs : List AV) (K : AV → Prop) : Prop :=
  match P.underlying t, P.info? t with
  | some (.struct fs), some i => (match i.zero, fieldPlaces P fs.toList with
    | some z, some l => if okV z then (match placed (fun j => l[j]?) (is.zip vs) with | some qs => qBuild (ofV z).cells qs K | none => False) else False
    | _, _ => False)
  | _, _ => False
def aBuildSlice (P : Program) (t : TypeId) (n : Nat) (is : List Nat) (vs : List AV) (K : AV → Prop) : Prop :=
  match P.underlying t with
  | some (.slice e) => (match P.info? e with
    | some i => (match i.zero with
      | some _ => if (is == List.range n && decide (n * i.size ≤ 16777216)) = true then qBuildSlice n i.size vs K else False
      | none => False)
    | none => False)
  | _ => False
def aLoad (P : Program) (t : TypeId) (v : AV) (h : AHeap) (K : AV → Prop) : Prop :=
  match P.underlying t, P.info? t with
  | some d, some i => if isAggD d = true then qLoadA i.size v h K else qLoad1 v h K
  | _, _ => False
def aBin (P : Program) (op : BinOp) (t : TypeId) (x y : AV) (K : AV → Prop) : Prop :=
  match P.underlying t with
  | some .bool => qBinB op x y K
  | some (.pointer _) => qBinP op x y K
  | some (.int _) => qBin op x y K
  | some .string => qBin op x y K
  | some (.float _) => qBin op x y K
  | _ => False
def aConv (P : Program) (s d : TypeId) (x : AV) (K : AV → Prop) : Prop :=
  match P.underlying s, P.underlying d with
  | some (.int _), some (.int k) => qConvII k x K
  | some (.int _), some (.float k) => qConvIF k x K
  | some .string, some .string => qConvSS x K
  | _, _ => False
def aSlice (P : Program) (t : TypeId) (x : AV) (lo hi mx : Option AV) (K : AV → Prop) : Prop :=
  match P.underlying t, mx with
  | some .string, none => qSliceS x lo hi K
  | some (.slice e), none => (match P.info? e with | some i => qSliceL i.size x lo hi K | none => False)
  | some (.slice e), some (.lit (.int _ 0)) => (match P.info? e, lo, hi with | some _, none, some (.lit (.int _ 0)) => qSliceZ x K | _, _, _ => False)
  | _, _ => False
def aFieldAddr (P : Program) (t : TypeId) (x : AV) (f : Nat) (K : AV → Prop) : Prop :=
  match P.underlying t with
  | some (.struct fs) => (match fs[f]? with
    | some fd => (match P.info? fd.type with | some i => if i.size = 0 then False else qFieldAddr fd.offset x K | none => False)
    | none => False)
  | _ => False
def aPart (P : Program) (t : TypeId) (off : Nat) (x : AV) (K : AV → Prop) : Prop :=
  match P.underlying t, P.info? t with
  | some d, some i => if isAggD d = true then qPartA off i.size x K else qPart1 off x K
  | _, _ => False
def aField (P : Program) (t : TypeId) (x : AV) (f : Nat) (K : AV → Prop) : Prop :=
  match P.underlying t with
  | some (.struct fs) => (match fs[f]? with | some fd => aPart P fd.type fd.offset x K | none => False)
  | _ => False
def aIndexAddr (P : Program) (t : TypeId) (x i : AV) (K : AV → Prop) : Prop :=
  match P.underlying t with
  | some (.slice e) => (match P.info? e with | some ei => qIndexAddr ei.size x i K | none => False)
  | some (.array n e) => (match P.info? e with | some ei => qIndexAddrA n ei.size x i K | none => False)
  | _ => False
def aIndex (P : Program) (t : TypeId) (x i : AV) (K : AV → Prop) : Prop :=
  match P.underlying t with
  | some .string => qIndexS x i K
  | _ => False
def aLen (P : Program) (t : TypeId) (v : AV) (h : AHeap) (K : AV → Prop) : Prop :=
  match P.underlying t with
  | some .string => qLenS v K
  | some (.slice _) => qLenL v K
  | some (.map _ _) => qLenM v h K
  | _ => False
theorem aLen_ok {t : TypeId} {v : AV} {K : AV → Prop} (k : aLen P t v h K) : ∃ d, P.underlying t = some d ∧ fitsD d v = true ∧ pLen v h K := by
  unfold aLen at k
  split at k
  · refine ⟨_, ‹_›, ?_⟩
    replace k := k.out; unfold pLenS at k; split at k
    · exact ⟨rfl, k⟩
    · exact k.elim
  · refine ⟨_, ‹_›, ?_⟩
    replace k := k.out; unfold pLenL at k; split at k
    · exact ⟨rfl, k⟩
    · exact ⟨rfl, k⟩
    · exact ⟨rfl, k⟩
    · exact k.elim
  · refine ⟨_, ‹_›, ?_⟩
    replace k := k.out; unfold pLenM at k; split at k
    · exact ⟨rfl, k⟩
    · exact k.elim
  · exact k.elim
def appOk (i : TypeInfo) (d2 : TypeDesc) : Bool :=
  (match i.zero with | some z => z.cells.size == i.size | none => false) && decide (0 < i.bytes) && (match d2 with | .int _ => false | _ => true)
def aAppend (P : Program) (t t2 : TypeId) (x y : AV) (h : AHeap) (K : AV → AHeap → Prop) : Prop :=
  match P.underlying t, P.underlying t2 with
  | some (.slice e), some d2 => (match P.info? e with
    | some i => if appOk i d2 = true then qAppend i.size i.bytes x y h K else False
    | none => False)
  | _, _ => False
def aNew (P : Program) (t : TypeId) (h : AHeap) (K : AV → AHeap → Prop) : Prop :=
  match P.info? t with
  | some i => (match i.zero with | some z => if okV z = true then qNew (ofV z).cells h K else False | none => False)
  | none => False
def aStore (P : Program) (t : TypeId) (x u : AV) (h : AHeap) (K : AHeap → Prop) : Prop :=
  match P.info? t with
  | some i => qStore i.size x u h K
  | none => False
def aIface (P : Program) (t : TypeId) (x : AV) (K : AV → Prop) : Prop :=
  match P.underlying t with
  | some (.interface _) => False
  | some _ => qIface t x K
  | none => False

/-- One operation. -/
def aop1 (P : Program) (env : Env) (h : AHeap) (o : Oper) (K : AV → AHeap → Prop) : Prop :=
  match o.op with
  | .move x => withO (opv env x) fun v => K v h
  | .assign x => withO (opv env x) fun v => K v h
  | .pick c a b => withO (opv env c) fun cv => withO2 (opv env a) (opv env b) fun av bv => ifB cv (K av h) (K bv h)
  | .alloc e => aNew P e h K
  | .box _ x => withO (opv env x) fun v => qBox v h K
  | .build t ps => withL (opvs env (ps.toList.map (·.2))) fun vs => aBuild P t (ps.toList.map (·.1)) vs fun r => K r h
  | .buildSlice t n ps => withL (opvs env (ps.toList.map (·.2))) fun vs => aBuildSlice P t n (ps.toList.map (·.1)) vs fun r => K r h
  | .load t x => withO (opv env x) fun v => aLoad P t v h fun r => K r h
  | .store t x u => withO2 (opv env x) (opv env u) fun v y => aStore P t v y h fun h' => K (.tup []) h'
  | .nilCheck x => withO (opv env x) fun v => qNil v fun r => K r h
  | .binOp op t x y _ => withO2 (opv env x) (opv env y) fun a b => aBin P op t a b fun r => K r h
  | .unOp op _ x => withO (opv env x) fun a => qUn op a fun r => K r h
  | .convert s d x => withO (opv env x) fun a => aConv P s d a fun r => K r h
  | .makeInterface t x => withO (opv env x) fun a => aIface P t a fun r => K r h
  | .makeFunc f fi ca => withL (opvs env fi.toList) fun vs => withL (opvs env ca.toList) fun ws => K (.fn f vs ws) h
  | .slice t x lo hi mx => withO (opv env x) fun a => withP (optO env lo) fun l => withP (optO env hi) fun u => withP (optO env mx) fun m => aSlice P t a l u m fun r => K r h
  | .fieldAddr t x f => withO (opv env x) fun a => aFieldAddr P t a f fun r => K r h
  | .field t x f => withO (opv env x) fun a => aField P t a f fun r => K r h
  | .indexAddr t x i => withO2 (opv env x) (opv env i) fun a b => aIndexAddr P t a b fun r => K r h
  | .index t x i => withO2 (opv env x) (opv env i) fun a b => aIndex P t a b fun r => K r h
  | .extract x i => withO (opv env x) fun a => qExtract i a fun r => K r h
  | .call c => withL (opvs env c.args.toList) fun vs => (match c.callee with
    | .value f => withO (opv env f) fun v => ACallV P v vs h K
    | .builtin .len => (match vs, c.argTypes.toList with | [v], [t] => aLen P t v h fun r => K r h | _, _ => False)
    | .builtin .append => (match vs, c.argTypes.toList with | [v, u], [t, t2] => aAppend P t t2 v u h K | _, _ => False)
    | .builtin .max => (match vs with | [v, u] => qMax v u fun r => K r h | _ => False)
    | .builtin .min => (match vs with | [v, u] => qMin v u fun r => K r h | _ => False)
    | _ => False)
  | _ => False

theorem withO_ok {o : Option AV} {K : AV → Prop} (k : withO o K) : ∃ v, o = some v ∧ K v := by
  unfold withO at k; split at k
  · exact ⟨_, rfl, k⟩
  · exact k.elim
theorem withL_ok {o : Option (List AV)} {K : List AV → Prop} (k : withL o K) : ∃ v, o = some v ∧ K v := by
  unfold withL at k; split at k
  · exact ⟨_, rfl, k⟩
  · exact k.elim
theorem withP_ok {o : Option (Option AV)} {K : Option AV → Prop} (k : withP o K) : ∃ v, o = some v ∧ K v := by
  unfold withP at k; split at k
  · exact ⟨_, rfl, k⟩
  · exact k.elim
theorem optO_rep {env : Env} {a : Act} (r : EnvRep G env a.tmps) {x : Option Operand} {v : Option AV} (h : optO env x = some v) : OptRep G v (x.map a.eval) := by
  cases x with
  | none => simp only [optO, Option.some.injEq] at h; subst h; trivial
  | some x =>
    simp only [optO] at h
    split at h
    · rename_i u hu
      cases h
      exact opv_rep r hu
    · cases h
theorem RepL.two {x y : AV} {l : List Value} (r : RepL G [x, y] l) : ∃ a b, l = [a, b] ∧ Rep G x a ∧ Rep G y b := by
  simp only [RepL] at r
  obtain ⟨a, _, rfl, h1, b, _, rfl, h2, rfl⟩ := r
  exact ⟨a, b, rfl, h1, h2⟩
theorem RepL.single {x : AV} {l : List Value} (r : RepL G [x] l) : ∃ a, l = [a] ∧ Rep G x a := by
  simp only [RepL] at r
  obtain ⟨a, _, rfl, h1, rfl⟩ := r
  exact ⟨a, rfl, h1⟩

theorem aop1_ok (s : Sim G h w) {env : Env} {a : Act} (r : EnvRep G env a.tmps) {o : Oper} {K : AV → AHeap → Prop} (k : aop1 P env h o K) : UpV P (N0 G h w K) ((execOp a.eval o).run P w) := by
  obtain ⟨dst, op, ty, pos, after, guard⟩ := o
  cases op <;> simp only [aop1] at k
  case move x =>
    obtain ⟨v, h1, k⟩ := withO_ok k
    simp only [execOp, Sem.run_pure]
    exact ⟨v, h, G, opv_rep r h1, k, s, Evo.refl _ _ _⟩
  case assign x =>
    obtain ⟨v, h1, k⟩ := withO_ok k
    simp only [execOp, Sem.run_pure]
    exact ⟨v, h, G, opv_rep r h1, k, s, Evo.refl _ _ _⟩
  case pick c x y =>
    obtain ⟨cv, h1, k⟩ := withO_ok k
    obtain ⟨xv, h2, k⟩ := withO_ok k
    obtain ⟨yv, h3, k⟩ := withO_ok k
    have hc := opv_rep r h1
    unfold ifB at k
    split at k
    · simp only [Rep] at hc
      simp only [execOp, hc.1, asBool, Sem.run_bind, Sem.run_pure, Result.andThen_ok, if_true]
      exact ⟨xv, h, G, opv_rep r h2, k, s, Evo.refl _ _ _⟩
    · simp only [Rep] at hc
      simp only [execOp, hc.1, asBool, Sem.run_bind, Sem.run_pure, Result.andThen_ok, Bool.false_eq_true, if_false]
      exact ⟨yv, h, G, opv_rep r h3, k, s, Evo.refl _ _ _⟩
    · exact k.elim
  case alloc e =>
    unfold aNew at k
    split at k
    · rename_i i hi
      split at k
      · rename_i z hz
        split at k
        · rename_i hzo
          have hzc : RepL G (ofV z).cells z.cells.toList := (rep_ofV G z hzo).cells (by
            unfold ofV ofV1; split <;> (try split) <;> rfl)
          obtain ⟨r', h', G', q1, q2, q3, q4⟩ := eNew_ok (t := e) s hzc k.out
          refine upV_of_ye ⟨r', _, h', G', _, ?_, q1, q2, q3, q4⟩
          simp only [Instr.alloc, Sem.run_bind, zeroValue, typeInfo, run_program, Result.andThen_ok, hi, hz, Sem.run_pure, newVar, newRow, run_newObj]
          rfl
        · exact k.elim
      · exact k.elim
    · exact k.elim
  case box e x =>
    obtain ⟨v, h1, k⟩ := withO_ok k
    obtain ⟨⟨ht, k⟩⟩ := k
    have hv := (opv_rep r h1).cells ht
    obtain ⟨r', h', G', q1, q2, q3, q4⟩ := eNew_ok (t := e) s hv k
    refine upV_of_ye ⟨r', _, h', G', _, ?_, q1, q2, q3, q4⟩
    simp only [Instr.box, newVar, newRow, Sem.run_bind, run_newObj, Result.andThen_ok, Sem.run_pure]
    rfl
  case build t ps =>
    obtain ⟨vs, h1, k⟩ := withL_ok k
    unfold aBuild at k
    split at k
    · rename_i fs i ht hi
      split at k
      · rename_i z l hz hl
        split at k
        · rename_i hzo
          split at k
          · rename_i qs hq
            have hr := opvs_rep r h1
            have hlen : vs.length = ps.size := by have := hr.length; simpa using this.symm
            refine upV_of_yl s (pBuild_ok (ps := (ps.toList.map (·.1)).zip vs) ht hi hz hzo hl hq ?_ ?_ k.out)
            · rw [List.map_fst_zip (by simp; omega)]
              simp
            · rw [List.map_snd_zip (by simp; omega)]
              have e2 : (ps.map fun p => (p.1, a.eval p.2)).toList.map (·.2) = (ps.toList.map (·.2)).map a.eval := by simp [List.map_map, Function.comp_def]
              rw [e2]; exact hr
          · exact k.elim
        · exact k.elim
      · exact k.elim
    · exact k.elim
  case buildSlice t n ps =>
    obtain ⟨vs, h1, k⟩ := withL_ok k
    unfold aBuildSlice at k
    split at k
    · rename_i e ht
      split at k
      · rename_i i hi
        split at k
        · rename_i z hz
          split at k
          · rename_i hc
            simp only [Bool.and_eq_true, beq_iff_eq, decide_eq_true_eq] at hc
            have hr := opvs_rep r h1
            have hn : ps.toList.length = n := by have := congrArg List.length hc.1; simpa using this
            have e2 : (ps.toList.map fun p => a.eval p.2) = (ps.toList.map (·.2)).map a.eval := by simp [List.map_map, Function.comp_def]
            obtain ⟨r', v, h', G', w', q1, q2, ⟨q3, q5⟩, q4⟩ := pBuildSlice_ok s (xs := ps.toList.map fun p => a.eval p.2) (ps := ps.map fun p => (p.1, a.eval p.2)) ht hi hz (by
              apply List.ext_getElem?
              intro j
              simp only [Array.toList_map, List.getElem?_map, List.getElem?_zipIdx]
              rcases Nat.lt_or_ge j ps.toList.length with hj | hj
              · have e1 := congrArg (·[j]?) hc.1
                simp only [List.getElem?_map, List.getElem?_range (show j < n by omega)] at e1
                rw [List.getElem?_eq_getElem hj] at e1 ⊢
                simp at e1
                simp [e1]
              · rw [List.getElem?_eq_none hj]; rfl) (by rw [e2]; exact hr) hc.2 k.out
            subst q5
            exact upV_of_ye ⟨r', v, _, G', w', q1, q2, q3, q4⟩
          · exact k.elim
        · exact k.elim
      · exact k.elim
    · exact k.elim
  case load t x =>
    obtain ⟨v, h1, k⟩ := withO_ok k
    unfold aLoad at k
    split at k
    · rename_i d i ht hi
      split at k
      · rename_i hd; exact upV_of_yl s (pLoadA_ok s ht hd hi (opv_rep r h1) k.out)
      · rename_i hd; exact upV_of_yl s (pLoad1_ok s ht (by simpa using hd) (opv_rep r h1) k.out)
    · exact k.elim
  case store t x u =>
    obtain ⟨v, h1, k⟩ := withO_ok k
    obtain ⟨y, h2, k⟩ := withO_ok k
    unfold aStore at k
    split at k
    · rename_i i hi
      obtain ⟨h', G', w', q1, q2, q3, q4⟩ := eStore_ok s hi (opv_rep r h1) (opv_rep r h2) k.out
      simp only [execOp, Sem.run_bind, q1, Result.andThen_ok, Sem.run_pure]
      exact ⟨.tup [], h', G', by simp [Rep, RepL, undef], q2, q3, q4⟩
    · exact k.elim
  case nilCheck x =>
    obtain ⟨v, h1, k⟩ := withO_ok k
    have hv := opv_rep r h1
    replace k := k.out
    unfold pNil at k
    split at k
    · have hv' := hv
      simp only [Rep] at hv
      obtain ⟨b, o, _, e⟩ := hv
      simp only [execOp, e, Sem.run_pure]
      exact ⟨_, h, G, by rw [← e]; exact hv', k, s, Evo.refl _ _ _⟩
    · have hv' := hv
      simp only [Rep] at hv
      obtain ⟨b, o, e, _⟩ := hv
      simp only [execOp, e, Sem.run_pure]
      exact ⟨_, h, G, by rw [← e]; exact hv', k, s, Evo.refl _ _ _⟩
    · have hv' := hv
      simp only [Rep] at hv
      obtain ⟨vs, ws, e, _, _⟩ := hv
      simp only [execOp, e, Sem.run_pure]
      exact ⟨_, h, G, by rw [← e]; exact hv', k, s, Evo.refl _ _ _⟩
    · exact k.elim
  case binOp op t x y yt =>
    obtain ⟨v, h1, k⟩ := withO_ok k
    obtain ⟨u, h2, k⟩ := withO_ok k
    unfold aBin at k
    split at k
    · exact upV_of_yl s (pBinB_ok ‹_› (opv_rep r h1) (opv_rep r h2) k.out)
    · exact upV_of_yl s (pBinP_ok ‹_› (opv_rep r h1) (opv_rep r h2) k.out)
    · exact upV_of_yl s (pBin_ok (opv_rep r h1) (opv_rep r h2) k.out)
    · exact upV_of_yl s (pBin_ok (opv_rep r h1) (opv_rep r h2) k.out)
    · exact upV_of_yl s (pBin_ok (opv_rep r h1) (opv_rep r h2) k.out)
    · exact k.elim
  case unOp op t x =>
    obtain ⟨v, h1, k⟩ := withO_ok k
    exact upV_of_yl s (pUn_ok (opv_rep r h1) k.out)
  case convert sr d x =>
    obtain ⟨v, h1, k⟩ := withO_ok k
    unfold aConv at k
    split at k
    · exact upV_of_yl s (pConvII_ok ‹_› ‹_› (opv_rep r h1) k.out)
    · exact upV_of_yl s (pConvIF_ok ‹_› ‹_› (opv_rep r h1) k.out)
    · exact upV_of_yl s (pConvSS_ok ‹_› ‹_› (opv_rep r h1) k.out)
    · exact k.elim
  case makeInterface t x =>
    obtain ⟨v, h1, k⟩ := withO_ok k
    unfold aIface at k
    split at k
    · exact k.elim
    · rename_i d hd ht
      exact upV_of_yl s (pIface_ok ht (fun m e => hd m e) (opv_rep r h1) k.out)
    · exact k.elim
  case makeFunc f fi ca =>
    obtain ⟨vs, h1, k⟩ := withL_ok k
    obtain ⟨ws, h2, k⟩ := withL_ok k
    refine upV_of_yl s ⟨_, _, by simp only [Instr.makeFunc, Sem.run_pure]; rfl, ?_, k⟩
    simp only [Rep]
    exact ⟨fi.toList.map a.eval, ca.toList.map a.eval, by congr 1 <;> (apply Array.toList_inj.1; simp), opvs_rep r h1, opvs_rep r h2⟩
  case slice t x lo hio mx =>
    obtain ⟨v, h1, k1⟩ := withO_ok k
    obtain ⟨l, h2, k2⟩ := withP_ok k1
    obtain ⟨u, h3, k3⟩ := withP_ok k2
    obtain ⟨m, h4, k4⟩ := withP_ok k3
    clear k k1 k2 k3
    have hm := optO_rep r h4
    have hl := optO_rep r h2
    have hu := optO_rep r h3
    clear h2 h3 h4
    unfold aSlice at k4
    split at k4
    · rename_i ht
      cases mx with
      | some _ => simp [OptRep] at hm
      | none => exact upV_of_yl s (pSliceS_ok ht (opv_rep r h1) hl hu k4.out)
    · rename_i e ht
      cases mx with
      | some _ => simp [OptRep] at hm
      | none =>
        split at k4
        · exact upV_of_yl s (pSliceL_ok ht ‹_› (opv_rep r h1) hl hu k4.out)
        · exact k4.elim
    · rename_i e k2 ht
      split at k4
      · rename_i i k1 hinf
        cases mx with
        | none => simp [OptRep] at hm
        | some mx =>
          cases lo with
          | some _ => simp [OptRep] at hl
          | none =>
            cases hio with
            | none => simp [OptRep] at hu
            | some hi' =>
              simp only [OptRep, Option.map_some, Rep] at hu hm
              have := upV_of_yl s (pSliceZ_ok (P := P) ht hinf (opv_rep r h1) k1 k2 k4.out)
              simp only [execOp, Option.map_some, Option.map_none, hu.1, hm.1]
              exact this
      · exact k4.elim
    · exact k4.elim
  case fieldAddr t x f =>
    obtain ⟨v, h1, k⟩ := withO_ok k
    unfold aFieldAddr at k
    split at k
    · rename_i fs ht
      split at k
      · rename_i fd hfd
        split at k
        · rename_i i hi
          split at k
          · exact k.elim
          · rename_i hz
            exact upV_of_yl s (pFieldAddr_ok ht hfd hi hz (opv_rep r h1) k.out)
        · exact k.elim
      · exact k.elim
    · exact k.elim
  case field t x f =>
    obtain ⟨v, h1, k⟩ := withO_ok k
    unfold aField at k
    split at k
    · rename_i fs ht
      split at k
      · rename_i fd hfd
        unfold aPart at k
        have hrun : ∀ x : Value, (Instr.field t x f).run P w = (do part fd.type (← asAgg x) fd.offset : Sem Value).run P w := fun x => by
          simp only [Instr.field, Sem.run_bind, run_underlying ht, Result.andThen_ok, hfd]
        split at k
        · rename_i d i hd hi
          split at k
          · rename_i ha
            obtain ⟨r', v', q1, q2, q3⟩ := pPartA_ok (P := P) (w := w) hd ha hi (opv_rep r h1) k.out
            exact upV_of_yl s ⟨r', v', by rw [hrun]; exact q1, q2, q3⟩
          · rename_i ha
            obtain ⟨r', v', q1, q2, q3⟩ := pPart1_ok (P := P) (w := w) hd (by simpa using ha) (opv_rep r h1) k.out
            exact upV_of_yl s ⟨r', v', by rw [hrun]; exact q1, q2, q3⟩
        · exact k.elim
      · exact k.elim
    · exact k.elim
  case indexAddr t x i =>
    obtain ⟨v, h1, k⟩ := withO_ok k
    obtain ⟨u, h2, k⟩ := withO_ok k
    unfold aIndexAddr at k
    split at k
    · split at k
      · exact upV_of_yl s (pIndexAddr_ok ‹_› ‹_› (opv_rep r h1) (opv_rep r h2) k.out)
      · exact k.elim
    · split at k
      · exact upV_of_yl s (pIndexAddrA_ok ‹_› ‹_› (opv_rep r h1) (opv_rep r h2) k.out)
      · exact k.elim
    · exact k.elim
  case index t x i =>
    obtain ⟨v, h1, k⟩ := withO_ok k
    obtain ⟨u, h2, k⟩ := withO_ok k
    unfold aIndex at k
    split at k
    · exact upV_of_yl s (pIndexS_ok ‹_› (opv_rep r h1) (opv_rep r h2) k.out)
    · exact k.elim
  case extract x i =>
    obtain ⟨v, h1, k⟩ := withO_ok k
    exact upV_of_yl s (pExtract_ok (opv_rep r h1) k.out)
  case call c =>
    obtain ⟨vs, h1, kk⟩ := withL_ok k
    clear k
    have hr := opvs_rep r h1
    obtain ⟨callee, args, argTypes⟩ := c
    cases callee with
    | value f =>
      simp only at kk
      obtain ⟨v, h2, k3⟩ := withO_ok kk
      have := call_ok (P := P) (ys := args.map a.eval) s (opv_rep r h2) (by simpa using hr) k3
      simpa [execOp, resolve] using this
    | invoke _ _ => exact kk.elim
    | builtin b =>
      cases b <;> simp only at kk <;> try exact kk.elim
      case len =>
        split at kk
        · rename_i v t hT
          obtain ⟨d, hd, hf, kk⟩ := aLen_ok kk
          obtain ⟨x, hx, hx2⟩ := hr.single
          have ha : argTypes = #[t] := by apply Array.toList_inj.1; simpa using hT
          have hargs : args.map a.eval = #[x] := by apply Array.toList_inj.1; simpa using hx
          subst ha
          obtain ⟨r', v', q1, q2, q3⟩ := pLen_ok (ty := ty) s hd hx2 hf kk
          simp only [execOp, resolve, Sem.run_bind, Sem.run_pure, Result.andThen_ok, invoke, builtin, hargs, q1]
          exact ⟨r', h, G, q2, q3, s, Evo.refl _ _ _⟩
        · exact kk.elim
      case append =>
        split at kk
        · rename_i v u t t2 hT
          unfold aAppend at kk
          split at kk
          · rename_i e d2 ht ht2
            split at kk
            · rename_i i hi
              split at kk
              · rename_i hok
                obtain ⟨x, y, hx, hx2, hx3⟩ := hr.two
                have ha : argTypes = #[t, t2] := by apply Array.toList_inj.1; simpa using hT
                have hargs : args.map a.eval = #[x, y] := by apply Array.toList_inj.1; simpa using hx
                subst ha
                simp only [appOk, Bool.and_eq_true, decide_eq_true_eq] at hok
                obtain ⟨⟨ho1, ho2⟩, ho3⟩ := hok
                split at ho1
                · rename_i z hz
                  have T : AppTypes P t t2 e i z := ⟨ht, ⟨d2, ht2, fun k e => by subst e; simp at ho3⟩, hi, hz, by simpa using ho1, ho2⟩
                  obtain ⟨r', v', h', G', w', q1, q2, q3, q4, q5⟩ := eAppend_ok (ty := ty) s T hx2 hx3 kk.out
                  simp only [execOp, resolve, Sem.run_bind, Sem.run_pure, Result.andThen_ok, invoke, builtin, hargs, q1]
                  exact ⟨r', h', G', q2, q3, q4, q5⟩
                · cases ho1
              · exact kk.elim
            · exact kk.elim
          · exact kk.elim
        · exact kk.elim
      case max =>
        split at kk
        · rename_i v u
          obtain ⟨x, y, hx, hx2, hx3⟩ := hr.two
          have hargs : args.map a.eval = #[x, y] := by apply Array.toList_inj.1; simpa using hx
          obtain ⟨r', v', q1, q2, q3⟩ := pMax_ok (P := P) (w := w) (ts := argTypes) (t := ty) hx2 hx3 kk.out
          simp only [execOp, resolve, Sem.run_bind, Sem.run_pure, Result.andThen_ok, invoke, builtin, hargs, q1]
          exact ⟨r', h, G, q2, q3, s, Evo.refl _ _ _⟩
        · exact kk.elim
      case min =>
        split at kk
        · rename_i v u
          obtain ⟨x, y, hx, hx2, hx3⟩ := hr.two
          have hargs : args.map a.eval = #[x, y] := by apply Array.toList_inj.1; simpa using hx
          obtain ⟨r', v', q1, q2, q3⟩ := pMin_ok (P := P) (w := w) (ts := argTypes) (t := ty) hx2 hx3 kk.out
          simp only [execOp, resolve, Sem.run_bind, Sem.run_pure, Result.andThen_ok, invoke, builtin, hargs, q1]
          exact ⟨r', h, G, q2, q3, s, Evo.refl _ _ _⟩
        · exact kk.elim
end
end Go.Proofs.YtmocchnodigmlaaGreatDoor.AL
