import Derived.Test.YtmocchnodigmlaaGreatDoorAL10e
set_option linter.all false
set_option autoImplicit true
set_option relaxedAutoImplicit true
set_option linter.unusedVariables false
set_option linter.unusedSimpArgs false
/-! More operations as the code has them. -/
namespace Go.Proofs.YtmocchnodigmlaaGreatDoor.AL
variable [Tabs]
section
variable {P : Program} {G : Gh} {h : AHeap} {w : World}

def isNew (P : Program) : Op → Bool
  | .makeMap _ none => true
  | .lookup .. => true
  | .mapUpdate .. => true
  | .insert .. => true
  | .mapEntry .. => true
  | .entryStore .. => true
  | .range .. => true
  | .next .. => true
  | .entry _ => true
  | .makeSlice .. => true
  | .convert s d _ => match P.underlying s, P.underlying d with
    | some (.slice _), some .string => true
    | some .string, some (.slice _) => true
    | _, _ => false
  | .binOp _ t _ _ _ => match P.underlying t with
    | some (.slice _) => true
    | some (.map _ _) => true
    | some (.interface _) => true
    | some (.func _ _ _) => true
    | some (.struct _) => true
    | _ => false
  | .call c => match c.callee with
    | .builtin .delete => true
    | _ => false
  | _ => false

/-- A map's type: the kind of its keys, the nought of its values. -/
def mapT (P : Program) (t : TypeId) (K : TypeDesc → Value → Prop) : Prop :=
  match P.underlying t with
  | some (.map kt et) => (match P.underlying kt, P.info? et with
    | some d, some i => (match i.zero with | some z => if okV z = true then K d z else False | none => False)
    | _, _ => False)
  | _ => False
def keyT (P : Program) (t : TypeId) (K : TypeDesc → Prop) : Prop :=
  match P.underlying t with
  | some (.map kt _) => (match P.underlying kt with | some d => K d | none => False)
  | _ => False
def isByteT (P : Program) (e : TypeId) : Bool := match P.underlying e with | some (.int .u8) => true | _ => false
def aNilCmp (P : Program) (op : BinOp) (t : TypeId) (a : AV) (y : Operand) (K : AV → Prop) : Prop :=
  match P.underlying t, y with
  | some (.slice _), .const (.slice none 0 0) => qIsNilS op a K
  | some (.map _ _), .const (.map none) => qIsNilM op a K
  | some (.interface _), .const .nilIface => qIsNilI op a K
  | some (.func _ _ _), .const .nilFunc => qIsNilF op a K
  | _, _ => False
def aopN (P : Program) (env : Env) (h : AHeap) (o : Oper) (K : AV → AHeap → Prop) : Prop :=
  match o.op with
  | .makeMap _ none => qMakeMap h K
  | .lookup t x i ok => withO2 (opv env x) (opv env i) fun a b => mapT P t fun d z => qLookup d ok (ofV z) a b h fun r => K r h
  | .mapUpdate t m k v => withO2 (opv env m) (opv env k) fun a b => withO (opv env v) fun c => keyT P t fun d => qMapUpdate d a b c h fun h' => K (.tup []) h'
  | .insert t m k v => withO2 (opv env m) (opv env k) fun a b => withO (opv env v) fun c => keyT P t fun d => qMapUpdate d a b c h fun h' => K (.tup []) h'
  | .mapEntry t m k => withO2 (opv env m) (opv env k) fun a b => mapT P t fun d z => qMapEntry d (ofV z) a b h K
  | .entryStore t m s v => withO2 (opv env m) (opv env s) fun a b => withO (opv env v) fun c => qEntryStore a b c h fun h' => K (.tup []) h'
  | .range t x => withO (opv env x) fun a => match P.underlying t with
    | some .string => qRangeS a h K
    | some (.map _ _) => qRangeM a h K
    | _ => False
  | .next x b => withO (opv env x) fun a => if b = true then qNextS a h K else qNextM a h K
  | .entry x => withO (opv env x) fun a => qEntry a h fun r => K r h
  | .makeSlice t l c => withO2 (opv env l) (opv env c) fun a b => match P.underlying t with
    | some (.slice e) => (match P.info? e with
      | some i => (match i.zero with | some z => if (i.size == 1 && z.oneCell') = true then qMakeSlice i.bytes (ofV1 z) a b h K else False | none => False)
      | none => False)
    | _ => False
  | .convert s d x => withO (opv env x) fun a => match P.underlying s, P.underlying d with
    | some (.slice e), some .string => if isByteT P e = true then qBytesStr a h fun r => K r h else False
    | some .string, some (.slice e) => if isByteT P e = true then qStrBytes a h K else False
    | _, _ => False
  | .binOp op t x y _ => match P.underlying t with
    | some (.struct fs) => withO2 (opv env x) (opv env y) fun a b => (match flatS P fs.toList 0 with
      | some ds => if (!P.stoodInHeld t && !P.eqGuardType P.depth t) = true then qEqS op ds a b fun r => K r h else False
      | none => False)
    | _ => withO (opv env x) fun a => aNilCmp P op t a y fun r => K r h
  | .call c => match c.callee with
    | .builtin .delete => withL (opvs env c.args.toList) fun vs => (match vs, c.argTypes.toList with
      | [m, k], t :: _ => keyT P t fun d => qDelete d m k h fun h' => K (.tup []) h'
      | _, _ => False)
    | _ => False
  | _ => False

/-- One operation. -/
def aopB (P : Program) (env : Env) (h : AHeap) (o : Oper) (K : AV → AHeap → Prop) : Prop := if isNew P o.op = true then aopN P env h o K else aop1 P env h o K

theorem mapT_ok {t : TypeId} {K : TypeDesc → Value → Prop} (k : mapT P t K) : ∃ kt et d i z, P.underlying t = some (.map kt et) ∧ P.underlying kt = some d ∧ P.info? et = some i ∧ i.zero = some z ∧ okV z = true ∧ K d z := by
  unfold mapT at k
  split at k
  · split at k
    · split at k
      · split at k
        · exact ⟨_, _, _, _, _, ‹_›, ‹_›, ‹_›, ‹_›, ‹_›, k⟩
        · exact k.elim
      · exact k.elim
    · exact k.elim
  · exact k.elim
theorem keyT_ok {t : TypeId} {K : TypeDesc → Prop} (k : keyT P t K) : ∃ kt et d, P.underlying t = some (.map kt et) ∧ P.underlying kt = some d ∧ K d := by
  unfold keyT at k
  split at k
  · split at k
    · exact ⟨_, _, _, ‹_›, ‹_›, k⟩
    · exact k.elim
  · exact k.elim
theorem isByteT_ok {e : TypeId} (h : isByteT P e = true) : P.underlying e = some (.int .u8) := by
  unfold isByteT at h
  split at h
  · assumption
  · cases h
theorem upV_of_u {m : Sem Unit} {K : AHeap → Prop} (k : ∃ h' G' w', m.run P w = .ok () w' ∧ K h' ∧ Sim G' h' w' ∧ Evo G h w G' h' w') : UpV P (N0 G h w fun v h' => v = .tup [] ∧ K h') ((do m; pure .skip : Sem Next).run P w) := by
  obtain ⟨h', G', w', q1, q2, q3, q4⟩ := k
  simp only [Sem.run_bind, q1, Result.andThen_ok, Sem.run_pure]
  exact ⟨.tup [], h', G', by simp [Rep, RepL, undef], ⟨rfl, q2⟩, q3, q4⟩
theorem upV_mono {N N' : Value → World → Prop} (hk : ∀ v w, N v w → N' v w) {r : Result Next} (k : UpV P N r) : UpV P N' r := by
  unfold UpV at *
  split at k
  · exact hk _ _ k
  · exact hk _ _ k
  · exact Calls.mono k fun e w'' ⟨v, he, hv⟩ => ⟨v, he, hk _ _ hv⟩
  · exact k.elim
theorem upV_skip {m : Sem Unit} {K : AV → AHeap → Prop} (k : ∃ h' G' w', m.run P w = .ok () w' ∧ K (.tup []) h' ∧ Sim G' h' w' ∧ Evo G h w G' h' w') : UpV P (N0 G h w K) ((do m; pure .skip : Sem Next).run P w) :=
  upV_mono (fun v w' ⟨r, h', G', q1, ⟨q2, q3⟩, q4, q5⟩ => ⟨r, h', G', q1, by subst q2; exact q3, q4, q5⟩) (upV_of_u (K := K (.tup [])) k)

theorem aopN_ok (s : Sim G h w) {env : Env} {a : Act} (r : EnvRep G env a.tmps) {o : Oper} {K : AV → AHeap → Prop} (k : aopN P env h o K) : UpV P (N0 G h w K) ((execOp a.eval o).run P w) := by
  obtain ⟨dst, op, ty, pos, after, guard⟩ := o
  cases op <;> simp only [aopN] at k <;> try exact k.elim
  case makeMap t re =>
    cases re with
    | none => exact upV_of_ye (eMakeMap_ok s k.out)
    | some x => exact k.elim
  case lookup t x i ok =>
    obtain ⟨v, h1, k⟩ := withO_ok k
    obtain ⟨u, h2, k⟩ := withO_ok k
    obtain ⟨kt, et, d, inf, z, q1, q2, q3, q4, q5, k⟩ := mapT_ok k
    exact upV_of_yl s (pLookup_ok s q1 q2 q3 q4 q5 (opv_rep r h1) (opv_rep r h2) k.out)
  case mapUpdate t m i x =>
    obtain ⟨v, h1, k⟩ := withO_ok k
    obtain ⟨u, h2, k⟩ := withO_ok k
    obtain ⟨y, h3, k⟩ := withO_ok k
    obtain ⟨kt, et, d, q1, q2, k⟩ := keyT_ok k
    exact upV_skip (eMapUpdate_ok s q1 q2 (opv_rep r h1) (opv_rep r h2) (opv_rep r h3) k.out)
  case insert t m i x =>
    obtain ⟨v, h1, k⟩ := withO_ok k
    obtain ⟨u, h2, k⟩ := withO_ok k
    obtain ⟨y, h3, k⟩ := withO_ok k
    obtain ⟨kt, et, d, q1, q2, k⟩ := keyT_ok k
    exact upV_skip (eMapUpdate_ok s q1 q2 (opv_rep r h1) (opv_rep r h2) (opv_rep r h3) k.out)
  case mapEntry t m i =>
    obtain ⟨v, h1, k⟩ := withO_ok k
    obtain ⟨u, h2, k⟩ := withO_ok k
    obtain ⟨kt, et, d, inf, z, q1, q2, q3, q4, q5, k⟩ := mapT_ok k
    exact upV_of_ye (eMapEntry_ok s q1 q2 q3 q4 q5 (opv_rep r h1) (opv_rep r h2) k.out)
  case entryStore t m i x =>
    obtain ⟨v, h1, k⟩ := withO_ok k
    obtain ⟨u, h2, k⟩ := withO_ok k
    obtain ⟨y, h3, k⟩ := withO_ok k
    exact upV_skip (eEntryStore_ok s (opv_rep r h1) (opv_rep r h2) (opv_rep r h3) k.out)
  case range t x =>
    obtain ⟨v, h1, k⟩ := withO_ok k
    split at k
    · exact upV_of_ye (eRangeS_ok s ‹_› (opv_rep r h1) k.out)
    · exact upV_of_ye (eRangeM_ok s ‹_› (opv_rep r h1) k.out)
    · exact k.elim
  case next x b =>
    obtain ⟨v, h1, k⟩ := withO_ok k
    cases b
    · exact upV_of_ye (eNextM_ok s (opv_rep r h1) k.out)
    · exact upV_of_ye (eNextS_ok s (opv_rep r h1) k.out)
  case entry x =>
    obtain ⟨v, h1, k⟩ := withO_ok k
    exact upV_of_yl s (pEntry_ok s (opv_rep r h1) k.out)
  case makeSlice t l c =>
    obtain ⟨v, h1, k⟩ := withO_ok k
    obtain ⟨u, h2, k⟩ := withO_ok k
    split at k
    · split at k
      · split at k
        · split at k
          · rename_i hc
            simp only [Bool.and_eq_true, beq_iff_eq] at hc
            exact upV_of_ye (eMakeSlice_ok s ‹_› ‹_› ‹_› hc.1 hc.2 (opv_rep r h1) (opv_rep r h2) k.out)
          · exact k.elim
        · exact k.elim
      · exact k.elim
    · exact k.elim
  case convert sr d x =>
    obtain ⟨v, h1, k⟩ := withO_ok k
    split at k
    · split at k
      · exact upV_of_yl s (pBytesStr_ok s ‹_› (isByteT_ok ‹_›) ‹_› (opv_rep r h1) k.out)
      · exact k.elim
    · split at k
      · exact upV_of_ye (eStrBytes_ok s ‹_› ‹_› (isByteT_ok ‹_›) (opv_rep r h1) k.out)
      · exact k.elim
    · exact k.elim
  case binOp op t x y yt =>
    split at k
    · rename_i fs ht
      obtain ⟨v, h1, k⟩ := withO_ok k
      obtain ⟨u, h2, k⟩ := withO_ok k
      split at k
      · split at k
        · rename_i hc
          simp only [Bool.and_eq_true, Bool.not_eq_true'] at hc
          exact upV_of_yl s (pEqS_ok ht ‹_› hc.1 hc.2 (opv_rep r h1) (opv_rep r h2) k.out)
        · exact k.elim
      · exact k.elim
    · obtain ⟨v, h1, k⟩ := withO_ok k
      unfold aNilCmp at k
      split at k
      · exact upV_of_yl s (pIsNilS_ok ‹_› (opv_rep r h1) k.out)
      · exact upV_of_yl s (pIsNilM_ok ‹_› (opv_rep r h1) k.out)
      · exact upV_of_yl s (pIsNilI_ok ‹_› (opv_rep r h1) k.out)
      · exact upV_of_yl s (pIsNilF_ok ‹_› (opv_rep r h1) k.out)
      · exact k.elim
  case call c =>
    obtain ⟨callee, args, argTypes⟩ := c
    simp only at k
    split at k
    · obtain ⟨vs, h1, k⟩ := withL_ok k
      have hr := opvs_rep r h1
      split at k
      · rename_i m ke t ts hT
        obtain ⟨kt, et, d, q1, q2, k⟩ := keyT_ok k
        obtain ⟨x, y, hx, hx2, hx3⟩ := hr.two
        have hargs : args.map a.eval = #[x, y] := by apply Array.toList_inj.1; simpa using hx
        have hts : argTypes[0]? = some t := by have := congrArg (·[0]?) hT; simpa using this
        obtain ⟨r', v', h', G', w', p1, p2, ⟨p3, p4⟩, p5, p6⟩ := eDelete_ok (ty := ty) s q1 q2 hx2 hx3 hts k.out
        subst p3
        simp only [execOp, resolve, Sem.run_bind, Sem.run_pure, Result.andThen_ok, invoke, builtin, hargs, p1]
        exact ⟨_, h', G', p2, p4, p5, p6⟩
      · exact k.elim
    · exact k.elim

theorem aopB_ok (s : Sim G h w) {env : Env} {a : Act} (r : EnvRep G env a.tmps) {o : Oper} {K : AV → AHeap → Prop} (k : aopB P env h o K) : UpV P (N0 G h w K) ((execOp a.eval o).run P w) := by
  unfold aopB at k
  split at k
  · exact aopN_ok s r k
  · exact aop1_ok s r k

theorem mapT_mono {t : TypeId} {K K' : TypeDesc → Value → Prop} (hk : ∀ d z, K d z → K' d z) (k : mapT P t K) : mapT P t K' := by
  unfold mapT at *
  (repeat' split at k) <;> first | exact k.elim | (simp only [*, if_true]; exact hk _ _ k) | (rw [if_pos (by assumption)]; exact hk _ _ k)
theorem keyT_mono {t : TypeId} {K K' : TypeDesc → Prop} (hk : ∀ d, K d → K' d) (k : keyT P t K) : keyT P t K' := by
  unfold keyT at *
  (repeat' split at k) <;> first | exact k.elim | exact hk _ k
theorem aopN_mono {env : Env} {h : AHeap} {o : Oper} {K K' : AV → AHeap → Prop} (hk : ∀ v h, K v h → K' v h) (k : aopN P env h o K) : aopN P env h o K' := by
  obtain ⟨dst, op, ty, pos, after, guard⟩ := o
  have hk' : ∀ v, K v h → K' v h := fun v => hk v h
  have hk2 : ∀ h', K (.tup []) h' → K' (.tup []) h' := fun h' => hk _ h'
  cases op <;> simp only [aopN] at k ⊢ <;> try exact k.elim
  case makeMap t re =>
    cases re with
    | none => exact qMakeMap_mono hk _ k
    | some x => exact k.elim
  case lookup => exact withO2_mono (fun _ _ k => mapT_mono (fun _ _ k => qLookup_mono hk' _ _ _ _ _ _ k) k) _ _ k
  case mapUpdate => exact withO2_mono (fun _ _ k => withO_mono (fun _ k => keyT_mono (fun _ k => qMapUpdate_mono hk2 _ _ _ _ _ k) k) _ k) _ _ k
  case insert => exact withO2_mono (fun _ _ k => withO_mono (fun _ k => keyT_mono (fun _ k => qMapUpdate_mono hk2 _ _ _ _ _ k) k) _ k) _ _ k
  case mapEntry => exact withO2_mono (fun _ _ k => mapT_mono (fun _ _ k => qMapEntry_mono hk _ _ _ _ _ k) k) _ _ k
  case entryStore => exact withO2_mono (fun _ _ k => withO_mono (fun _ k => qEntryStore_mono hk2 _ _ _ _ k) _ k) _ _ k
  case range =>
    refine withO_mono (fun _ k => ?_) _ k
    split at k
    · exact qRangeS_mono hk _ _ k
    · exact qRangeM_mono hk _ _ k
    · exact k.elim
  case next x b =>
    refine withO_mono (fun _ k => ?_) _ k
    cases b
    · exact qNextM_mono hk _ _ k
    · exact qNextS_mono hk _ _ k
  case entry => exact withO_mono (fun _ k => qEntry_mono hk' _ _ k) _ k
  case makeSlice =>
    refine withO2_mono (fun _ _ k => ?_) _ _ k
    (repeat' split at k) <;> first | exact k.elim | (rw [if_pos (by assumption)]; exact qMakeSlice_mono hk _ _ _ _ _ k)
  case convert =>
    refine withO_mono (fun _ k => ?_) _ k
    (repeat' split at k) <;> first | exact k.elim | (rw [if_pos (by assumption)]; exact qBytesStr_mono hk' _ _ k) | (rw [if_pos (by assumption)]; exact qStrBytes_mono hk _ _ k)
  case binOp =>
    split at k
    · refine withO2_mono (fun _ _ k => ?_) _ _ k
      (repeat' split at k) <;> first | exact k.elim | (rw [if_pos (by assumption)]; exact qEqS_mono hk' _ _ _ _ k)
    · refine withO_mono (fun _ k => ?_) _ k
      unfold aNilCmp at *
      split at k
      · exact qIsNilS_mono hk' _ _ k
      · exact qIsNilM_mono hk' _ _ k
      · exact qIsNilI_mono hk' _ _ k
      · exact qIsNilF_mono hk' _ _ k
      · exact k.elim
  case call c =>
    split at k
    · refine withL_mono (fun _ k => ?_) _ k
      split at k
      · exact keyT_mono (fun _ k => qDelete_mono hk2 _ _ _ _ k) k
      · exact k.elim
    · exact k.elim
theorem aopB_mono {env : Env} {h : AHeap} {o : Oper} {K K' : AV → AHeap → Prop} (hk : ∀ v h, K v h → K' v h) (k : aopB P env h o K) : aopB P env h o K' := by
  unfold aopB at *
  split at k
  · rename_i hn; rw [if_pos hn]; exact aopN_mono hk k
  · rename_i hn; rw [if_neg hn]; exact aop1_mono hk k
end
end Go.Proofs.YtmocchnodigmlaaGreatDoor.AL
