import Derived.Test.YtiddcelpooenfaaGreatDoorAL9ctoAL10e
import Derived.Laws.Externs
import Derived.Lib.Bytealg
set_option linter.all false
set_option autoImplicit true
set_option relaxedAutoImplicit true
set_option maxRecDepth 100000
namespace Go.Proofs.YtiddcelpooenfaaGreatDoor.AL
section
variable [Tabs]
section
variable {P : Program} {G : Gh} {h : AHeap} {w : World}
def isNew (P : Program) : Op → Bool
  | .makeMap _ none => true
  | .lookup .. => true
  | .mapUpdate .. => true
  | .insert .. => true
  | .mapEntry .. => true
  | .entryStore .. => true
  | .range .. => true
  | .next .. => true
  | .entry _ => true
  | .makeSlice .. => true
  | .convert s d _ => match P.underlying s, P.underlying d with
    | some (.slice _), some .string => true
    | some .string, some (.slice _) => true
    | _, _ => false
  | .binOp _ t _ _ _ => match P.underlying t with
    | some (.slice _) => true
    | some (.map _ _) => true
    | some (.interface _) => true
    | some (.func _ _ _) => true
    | some (.struct _) => true
    | _ => false
  | .call c => match c.callee with
    | .builtin .delete => true
    | _ => false
  | _ => false
def mapT (P : Program) (t : TypeId) (K : TypeDesc → Value → Prop) : Prop :=
  match P.underlying t with
  | some (.map kt et) => (match P.underlying kt, P.info? et with
    | some d, some i => (match i.zero with | some z => if okV z = true then K d z else False | none => False)
    | _, _ => False)
  | _ => False
def keyT (P : Program) (t : TypeId) (K : TypeDesc → Prop) : Prop :=
  match P.underlying t with
  | some (.map kt _) => (match P.underlying kt with | some d => K d | none => False)
  | _ => False
def isByteT (P : Program) (e : TypeId) : Bool := match P.underlying e with | some (.int .u8) => true | _ => false
def aNilCmp (P : Program) (op : BinOp) (t : TypeId) (a : AV) (y : Operand) (K : AV → Prop) : Prop :=
  match P.underlying t, y with
  | some (.slice _), .const (.slice none 0 0) => qIsNilS op a K
  | some (.map _ _), .const (.map none) => qIsNilM op a K
  | some (.interface _), .const .nilIface => qIsNilI op a K
  | some (.func _ _ _), .const .nilFunc => qIsNilF op a K
  | _, _ => False
def aopN (P : Program) (env : Env) (h : AHeap) (o : Oper) (K : QT) : Prop :=
  match o.op with
  | .makeMap _ none => qMakeMap h K
  | .lookup t x i ok => withO2 (opv env x) (opv env i) fun a b => mapT P t fun d z => qLookup d ok (ofV z) a b h fun r => K r h
  | .mapUpdate t m k v => withO2 (opv env m) (opv env k) fun a b => withO (opv env v) fun c => keyT P t fun d => qMapUpdate d a b c h fun h' => K (.tup []) h'
  | .insert t m k v => withO2 (opv env m) (opv env k) fun a b => withO (opv env v) fun c => keyT P t fun d => qMapUpdate d a b c h fun h' => K (.tup []) h'
  | .mapEntry t m k => withO2 (opv env m) (opv env k) fun a b => mapT P t fun d z => qMapEntry d (ofV z) a b h K
  | .entryStore t m s v => withO2 (opv env m) (opv env s) fun a b => withO (opv env v) fun c => qEntryStore a b c h fun h' => K (.tup []) h'
  | .range t x => withO (opv env x) fun a => match P.underlying t with
    | some .string => qRangeS a h K
    | some (.map _ _) => qRangeM a h K
    | _ => False
  | .next x b => withO (opv env x) fun a => if b = true then qNextS a h K else qNextM a h K
  | .entry x => withO (opv env x) fun a => qEntry a h fun r => K r h
  | .makeSlice t l c => withO2 (opv env l) (opv env c) fun a b => match P.underlying t with
    | some (.slice e) => (match P.info? e with
      | some i => (match i.zero with | some z => if (i.size == 1 && z.oneCell') = true then qMakeSlice i.bytes (ofV1 z) a b h K else False | none => False)
      | none => False)
    | _ => False
  | .convert s d x => withO (opv env x) fun a => match P.underlying s, P.underlying d with
    | some (.slice e), some .string => if isByteT P e = true then qBytesStr a h fun r => K r h else False
    | some .string, some (.slice e) => if isByteT P e = true then qStrBytes a h K else False
    | _, _ => False
  | .binOp op t x y _ => match P.underlying t with
    | some (.struct fs) => withO2 (opv env x) (opv env y) fun a b => (match flatS P fs.toList 0 with
      | some ds => if (!P.stoodInHeld t && !P.eqGuardType P.depth t) = true then qEqS op ds a b fun r => K r h else False
      | none => False)
    | _ => withO (opv env x) fun a => aNilCmp P op t a y fun r => K r h
  | .call c => match c.callee with
    | .builtin .delete => withL (opvs env c.args.toList) fun vs => (match vs, c.argTypes.toList with
      | [m, k], t :: _ => keyT P t fun d => qDelete d m k h fun h' => K (.tup []) h'
      | _, _ => False)
    | _ => False
  | _ => False
def aopB (P : Program) (env : Env) (h : AHeap) (o : Oper) (K : QT) : Prop := if isNew P o.op = true then aopN P env h o K else aop1 P env h o K
theorem mapT_ok {t : TypeId} {K : TypeDesc → Value → Prop} (k : mapT P t K) : ∃ kt et d i z, P.underlying t = some (.map kt et) ∧ P.underlying kt = some d ∧ P.info? et = some i ∧ i.zero = some z ∧ okV z = true ∧ K d z := by
  unfold mapT at k
  split at k
  · split at k
    · split at k
      · split at k
        · exact ⟨_, _, _, _, _, ‹_›, ‹_›, ‹_›, ‹_›, ‹_›, k⟩
        · exact k.elim
      · exact k.elim
    · exact k.elim
  · exact k.elim
theorem keyT_ok {t : TypeId} {K : TypeDesc → Prop} (k : keyT P t K) : ∃ kt et d, P.underlying t = some (.map kt et) ∧ P.underlying kt = some d ∧ K d := by
  unfold keyT at k
  split at k
  · split at k
    · exact ⟨_, _, _, ‹_›, ‹_›, k⟩
    · exact k.elim
  · exact k.elim
theorem isByteT_ok {e : TypeId} (h : isByteT P e = true) : P.underlying e = some (.int .u8) := by
  unfold isByteT at h
  split at h
  · assumption
  · cases h
theorem upV_of_u {m : Sem Unit} {K : AHeap → Prop} (k : ∃ h' G' w', m.run P w = .ok () w' ∧ K h' ∧ Sim G' h' w' ∧ Evo G h w G' h' w') : UpV P (N0 G h w fun v h' => v = .tup [] ∧ K h') ((do m; pure .skip : Sem Next).run P w) := by
  obtain ⟨h', G', w', q1, q2, q3, q4⟩ := k
  simp only [Sem.run_bind, q1, Result.andThen_ok, Sem.run_pure]
  exact ⟨.tup [], h', G', by simp [Rep, RepL, undef], ⟨rfl, q2⟩, q3, q4⟩
theorem upV_mono {N N' : Value → World → Prop} (hk : ∀ v w, N v w → N' v w) {r : Result Next} (k : UpV P N r) : UpV P N' r := by
  unfold UpV at *
  split at k
  · exact hk _ _ k
  · exact hk _ _ k
  · exact Calls.mono k fun e w'' ⟨v, he, hv⟩ => ⟨v, he, hk _ _ hv⟩
  · exact k.elim
theorem upV_skip {m : Sem Unit} {K : QT} (k : ∃ h' G' w', m.run P w = .ok () w' ∧ K (.tup []) h' ∧ Sim G' h' w' ∧ Evo G h w G' h' w') : UpV P (N0 G h w K) ((do m; pure .skip : Sem Next).run P w) :=
  upV_mono (fun v w' ⟨r, h', G', q1, ⟨q2, q3⟩, q4, q5⟩ => ⟨r, h', G', q1, by subst q2; exact q3, q4, q5⟩) (upV_of_u (K := K (.tup [])) k)
theorem aopN_ok (s : Sim G h w) {env : Env} {a : Act} (r : EnvRep G env a.tmps) {o : Oper} {K : QT} (k : aopN P env h o K) : UpV P (N0 G h w K) ((execOp a.eval o).run P w) := by
  obtain ⟨dst, op, ty, pos, after, guard⟩ := o
  cases op <;> simp only [aopN] at k <;> try exact k.elim
  case makeMap t re =>
    cases re with
    | none => exact upV_of_ye (eMakeMap_ok s k.out)
    | some x => exact k.elim
  case lookup t x i ok =>
    obtain ⟨v, h1, k⟩ := withO_ok k
    obtain ⟨u, h2, k⟩ := withO_ok k
    obtain ⟨kt, et, d, inf, z, q1, q2, q3, q4, q5, k⟩ := mapT_ok k
    exact upV_of_yl s (pLookup_ok s q1 q2 q3 q4 q5 (opv_rep r h1) (opv_rep r h2) k.out)
  case mapUpdate t m i x =>
    obtain ⟨v, h1, k⟩ := withO_ok k
    obtain ⟨u, h2, k⟩ := withO_ok k
    obtain ⟨y, h3, k⟩ := withO_ok k
    obtain ⟨kt, et, d, q1, q2, k⟩ := keyT_ok k
    exact upV_skip (eMapUpdate_ok s q1 q2 (opv_rep r h1) (opv_rep r h2) (opv_rep r h3) k.out)
  case insert t m i x =>
    obtain ⟨v, h1, k⟩ := withO_ok k
    obtain ⟨u, h2, k⟩ := withO_ok k
    obtain ⟨y, h3, k⟩ := withO_ok k
    obtain ⟨kt, et, d, q1, q2, k⟩ := keyT_ok k
    exact upV_skip (eMapUpdate_ok s q1 q2 (opv_rep r h1) (opv_rep r h2) (opv_rep r h3) k.out)
  case mapEntry t m i =>
    obtain ⟨v, h1, k⟩ := withO_ok k
    obtain ⟨u, h2, k⟩ := withO_ok k
    obtain ⟨kt, et, d, inf, z, q1, q2, q3, q4, q5, k⟩ := mapT_ok k
    exact upV_of_ye (eMapEntry_ok s q1 q2 q3 q4 q5 (opv_rep r h1) (opv_rep r h2) k.out)
  case entryStore t m i x =>
    obtain ⟨v, h1, k⟩ := withO_ok k
    obtain ⟨u, h2, k⟩ := withO_ok k
    obtain ⟨y, h3, k⟩ := withO_ok k
    exact upV_skip (eEntryStore_ok s (opv_rep r h1) (opv_rep r h2) (opv_rep r h3) k.out)
  case range t x =>
    obtain ⟨v, h1, k⟩ := withO_ok k
    split at k
    · exact upV_of_ye (eRangeS_ok s ‹_› (opv_rep r h1) k.out)
    · exact upV_of_ye (eRangeM_ok s ‹_› (opv_rep r h1) k.out)
    · exact k.elim
  case next x b =>
    obtain ⟨v, h1, k⟩ := withO_ok k
    cases b
    · exact upV_of_ye (eNextM_ok s (opv_rep r h1) k.out)
    · exact upV_of_ye (eNextS_ok s (opv_rep r h1) k.out)
  case entry x =>
    obtain ⟨v, h1, k⟩ := withO_ok k
    exact upV_of_yl s (pEntry_ok s (opv_rep r h1) k.out)
  case makeSlice t l c =>
    obtain ⟨v, h1, k⟩ := withO_ok k
    obtain ⟨u, h2, k⟩ := withO_ok k
    split at k
    · split at k
      · split at k
        · split at k
          · rename_i hc
            simp only [Bool.and_eq_true, beq_iff_eq] at hc
            exact upV_of_ye (eMakeSlice_ok s ‹_› ‹_› ‹_› hc.1 hc.2 (opv_rep r h1) (opv_rep r h2) k.out)
          · exact k.elim
        · exact k.elim
      · exact k.elim
    · exact k.elim
  case convert sr d x =>
    obtain ⟨v, h1, k⟩ := withO_ok k
    split at k
    · split at k
      · exact upV_of_yl s (pBytesStr_ok s ‹_› (isByteT_ok ‹_›) ‹_› (opv_rep r h1) k.out)
      · exact k.elim
    · split at k
      · exact upV_of_ye (eStrBytes_ok s ‹_› ‹_› (isByteT_ok ‹_›) (opv_rep r h1) k.out)
      · exact k.elim
    · exact k.elim
  case binOp op t x y yt =>
    split at k
    · rename_i fs ht
      obtain ⟨v, h1, k⟩ := withO_ok k
      obtain ⟨u, h2, k⟩ := withO_ok k
      split at k
      · split at k
        · rename_i hc
          simp only [Bool.and_eq_true, Bool.not_eq_true'] at hc
          exact upV_of_yl s (pEqS_ok ht ‹_› hc.1 hc.2 (opv_rep r h1) (opv_rep r h2) k.out)
        · exact k.elim
      · exact k.elim
    · obtain ⟨v, h1, k⟩ := withO_ok k
      unfold aNilCmp at k
      split at k
      · exact upV_of_yl s (pIsNilS_ok ‹_› (opv_rep r h1) k.out)
      · exact upV_of_yl s (pIsNilM_ok ‹_› (opv_rep r h1) k.out)
      · exact upV_of_yl s (pIsNilI_ok ‹_› (opv_rep r h1) k.out)
      · exact upV_of_yl s (pIsNilF_ok ‹_› (opv_rep r h1) k.out)
      · exact k.elim
  case call c =>
    obtain ⟨callee, args, argTypes⟩ := c
    simp only at k
    split at k
    · obtain ⟨vs, h1, k⟩ := withL_ok k
      have hr := opvs_rep r h1
      split at k
      · rename_i m ke t ts hT
        obtain ⟨kt, et, d, q1, q2, k⟩ := keyT_ok k
        obtain ⟨x, y, hx, hx2, hx3⟩ := hr.two
        have hargs : args.map a.eval = #[x, y] := by apply Array.toList_inj.1; simpa using hx
        have hts : argTypes[0]? = some t := by have := congrArg (·[0]?) hT; simpa using this
        obtain ⟨r', v', h', G', w', p1, p2, ⟨p3, p4⟩, p5, p6⟩ := eDelete_ok (ty := ty) s q1 q2 hx2 hx3 hts k.out
        subst p3
        simp only [execOp, resolve, Sem.run_bind, Sem.run_pure, Result.andThen_ok, invoke, builtin, hargs, p1]
        exact ⟨_, h', G', p2, p4, p5, p6⟩
      · exact k.elim
    · exact k.elim
theorem aopB_ok (s : Sim G h w) {env : Env} {a : Act} (r : EnvRep G env a.tmps) {o : Oper} {K : QT} (k : aopB P env h o K) : UpV P (N0 G h w K) ((execOp a.eval o).run P w) := by
  unfold aopB at k
  split at k
  · exact aopN_ok s r k
  · exact aop1_ok s r k
theorem mapT_mono {t : TypeId} {K K' : TypeDesc → Value → Prop} (hk : ∀ d z, K d z → K' d z) (k : mapT P t K) : mapT P t K' := by
  unfold mapT at *
  (repeat' split at k) <;> first | exact k.elim | (simp only [*, if_true]; exact hk _ _ k) | (rw [if_pos ‹_›]; exact hk _ _ k)
theorem keyT_mono {t : TypeId} {K K' : TypeDesc → Prop} (hk : ∀ d, K d → K' d) (k : keyT P t K) : keyT P t K' := by
  unfold keyT at *
  (repeat' split at k) <;> first | exact k.elim | exact hk _ k
theorem aopN_mono {env : Env} {h : AHeap} {o : Oper} {K K' : QT} (hk : ∀ v h, K v h → K' v h) (k : aopN P env h o K) : aopN P env h o K' := by
  obtain ⟨dst, op, ty, pos, after, guard⟩ := o
  have hk' : ∀ v, K v h → K' v h := fun v => hk v h
  have hk2 : ∀ h', K (.tup []) h' → K' (.tup []) h' := fun h' => hk _ h'
  cases op <;> simp only [aopN] at k ⊢ <;> try exact k.elim
  case makeMap t re =>
    cases re with
    | none => exact qMakeMap_mono hk _ k
    | some x => exact k.elim
  case lookup => exact withO2_mono (fun _ _ k => mapT_mono (fun _ _ k => qLookup_mono hk' _ _ _ _ _ _ k) k) _ _ k
  case mapUpdate => exact withO2_mono (fun _ _ k => withO_mono (fun _ k => keyT_mono (fun _ k => qMapUpdate_mono hk2 _ _ _ _ _ k) k) _ k) _ _ k
  case insert => exact withO2_mono (fun _ _ k => withO_mono (fun _ k => keyT_mono (fun _ k => qMapUpdate_mono hk2 _ _ _ _ _ k) k) _ k) _ _ k
  case mapEntry => exact withO2_mono (fun _ _ k => mapT_mono (fun _ _ k => qMapEntry_mono hk _ _ _ _ _ k) k) _ _ k
  case entryStore => exact withO2_mono (fun _ _ k => withO_mono (fun _ k => qEntryStore_mono hk2 _ _ _ _ k) _ k) _ _ k
  case range =>
    refine withO_mono (fun _ k => ?_) _ k
    split at k
    · exact qRangeS_mono hk _ _ k
    · exact qRangeM_mono hk _ _ k
    · exact k.elim
  case next x b =>
    refine withO_mono (fun _ k => ?_) _ k
    cases b
    · exact qNextM_mono hk _ _ k
    · exact qNextS_mono hk _ _ k
  case entry => exact withO_mono (fun _ k => qEntry_mono hk' _ _ k) _ k
  case makeSlice =>
    refine withO2_mono (fun _ _ k => ?_) _ _ k
    (repeat' split at k) <;> first | exact k.elim | (rw [if_pos ‹_›]; exact qMakeSlice_mono hk _ _ _ _ _ k)
  case convert =>
    refine withO_mono (fun _ k => ?_) _ k
    (repeat' split at k) <;> first | exact k.elim | (rw [if_pos ‹_›]; exact qBytesStr_mono hk' _ _ k) | (rw [if_pos ‹_›]; exact qStrBytes_mono hk _ _ k)
  case binOp =>
    split at k
    · refine withO2_mono (fun _ _ k => ?_) _ _ k
      (repeat' split at k) <;> first | exact k.elim | (rw [if_pos ‹_›]; exact qEqS_mono hk' _ _ _ _ k)
    · refine withO_mono (fun _ k => ?_) _ k
      unfold aNilCmp at *
      split at k
      · exact qIsNilS_mono hk' _ _ k
      · exact qIsNilM_mono hk' _ _ k
      · exact qIsNilI_mono hk' _ _ k
      · exact qIsNilF_mono hk' _ _ k
      · exact k.elim
  case call c =>
    split at k
    · refine withL_mono (fun _ k => ?_) _ k
      split at k
      · exact keyT_mono (fun _ k => qDelete_mono hk2 _ _ _ _ k) k
      · exact k.elim
    · exact k.elim
theorem aopB_mono {env : Env} {h : AHeap} {o : Oper} {K K' : QT} (hk : ∀ v h, K v h → K' v h) (k : aopB P env h o K) : aopB P env h o K' := by
  unfold aopB at *
  split at k
  · rename_i hn; rw [if_pos hn]; exact aopN_mono hk k
  · rename_i hn; rw [if_neg hn]; exact aop1_mono hk k
end
end
section
variable [Tabs]
section
variable {P : Program} {G : Gh} {h : AHeap} {w : World}
omit [Tabs] in
theorem splice_nil {α : Type} (l : List α) (off : Nat) : splice l off [] = l := by simp [splice]
omit [Tabs] in
theorem set_same {i : Nat} {o : AObj} (hi : h[i]? = some o) : h.set i o = h := by
  apply List.ext_getElem?
  intro j
  rw [List.getElem?_set]
  split
  · rename_i e; subst e
    split
    · exact hi.symm
    · rename_i hn; rw [List.getElem?_eq_none (by omega)] at hi; cases hi
  · rfl
theorem row_store (s : Sim G h w) {i off len sz : Nat} {cs xs : List AV} {x : Value} (hcs : h[i]? = some (.cells cs)) (hx : Rep G (.sl i off len sz) x) {vs : List Value} (hv : RepL G xs vs) (hone : xs.all AV.one = true) (hl : xs.length ≤ len * sz) (hle : off + len * sz ≤ cs.length) :
    ∃ b c, x = .slice (some b) len c ∧ ∃ G' w', (storeCells b vs).run P w = .ok () w' ∧ Sim G' (h.set i (.cells (splice cs off xs))) w' ∧ Evo G h w G' (h.set i (.cells (splice cs off xs))) w' := by
  simp only [Rep] at hx
  obtain ⟨b, o, c, ad, h1, h2, h3, h4, rfl⟩ := hx
  refine ⟨_, _, rfl, ?_⟩
  have hlv := hv.length
  rcases Nat.eq_zero_or_pos c with hc0 | hc0
  · have : xs = [] := by
      have : len = 0 := by omega
      subst this
      exact List.length_eq_zero_iff.1 (by omega)
    subst this
    simp only [RepL] at hv
    subst hv
    refine ⟨G, w, by simp [storeCells], ?_, ?_⟩
    · rw [splice_nil, set_same hcs]; exact s
    · rw [splice_nil, set_same hcs]; exact Evo.refl _ _ _
  · obtain rfl := h4 hc0
    obtain ⟨b', o', arr, el, lo, hi', e1, e2, e3, e4, e5, e6⟩ := objAt_cells s hcs
    rw [h1] at e1
    cases e1
    obtain ⟨arr', q2, q3⟩ := store_list (P := P) b (o + off) el lo hi' vs 0 arr w e2 e3 (by omega) (one_all hv hone)
    have hsz : arr'.size = arr.size := by
      have := congrArg List.length q3
      rw [splice_length (by simp; omega)] at this
      simpa using this
    have x : ObjAt G (putBlk w b (.cells arr' el (lo, hi'))) i (.cells (splice cs off xs)) := by
      refine ⟨b, o, arr', el, lo, hi', h1, putBlk_eq w b _ (Array.getElem?_eq_some_iff.1 e2).1, by rw [hsz]; exact e3, by rw [splice_length (by omega)]; exact e4, by rw [hsz]; exact e5, ?_⟩
      intro q a ha
      rw [splice_get (by omega)] at ha
      have hget : arr'[o + q]? = arr'.toList[o + q]? := by simp
      rw [hget, q3, splice_get (by simp; omega)]
      by_cases c1 : q < off
      · rw [if_pos c1] at ha
        rw [if_pos (by omega)]
        simpa using e6 q a ha
      · rw [if_neg c1] at ha
        rw [if_neg (by omega)]
        by_cases c2 : q < off + xs.length
        · rw [if_pos c2] at ha
          rw [if_pos (by omega)]
          obtain ⟨v, h4, h5⟩ := hv.at _ a ha
          exact ⟨v, by rw [← h4]; congr 1; omega, h5⟩
        · rw [if_neg c2] at ha
          rw [if_neg (by omega)]
          simpa using e6 q a ha
    obtain ⟨s', ev⟩ := sim_turn s hcs rfl h1 rfl x
    exact ⟨_, _, q2, s', ev⟩
theorem aElems_take (s : Sim G h w) {size : Nat} {v : AV} {x : Value} (hx : Rep G v x) {m : Nat} {xs : List AV} (e : aElems h size v = some (m, xs)) {k : Nat} (hk : k ≤ m) :
    ∃ vs : List Value, RepL G (xs.take (k * size)) vs ∧ (Builtin.firstCells size k x).run P w = .ok vs.toArray w := by
  have hmul : k * size ≤ m * size := Nat.mul_le_mul_right _ hk
  have snap : ∀ (n c : Nat) (cs : List AV) (base : Option Addr), aElems h size (.snap n cs) = some (m, xs) → k ≤ n → (base = none ∧ cs = [] ∧ n = 0 ∨ ∃ b o, base = some ⟨b, o, none⟩ ∧ RepAt G cs b o) →
      ∃ vs : List Value, RepL G (xs.take (k * size)) vs ∧ (Builtin.firstCells size k (.slice base n c)).run P w = .ok vs.toArray w := by
    intro n c cs base e hkn hb
    simp only [aElems] at e
    split at e
    · rename_i hl
      cases e
      rcases hb with ⟨rfl, rfl, rfl⟩ | ⟨b, o, rfl, h2⟩
      · exact ⟨[], by simp [RepL], by simp [Builtin.firstCells]⟩
      · obtain ⟨vs, h3, h4, h5⟩ := frozen_cells s h2 hl
        refine ⟨vs.take (k * size), ?_, ?_⟩
        · refine repL_of_at (by simp; omega) fun j a ha => ?_
          rw [List.getElem?_take] at ha ⊢
          split at ha
          · rename_i hj; rw [if_pos hj]; exact h4.at j a ha
          · cases ha
        · have := run_loadCells_list (P := P) w ⟨b, o, none⟩ (vs.take (k * size)) (fun j v hj => by
            rw [add_plain]
            rw [List.getElem?_take] at hj
            split at hj
            · exact h5 j v hj
            · cases hj)
          have hlen : (vs.take (k * size)).length = k * size := by simp; omega
          rw [hlen] at this
          simpa [Builtin.firstCells] using this
    · cases e
  unfold aElems at e
  split at e
  · rename_i n cs
    have hn : n = m := by split at e <;> cases e; rfl
    simp only [Rep] at hx
    rcases hx with ⟨rfl, rfl, rfl⟩ | ⟨b, o, c, h1, rfl, h2⟩
    · exact snap 0 0 [] none (by simpa [aElems] using e) (by omega) (.inl ⟨rfl, rfl, rfl⟩)
    · exact snap n c cs _ (by simpa [aElems] using e) (by omega) (.inr ⟨b, o, rfl, h2⟩)
  · rename_i n cs
    have hn : n = m := by split at e <;> cases e; rfl
    simp only [Rep] at hx
    rcases hx with ⟨rfl, rfl, rfl⟩ | ⟨b, o, rfl, h2⟩
    · exact snap 0 0 [] none (by simpa [aElems] using e) (by omega) (.inl ⟨rfl, rfl, rfl⟩)
    · exact snap n n cs _ (by simpa [aElems] using e) (by omega) (.inr ⟨b, o, rfl, h2⟩)
  · rename_i i off len sz
    split at e
    · rename_i cs hcs
      split at e
      · rename_i hc
        obtain ⟨rfl, hle⟩ := hc
        cases e
        simp only [Rep] at hx
        obtain ⟨b, o, c, ad, h1, h2, h3, h4, rfl⟩ := hx
        obtain ⟨vs, q1, q2, _, q4⟩ := aElems_ok (P := P) (size := sz) s (v := .sl i off k sz) (x := .slice (some ⟨b, ad, none⟩) k c) (by
          simp only [Rep]; exact ⟨b, o, c, ad, h1, h2, by omega, h4, rfl⟩) (m := k) (xs := (cs.drop off).take (k * sz)) (by simp [aElems, hcs]; omega)
        refine ⟨vs, ?_, ?_⟩
        · rw [List.take_take, Nat.min_eq_left hmul]; exact q2
        · simpa [Builtin.firstCells] using q4
      · cases e
    · cases e
  · rename_i s'
    split at e
    · rename_i h1
      subst h1
      cases e
      simp only [Rep] at hx
      obtain ⟨rfl, _⟩ := hx
      refine ⟨(s'.data.toList.take k).map fun b => Value.int .u8 b.toNat, by rw [Nat.mul_one, ← List.map_take]; exact repL_bytes G _, ?_⟩
      simp only [Builtin.firstCells, Sem.run_pure]
      congr 1
      apply Array.toList_inj.1
      simp [ByteArray.extract, ByteArray.copySlice]
    · cases e
  · cases e
def eCopy (size : Nat) (v x : AV) (h : AHeap) (K : QT) : Prop :=
  match aElems h size x with
  | none => False
  | some (m, xs) => match v with
    | .sl i off len sz => (match h[i]? with
      | some (.cells cs) => (sz = size ∧ off + len * size ≤ cs.length ∧ xs.all AV.one = true) ∧ K (I (Nat.min m len)) (h.set i (.cells (splice cs off (xs.take (Nat.min m len * size)))))
      | _ => False)
    | .full n _ => Nat.min m n = 0 ∧ K (I 0) h
    | .snap n _ => Nat.min m n = 0 ∧ K (I 0) h
    | _ => False
structure qCopy (size : Nat) (v x : AV) (h : AHeap) (K : QT) : Prop where
  mk :: (out : eCopy size v x h K)
theorem eCopy_ok (s : Sim G h w) {t e ty : TypeId} {ts : Array TypeId} {i : TypeInfo} (ht0 : ts[0]? = some t) (ht : P.underlying t = some (.slice e)) (hi : P.info? e = some i) {v x : AV} {a b : Value} (hx : Rep G v a) (hy : Rep G x b) {K : QT} (k : eCopy i.size v x h K) :
    Ye P G h w (Builtin.copy_ ts ty #[a, b]) K := by
  unfold eCopy at k
  split at k
  · exact k.elim
  · rename_i m xs hxs
    obtain ⟨_, _, _, hm, _⟩ := aElems_ok (P := P) s hy hxs
    have none_ : ∀ (base : Option Addr) (n c : Nat), a = .slice base n c → Nat.min m n = 0 → K (I 0) h → Ye P G h w (Builtin.copy_ ts ty #[a, b]) K := by
      rintro base n c rfl hmn k
      obtain ⟨vs, hv1, hv2⟩ := aElems_take (P := P) s hy hxs (k := 0) (Nat.zero_le _)
      simp only [Nat.zero_mul, List.take_zero, RepL] at hv1
      subst hv1
      refine ⟨I 0, .int .i64 0, h, G, w, ?_, by simp [Rep, Value.oneCell'], k, s, Evo.refl _ _ _⟩
      have hmn' : min m n = 0 := hmn
      cases base <;> simp [Builtin.copy_, ht0, run_underlying ht, hm, sizeOf, typeInfo, hi, hmn', hv2, storeCells, goInt]
    split at k
    · rename_i j off len sz
      split at k
      · rename_i cs hcs
        obtain ⟨⟨rfl, hle, hone⟩, k⟩ := k
        have hkm : Nat.min m len ≤ m := Nat.min_le_left _ _
        have hkl : Nat.min m len ≤ len := Nat.min_le_right _ _
        obtain ⟨vs, hv1, hv2⟩ := aElems_take (P := P) s hy hxs hkm
        obtain ⟨ba, c, rfl, G', w', q1, q2, q3⟩ := row_store (P := P) s hcs hx hv1 (by
          rw [List.all_eq_true] at hone ⊢; exact fun y hy => hone y (List.mem_of_mem_take hy)) (by simp only [List.length_take]; exact Nat.le_trans (Nat.min_le_left _ _) (Nat.mul_le_mul_right _ hkl)) hle
        refine ⟨_, .int .i64 (Nat.min m len), _, G', w', ?_, by simp [Rep, Value.oneCell'], k, q2, q3⟩
        have hv2' : (Builtin.firstCells i.size (min m len) b).run P w = .ok vs.toArray w := hv2
        simp [Builtin.copy_, ht0, run_underlying ht, hm, sizeOf, typeInfo, hi, hv2', q1, goInt]
      · exact k.elim
    · rename_i n cs
      simp only [Rep] at hx
      rcases hx with ⟨rfl, rfl, rfl⟩ | ⟨bb, o, rfl, h2⟩
      · exact none_ _ _ _ rfl k.1 k.2
      · exact none_ _ _ _ rfl k.1 k.2
    · rename_i n cs
      simp only [Rep] at hx
      rcases hx with ⟨rfl, rfl, rfl⟩ | ⟨bb, o, c, _, rfl, h2⟩
      · exact none_ _ _ _ rfl k.1 k.2
      · exact none_ _ _ _ rfl k.1 k.2
    · exact k.elim
theorem eCopy_mono {size : Nat} {v x : AV} {h : AHeap} {K K' : QT} (hk : ∀ v h, K v h → K' v h) (k : eCopy size v x h K) : eCopy size v x h K' := by
  unfold eCopy at *
  split at k
  · exact k.elim
  · split at k
    · split at k
      · exact ⟨k.1, hk _ _ k.2⟩
      · exact k.elim
    · exact ⟨k.1, hk _ _ k.2⟩
    · exact ⟨k.1, hk _ _ k.2⟩
    · exact k.elim
def eClear (size : Nat) (u v : AV) (h : AHeap) (K : AHeap → Prop) : Prop :=
  match v with
  | .sl i off len sz => (match h[i]? with
    | some (.cells cs) => (u.isTup = false ∧ u.cells.length = size ∧ sz = size ∧ off + len * size ≤ cs.length ∧ u.cells.all AV.one = true) ∧ K (h.set i (.cells (splice cs off (List.replicate len u.cells).flatten)))
    | _ => False)
  | .full 0 _ => K h
  | .snap 0 _ => K h
  | _ => False
structure qClear (size : Nat) (u v : AV) (h : AHeap) (K : AHeap → Prop) : Prop where
  mk :: (out : eClear size u v h K)
omit [Tabs] in
theorem zeroCells_list (zs : Array Value) : ∀ n, (Builtin.zeroCells zs n).toList = (List.replicate n zs.toList).flatten
  | 0 => by simp [Builtin.zeroCells]
  | n + 1 => by
    have ih := zeroCells_list zs n
    rw [List.replicate_succ', List.flatten_append, ← ih]
    simp only [Builtin.zeroCells, Array.toList_map, Array.toList_range, List.flatten_cons, List.flatten_nil, List.append_nil]
    rw [Nat.succ_mul, List.range_add, List.map_append]
    congr 1
    rw [List.map_map]
    apply List.ext_getElem?
    intro j
    simp only [List.getElem?_map, Function.comp_apply]
    by_cases hj : j < zs.size
    · simp [hj, Nat.mod_eq_of_lt hj]
    · simp [hj]
theorem repL_rep {G : Gh} {cs : List AV} {vs : List Value} (r : RepL G cs vs) : ∀ n, RepL G (List.replicate n cs).flatten (List.replicate n vs).flatten
  | 0 => by simp [RepL]
  | n + 1 => by rw [List.replicate_succ, List.replicate_succ, List.flatten_cons, List.flatten_cons]; exact r.append (repL_rep r n)
theorem eClear_ok (s : Sim G h w) {t e ty : TypeId} {ts : Array TypeId} {i : TypeInfo} {z : Value} (ht0 : ts[0]? = some t) (ht : P.underlying t = some (.slice e)) (hi : P.info? e = some i) (hz : i.zero = some z) {u v : AV} {a : Value} (hx : Rep G v a) (hu : Rep G u z) {K : AHeap → Prop} (k : eClear i.size u v h K) :
    Ye P G h w (Builtin.clear_ ts ty #[a]) (fun r h' => r = .tup [] ∧ K h') := by
  unfold eClear at k
  split at k
  · rename_i j off len sz
    split at k
    · rename_i cs hcs
      obtain ⟨⟨hut, hul, rfl, hle, hone⟩, k⟩ := k
      have hc := hu.cells hut
      have hrr := repL_rep hc len
      have hlen : (List.replicate len u.cells).flatten.length = len * i.size := by simp [List.length_flatten, hul]
      have hone' : (List.replicate len u.cells).flatten.all AV.one = true := by
        rw [List.all_eq_true] at hone ⊢
        intro y hy
        obtain ⟨l, h1, h2⟩ := List.mem_flatten.1 hy
        rw [(List.mem_replicate.1 h1).2] at h2
        exact hone y h2
      obtain ⟨ba, c, rfl, G', w', q1, q2, q3⟩ := row_store (P := P) s hcs hx hrr hone' (by omega) hle
      refine ⟨.tup [], .tuple #[], _, G', w', ?_, by simp [Rep, RepL], ⟨rfl, k⟩, q2, q3⟩
      rw [← zeroCells_list] at q1
      cases len with
      | zero =>
        have : w' = w := by
          simp [Builtin.zeroCells, storeCells] at q1
          exact q1.symm
        subst this
        simp [Builtin.clear_, ht0, run_underlying ht]
      | succ len => simp [Builtin.clear_, ht0, run_underlying ht, zeroValue, typeInfo, hi, hz, q1]
    · exact k.elim
  · simp only [Rep] at hx
    refine ⟨.tup [], .tuple #[], h, G, w, ?_, by simp [Rep, RepL], ⟨rfl, k⟩, s, Evo.refl _ _ _⟩
    rcases hx with ⟨_, rfl, rfl⟩ | ⟨bb, o, rfl, h2⟩ <;> simp [Builtin.clear_, ht0, run_underlying ht]
  · simp only [Rep] at hx
    refine ⟨.tup [], .tuple #[], h, G, w, ?_, by simp [Rep, RepL], ⟨rfl, k⟩, s, Evo.refl _ _ _⟩
    rcases hx with ⟨_, rfl, rfl⟩ | ⟨bb, o, c, _, rfl, h2⟩ <;> simp [Builtin.clear_, ht0, run_underlying ht]
  · exact k.elim
theorem eClear_mono {size : Nat} {u v : AV} {h : AHeap} {K K' : AHeap → Prop} (hk : ∀ h, K h → K' h) (k : eClear size u v h K) : eClear size u v h K' := by
  unfold eClear at *
  split at k
  · split at k
    · exact ⟨k.1, hk _ k.2⟩
    · exact k.elim
  · exact hk _ k
  · exact hk _ k
  · exact k.elim
end
end
section
variable [Tabs]
section
variable {P : Program} {G : Gh} {h : AHeap} {w : World}
inductive Ext where
  | index
  | count
  | bits
  | frombits
def extOf (P : Program) (f : FuncId) : Option Ext := match P.funcs[f]? with
  | some fn => if fn.body.isNone = true then (if (fn.name == "internal/bytealg.IndexByteString" && fn.origin == "") = true then some .index
      else if (fn.name == "internal/bytealg.CountString" && fn.origin == "") = true then some .count else if (fn.name == "math.Float64bits" && fn.origin == "") = true then some .bits else if (fn.name == "math.Float64frombits" && fn.origin == "") = true then some .frombits else none) else none
  | none => none
def pExt (e : Ext) (vs : List AV) (K : AV → Prop) : Prop :=
  match e, vs with
  | .index, [.lit (.string s), .lit (.int .u8 c)] => K (I (Lib.indexByte s.data.toList c.toNat.toUInt8))
  | .count, [.lit (.string s), .lit (.int .u8 c)] => K (I (Lib.countByte s.data.toList c.toNat.toUInt8))
  | .bits, [.lit (.float .f64 b)] => K (.lit (.int .u64 b))
  | .frombits, [.lit (.int .u64 n)] => K (.lit (.float .f64 n.toNat))
  | _, _ => False
structure qExt (e : Ext) (vs : List AV) (K : AV → Prop) : Prop where
  mk :: (out : pExt e vs K)
theorem pExt_mono {e : Ext} {vs : List AV} {K K' : AV → Prop} (hk : ∀ r, K r → K' r) (k : pExt e vs K) : pExt e vs K' := by
  unfold pExt at *
  split at k <;> first | exact hk _ k | exact k.elim
theorem pExt_val {e : Ext} {vs : List AV} {K : AV → Prop} (k : pExt e vs K) : ∃ v, K v ∧ pExt e vs fun r => r = v := by
  unfold pExt at *
  split at k <;> first | exact ⟨_, k, rfl⟩ | exact k.elim
theorem look_index : Extern.allGenericRows.lookup "internal/bytealg.IndexByteString" = none ∧ Extern.allTypedRows.lookup "internal/bytealg.IndexByteString" = none ∧ Extern.allRows.lookup "internal/bytealg.IndexByteString" = some Extern.BytealgIndexByte.indexByte := ⟨by kernel_rfl, by kernel_rfl, by kernel_rfl⟩
theorem look_count : Extern.allGenericRows.lookup "internal/bytealg.CountString" = none ∧ Extern.allTypedRows.lookup "internal/bytealg.CountString" = none ∧ Extern.allRows.lookup "internal/bytealg.CountString" = some Extern.BytealgCount.count := ⟨by kernel_rfl, by kernel_rfl, by kernel_rfl⟩
theorem look_bits : Extern.allGenericRows.lookup "math.Float64bits" = none ∧ Extern.allTypedRows.lookup "math.Float64bits" = none ∧ Extern.allRows.lookup "math.Float64bits" = some Extern.MathFloatBits.float64bits := ⟨by kernel_rfl, by kernel_rfl, by kernel_rfl⟩
theorem look_frombits : Extern.allGenericRows.lookup "math.Float64frombits" = none ∧ Extern.allTypedRows.lookup "math.Float64frombits" = none ∧ Extern.allRows.lookup "math.Float64frombits" = some Extern.MathFloatBits.float64frombits := ⟨by kernel_rfl, by kernel_rfl, by kernel_rfl⟩
theorem look_next2 : Extern.allNextRows.lookup "math.Float64bits" = none ∧ Extern.allNextRows.lookup "math.Float64frombits" = none := ⟨by kernel_rfl, by kernel_rfl⟩
theorem look_next : Extern.allNextRows.lookup "internal/bytealg.IndexByteString" = none ∧ Extern.allNextRows.lookup "internal/bytealg.CountString" = none ∧ Extern.allNextRows.lookup "" = none := ⟨by kernel_rfl, by kernel_rfl, by kernel_rfl⟩
theorem ext_run {f : FuncId} {e : Ext} (he : extOf P f = some e) {vs : List AV} {xs : Array Value} (hr : RepL G vs xs.toList) {K : AV → Prop} (k : pExt e vs K) :
    ∃ r v, (callFunc f xs).run P w = .ok (.value v) w ∧ Rep G r v ∧ K r := by
  unfold extOf at he
  split at he
  · rename_i fn hf
    split at he
    · rename_i hb
      split at he
      · rename_i hn
        cases he
        simp only [Bool.and_eq_true, beq_iff_eq] at hn
        have h1 : Extern.findNext fn = none := by unfold Extern.findNext; simp only [hn.1, hn.2, look_next.1, look_next.2.2]; rfl
        have h2 : Extern.find fn = some Extern.BytealgIndexByte.indexByte := by unfold Extern.find; simp only [hn.1, look_index.1, look_index.2.1, look_index.2.2]; rfl
        rw [run_callFunc_extern hf (by rw [hn.1]; decide) hb h1 h2]
        have k : ∃ s c, vs = [.lit (.string s), .lit (.int .u8 c)] ∧ K (I (Lib.indexByte s.data.toList c.toNat.toUInt8)) := by
          unfold pExt at k; split at k <;> first | contradiction | exact ⟨_, _, rfl, k⟩ | exact k.elim
        obtain ⟨s, c, rfl, k⟩ := k
        · obtain ⟨a, b, hx, ha, hb⟩ := hr.two
          simp only [Rep] at ha hb
          have : xs = #[a, b] := by apply Array.toList_inj.1; simpa using hx
          rw [this, ha.1, hb.1, run_indexByte_string, Lib.firstIdx_eq]
          exact ⟨_, _, rfl, by simp [Rep, Value.oneCell'], k⟩
      · split at he
        · rename_i hn
          cases he
          simp only [Bool.and_eq_true, beq_iff_eq] at hn
          have h1 : Extern.findNext fn = none := by unfold Extern.findNext; simp only [hn.1, hn.2, look_next.2.1, look_next.2.2]; rfl
          have h2 : Extern.find fn = some Extern.BytealgCount.count := by unfold Extern.find; simp only [hn.1, look_count.1, look_count.2.1, look_count.2.2]; rfl
          rw [run_callFunc_extern hf (by rw [hn.1]; decide) hb h1 h2]
          have k : ∃ s c, vs = [.lit (.string s), .lit (.int .u8 c)] ∧ K (I (Lib.countByte s.data.toList c.toNat.toUInt8)) := by
            unfold pExt at k; split at k <;> first | contradiction | exact ⟨_, _, rfl, k⟩ | exact k.elim
          obtain ⟨s, c, rfl, k⟩ := k
          · obtain ⟨a, b, hx, ha, hb⟩ := hr.two
            simp only [Rep] at ha hb
            have : xs = #[a, b] := by apply Array.toList_inj.1; simpa using hx
            rw [this, ha.1, hb.1, Lib.run_countString]
            exact ⟨_, _, rfl, by simp [Rep, Value.oneCell'], k⟩
        · split at he
          · rename_i hn
            cases he
            simp only [Bool.and_eq_true, beq_iff_eq] at hn
            have h1 : Extern.findNext fn = none := by unfold Extern.findNext; simp only [hn.1, hn.2, look_next2.1, look_next.2.2]; rfl
            have h2 : Extern.find fn = some Extern.MathFloatBits.float64bits := by unfold Extern.find; simp only [hn.1, look_bits.1, look_bits.2.1, look_bits.2.2]; rfl
            rw [run_callFunc_extern hf (by rw [hn.1]; decide) hb h1 h2]
            have k : ∃ b, vs = [.lit (.float .f64 b)] ∧ K (.lit (.int .u64 b)) := by
              unfold pExt at k; split at k <;> first | contradiction | exact ⟨_, rfl, k⟩ | exact k.elim
            obtain ⟨b, rfl, k⟩ := k
            obtain ⟨a, hx, ha⟩ := hr.single
            simp only [Rep] at ha
            have : xs = #[a] := by apply Array.toList_inj.1; simpa using hx
            rw [this, ha.1]
            exact ⟨_, _, rfl, by simp [Rep, Value.oneCell'], k⟩
          · split at he
            · rename_i hn
              cases he
              simp only [Bool.and_eq_true, beq_iff_eq] at hn
              have h1 : Extern.findNext fn = none := by unfold Extern.findNext; simp only [hn.1, hn.2, look_next2.2, look_next.2.2]; rfl
              have h2 : Extern.find fn = some Extern.MathFloatBits.float64frombits := by unfold Extern.find; simp only [hn.1, look_frombits.1, look_frombits.2.1, look_frombits.2.2]; rfl
              rw [run_callFunc_extern hf (by rw [hn.1]; decide) hb h1 h2]
              have k : ∃ n, vs = [.lit (.int .u64 n)] ∧ K (.lit (.float .f64 n.toNat)) := by
                unfold pExt at k; split at k <;> first | contradiction | exact ⟨_, rfl, k⟩ | exact k.elim
              obtain ⟨n, rfl, k⟩ := k
              obtain ⟨a, hx, ha⟩ := hr.single
              simp only [Rep] at ha
              have : xs = #[a] := by apply Array.toList_inj.1; simpa using hx
              rw [this, ha.1]
              exact ⟨_, _, rfl, by simp [Rep, Value.oneCell'], k⟩
            · cases he
    · cases he
  · cases he
def isX (P : Program) : Op → Bool
  | .call c => match c.callee with
    | .value (.func f) => (extOf P f).isSome
    | .builtin .copy => true
    | .builtin .clear => true
    | _ => false
  | .indexAddr _ (.global _) _ => true
  | .load _ (.global _) => true
  | _ => false
def qOpX : Op → Bool
  | .call c => match c.callee with
    | .value (.func _) => true
    | _ => false
  | .indexAddr _ (.global _) _ => true
  | .load _ (.global _) => true
  | _ => false
def rowT (P : Program) (ts : Array TypeId) (K : Value → TypeInfo → Prop) : Prop :=
  match ts.toList with
  | t :: _ => (match P.underlying t with
    | some (.slice e) => (match P.info? e with
      | some i => (match i.zero with | some z => if okV z = true then K z i else False | none => False)
      | none => False)
    | _ => False)
  | _ => False
theorem rowT_ok {ts : Array TypeId} {K : Value → TypeInfo → Prop} (k : rowT P ts K) : ∃ t e i z, ts[0]? = some t ∧ P.underlying t = some (.slice e) ∧ P.info? e = some i ∧ i.zero = some z ∧ okV z = true ∧ K z i := by
  unfold rowT at k
  split at k
  · rename_i t rest ht
    split at k
    · split at k
      · split at k
        · split at k
          · refine ⟨t, _, _, _, ?_, by assumption, by assumption, by assumption, by assumption, k⟩
            rw [← Array.getElem?_toList, ht]; rfl
          · exact k.elim
        · exact k.elim
      · exact k.elim
    · exact k.elim
  · exact k.elim
theorem rowT_mono {ts : Array TypeId} {K K' : Value → TypeInfo → Prop} (hk : ∀ z i, K z i → K' z i) (k : rowT P ts K) : rowT P ts K' := by
  unfold rowT at *
  split at k
  · split at k
    · split at k
      · split at k
        · split at k
          · rename_i h; rw [if_pos h]; exact hk _ _ k
          · exact k.elim
        · exact k.elim
      · exact k.elim
    · exact k.elim
  · exact k.elim
def aopX (P : Program) (env : Env) (h : AHeap) (o : Oper) (K : QT) : Prop :=
  match o.op with
  | .call c => match c.callee with
    | .value (.func f) => withL (opvs env c.args.toList) fun vs => (match extOf P f with | some e => qExt e vs fun r => K r h | none => False)
    | .builtin .copy => withL (opvs env c.args.toList) fun vs => rowT P c.argTypes fun _ i => (match vs with | [v, x] => qCopy i.size v x h K | _ => False)
    | .builtin .clear => withL (opvs env c.args.toList) fun vs => rowT P c.argTypes fun z i => (match vs with | [v] => qClear i.size (ofV z) v h fun h' => K (.tup []) h' | _ => False)
    | _ => False
  | .indexAddr t (.global g) i => (match Tabs.tab g with
    | some cs => withO (opv env i) fun iv => aIndexAddr P t (.cptr cs) iv fun r => K r h
    | none => False)
  | .load t (.global g) => (match Tabs.tab g with
    | some cs => aLoad P t (.cptr cs) h fun r => K r h
    | none => False)
  | _ => False
def aop (P : Program) (env : Env) (h : AHeap) (o : Oper) (K : QT) : Prop := if isX P o.op = true then aopX P env h o K else aopB P env h o K
theorem tab_rep (s : Sim G h w) {g : Nat} {cs : List AV} (hg : Tabs.tab g = some cs) (a : Act) : Rep G (.cptr cs) (a.eval (.global g)) := by
  simp only [Act.eval, Rep]
  exact ⟨g, 0, rfl, Tabs.tab_ok G g cs s.tab hg⟩
theorem aopX_ok (s : Sim G h w) {env : Env} {a : Act} (r : EnvRep G env a.tmps) {o : Oper} {K : QT} (k : aopX P env h o K) : UpV P (N0 G h w K) ((execOp a.eval o).run P w) := by
  obtain ⟨dst, op, ty, pos, after, guard⟩ := o
  cases op <;> simp only [aopX] at k <;> try exact k.elim
  case call c =>
    obtain ⟨callee, args, argTypes⟩ := c
    simp only at k
    split at k
    · rename_i f
      obtain ⟨vs, h1, k⟩ := withL_ok k
      split at k
      · rename_i e he
        have hr := opvs_rep r h1
        obtain ⟨rr, v, q1, q2, q3⟩ := ext_run (w := w) (xs := args.map a.eval) he (by simpa using hr) k.out
        simp only [execOp, resolve, Deferred.ofValue, Act.eval, Sem.run_bind, Sem.run_pure, Result.andThen_ok, invoke, Array.append_empty, Array.empty_append]
        rw [q1]
        exact ⟨rr, h, G, q2, q3, s, Evo.refl _ _ _⟩
      · exact k.elim
    · obtain ⟨vs, h1, k⟩ := withL_ok k
      obtain ⟨t, e, i, z, ht0, ht, hi, hz, hzo, k2⟩ := rowT_ok k
      have hr := opvs_rep r h1
      clear k
      split at k2
      · rename_i v u
        obtain ⟨x, y, hx, hx2, hx3⟩ := (show RepL G [v, u] (args.map a.eval).toList by simpa using hr).two
        have hargs : args.map a.eval = #[x, y] := by apply Array.toList_inj.1; simpa using hx
        obtain ⟨r', v', h', G', w', q1, q2, q3, q4, q5⟩ := eCopy_ok (ty := ty) s ht0 ht hi hx2 hx3 k2.out
        simp only [execOp, resolve, Sem.run_bind, Sem.run_pure, Result.andThen_ok, invoke, builtin, hargs, q1]
        exact ⟨r', h', G', q2, q3, q4, q5⟩
      · exact k2.elim
    · obtain ⟨vs, h1, k⟩ := withL_ok k
      obtain ⟨t, e, i, z, ht0, ht, hi, hz, hzo, k2⟩ := rowT_ok k
      have hr := opvs_rep r h1
      clear k
      split at k2
      · rename_i v
        obtain ⟨x, hx, hx2⟩ := (show RepL G [v] (args.map a.eval).toList by simpa using hr).single
        have hargs : args.map a.eval = #[x] := by apply Array.toList_inj.1; simpa using hx
        obtain ⟨r', v', h', G', w', q1, q2, ⟨rfl, q3⟩, q4, q5⟩ := eClear_ok (ty := ty) s ht0 ht hi hz hx2 (rep_ofV G z hzo) k2.out
        simp only [execOp, resolve, Sem.run_bind, Sem.run_pure, Result.andThen_ok, invoke, builtin, hargs, q1]
        exact ⟨_, h', G', q2, q3, q4, q5⟩
      · exact k2.elim
    · exact k.elim
  case indexAddr t x i =>
    cases x <;> simp only at k <;> try exact k.elim
    split at k
    · rename_i cs hg
      obtain ⟨iv, h1, k⟩ := withO_ok k
      have hx := tab_rep s hg a
      unfold aIndexAddr at k
      split at k
      · split at k
        · exact upV_of_yl s (pIndexAddr_ok ‹_› ‹_› hx (opv_rep r h1) k.out)
        · exact k.elim
      · split at k
        · exact upV_of_yl s (pIndexAddrA_ok ‹_› ‹_› hx (opv_rep r h1) k.out)
        · exact k.elim
      · exact k.elim
    · exact k.elim
  case load t x =>
    cases x <;> simp only at k <;> try exact k.elim
    split at k
    · rename_i cs hg
      have hx := tab_rep s hg a
      unfold aLoad at k
      split at k
      · split at k
        · exact upV_of_yl s (pLoadA_ok s ‹_› ‹_› ‹_› hx k.out)
        · rename_i hd; exact upV_of_yl s (pLoad1_ok s ‹_› (by simpa using hd) hx k.out)
      · exact k.elim
    · exact k.elim
theorem aopX_mono {env : Env} {h : AHeap} {o : Oper} {K K' : QT} (hk : ∀ v h, K v h → K' v h) (k : aopX P env h o K) : aopX P env h o K' := by
  obtain ⟨dst, op, ty, pos, after, guard⟩ := o
  cases op <;> simp only [aopX] at k ⊢ <;> try exact k.elim
  case call c =>
    split at k
    · refine withL_mono (fun _ k => ?_) _ k
      split at k
      · exact ⟨pExt_mono (fun r k => hk r h k) k.out⟩
      · exact k.elim
    · refine withL_mono (fun _ k => rowT_mono (fun z i k => ?_) k) _ k
      split at k
      · exact ⟨eCopy_mono hk k.out⟩
      · exact k.elim
    · refine withL_mono (fun _ k => rowT_mono (fun z i k => ?_) k) _ k
      split at k
      · exact ⟨eClear_mono (fun h k => hk _ h k) k.out⟩
      · exact k.elim
    · exact k.elim
  case indexAddr t x i =>
    cases x <;> simp only at k ⊢ <;> try exact k.elim
    split at k
    · refine withO_mono (fun _ k => ?_) _ k
      unfold aIndexAddr at *
      (repeat' split at k) <;> first
        | exact k.elim
        | exact qIndexAddr_mono (fun r k => hk r h k) _ _ _ k
        | exact qIndexAddrA_mono (fun r k => hk r h k) _ _ _ _ k
    · exact k.elim
  case load t x =>
    cases x <;> simp only at k ⊢ <;> try exact k.elim
    split at k
    · unfold aLoad at *
      split at k
      · split at k
        · rename_i hd; rw [if_pos hd]; exact qLoadA_mono (fun r k => hk r h k) _ _ _ k
        · rename_i hd; rw [if_neg hd]; exact qLoad1_mono (fun r k => hk r h k) _ _ k
      · exact k.elim
    · exact k.elim
theorem aop_ok (s : Sim G h w) {env : Env} {a : Act} (r : EnvRep G env a.tmps) {o : Oper} {K : QT} (k : aop P env h o K) : UpV P (N0 G h w K) ((execOp a.eval o).run P w) := by
  unfold aop at k
  split at k
  · exact aopX_ok s r k
  · exact aopB_ok s r k
theorem aop_mono {env : Env} {h : AHeap} {o : Oper} {K K' : QT} (hk : ∀ v h, K v h → K' v h) (k : aop P env h o K) : aop P env h o K' := by
  unfold aop at *
  split at k
  · rename_i hn; rw [if_pos hn]; exact aopX_mono hk k
  · rename_i hn; rw [if_neg hn]; exact aopB_mono hk k
end
end
section
variable [Tabs]
section
variable {P : Program} {G : Gh} {h : AHeap} {w : World} {n : Nat}
def putD (env : Env) (d : Option Tmp) (v : AV) : Env := match d with | some d => (d, v) :: env | none => env
def dstOk (n : Nat) (d : Option Tmp) : Bool := match d with | some d => decide (d < n) | none => true
theorem EnvRep.putD {env : Env} {a : Act} (r : EnvRep G env a.tmps) {d : Option Tmp} (hd : dstOk a.tmps.size d = true) {v : AV} {x : Value} (hx : Rep G v x) : EnvRep G (putD env d v) (a.put d x).tmps := by
  cases d with
  | none => exact r
  | some d => exact r.put (by simpa [dstOk] using hd) hx
theorem put_size (a : Act) (d : Option Tmp) (x : Value) : (a.put d x).tmps.size = a.tmps.size := by cases d <;> simp [Act.put]
theorem put_defers (a : Act) (d : Option Tmp) (x : Value) : (a.put d x).defers = a.defers := by cases d <;> simp [Act.put]
def stepO (P : Program) (n : Nat) (env : Env) (h : AHeap) (o : Oper) (K : Env → AHeap → Prop) : Prop :=
  if dstOk n o.dst = true then aop P env h o fun v h' => K (putD env o.dst v) h' else False
def ifT (v : AV) (X Y Z : Prop) : Prop := match v with | .tup [] => Z | _ => ifB v X Y
def ifG (g : Bool) (v : AV) (X Y Z : Prop) : Prop := match g with | true => ifT v X Y Z | false => ifB v X Y
def gdOf (ops : Array Oper) (j : Nat) : Bool := match ops[j]? with | some o => o.guard.isSome | none => false
omit [Tabs] in
theorem ifB_cases {v : AV} {X Y : Prop} (k : ifB v X Y) : (v = B true ∧ X) ∨ (v = B false ∧ Y) := by
  unfold ifB at k; split at k
  · exact .inl ⟨rfl, k⟩
  · exact .inr ⟨rfl, k⟩
  · exact k.elim
omit [Tabs] in
theorem ifG_cases {g : Bool} {v : AV} {X Y Z : Prop} (k : ifG g v X Y Z) : (v = B true ∧ X) ∨ (v = B false ∧ Y) ∨ (v = .tup [] ∧ Z) := by
  unfold ifG at k; split at k
  · unfold ifT at k; split at k
    · exact .inr (.inr ⟨rfl, k⟩)
    · exact (ifB_cases k).elim .inl fun h => .inr (.inl h)
  · exact (ifB_cases k).elim .inl fun h => .inr (.inl h)
theorem ifG_mono {g : Bool} {v : AV} {X Y Z X' Y' Z' : Prop} (hx : X → X') (hy : Y → Y') (hz : Z → Z') (k : ifG g v X Y Z) : ifG g v X' Y' Z' := by
  unfold ifG at *
  split at k
  · unfold ifT at *; split at k
    · exact hz k
    · exact ifB_mono hx hy k
  · exact ifB_mono hx hy k
omit [Tabs] in
theorem ifG_t {g : Bool} {X Y Z : Prop} (k : X) : ifG g (B true) X Y Z := by cases g <;> exact k
omit [Tabs] in
theorem ifG_f {g : Bool} {X Y Z : Prop} (k : Y) : ifG g (B false) X Y Z := by cases g <;> exact k
def denIx (P : Program) (n : Nat) (ops : Array Oper) : List Nat → Env → AHeap → (Env → AHeap → Prop) → Prop
  | [], env, h, K => K env h
  | i :: rest, env, h, K => match ops[i]? with
    | none => False
    | some o => match o.guard with
      | none => stepO P n env h o fun env' h' => denIx P n ops rest env' h' K
      | some (j, want) => match (ops[j]?).bind (·.dst) with
        | none => False
        | some s => withO (get env s) fun v =>
          ifG (gdOf ops j) v
            (if want = true then stepO P n ((s, B true) :: env) h o fun env' h' => denIx P n ops rest env' h' K
             else if dstOk n o.dst = true then denIx P n ops rest (putD ((s, B true) :: env) o.dst (.tup [])) h K else False)
            (if want = true then (if dstOk n o.dst = true then denIx P n ops rest (putD ((s, B false) :: env) o.dst (.tup [])) h K else False)
             else stepO P n ((s, B false) :: env) h o fun env' h' => denIx P n ops rest env' h' K)
            (if dstOk n o.dst = true then denIx P n ops rest (putD ((s, .tup []) :: env) o.dst (.tup [])) h K else False)
def OpsPost (G : Gh) (h : AHeap) (w : World) (n : Nat) (D : List Deferred) (K : Env → AHeap → Prop) (a : Act) (w' : World) : Prop :=
  ∃ env' h' G', K env' h' ∧ Sim G' h' w' ∧ Evo G h w G' h' w' ∧ EnvRep G' env' a.tmps ∧ a.tmps.size = n ∧ a.defers = D
theorem stepO_ok {o : Oper} {env : Env} {K : Env → AHeap → Prop} {a : Act} {Q : Exit → Act → World → Prop} {next : Act → World → Prop} (s : Sim G h w) (hn : a.tmps.size = n) (r : EnvRep G env a.tmps) (k : stepO P n env h o K)
    (hnext : ∀ a' w', OpsPost G h w n a.defers K a' w' → next a' w') : o.wp P a w next Q := by
  unfold stepO at k
  split at k
  · rename_i hd
    unfold Oper.wp
    refine upon_of_upV ?_
    have := aop_ok s r k
    unfold UpV at this ⊢
    have conv : ∀ v w', N0 G h w (fun v h' => K (putD env o.dst v) h') v w' → next (a.put o.dst v) w' := fun v w' ⟨rr, h', G', q1, q2, q3, q4⟩ => by
      refine hnext _ _ ⟨_, h', G', q2, q3, q4, (r.mono q4.le).putD (by rw [hn]; exact hd) q1, by rw [put_size, hn], put_defers _ _ _⟩
    split at this
    · exact conv _ _ this
    · exact conv _ _ this
    · exact Calls.mono this fun e w'' ⟨v, he, hv⟩ => ⟨v, he, conv _ _ hv⟩
    · exact this.elim
  · exact k.elim
theorem envRep_know {env : Env} {tmps : Array Value} (r : EnvRep G env tmps) {s : Nat} {v : AV} (h : get env s = some v) : EnvRep G ((s, v) :: env) tmps := fun k a e => by
  simp only [get] at e
  split at e
  · rename_i hk; subst hk; cases e; exact r _ _ h
  · exact r k a e
theorem guard_wanted {ops : Array Oper} {o : Oper} {j : Nat} {want b : Bool} {s : Nat} {env : Env} {a : Act} (hg : o.guard = some (j, want)) (hs : (ops[j]?).bind (·.dst) = some s) (r : EnvRep G env a.tmps) (hv : get env s = some (B b)) :
    Region.wanted o (yielded ops a.tmps) = (b == want) := by
  obtain ⟨x, h1, h2⟩ := r s _ hv
  simp only [Rep] at h2
  obtain ⟨rfl, _⟩ := h2
  have hy : yielded ops a.tmps j = some b := by
    unfold yielded
    simp only [hs]
    simp [Array.getD_eq_getD_getElem?, h1]
  simp only [Region.wanted, hg, hy]
  cases b <;> cases want <;> rfl
theorem guard_passed {ops : Array Oper} {o : Oper} {j : Nat} {want : Bool} {s : Nat} {env : Env} {a : Act} (hg : o.guard = some (j, want)) (hs : (ops[j]?).bind (·.dst) = some s) (r : EnvRep G env a.tmps) (hv : get env s = some (.tup [])) :
    Region.wanted o (yielded ops a.tmps) = false := by
  obtain ⟨x, h1, h2⟩ := r s _ hv
  simp only [Rep] at h2
  obtain ⟨vs, rfl, h3⟩ := h2
  have hy : yielded ops a.tmps j = none := by
    unfold yielded
    simp only [hs]
    simp [Array.getD_eq_getD_getElem?, h1]
  simp only [Region.wanted, hg, hy]
  rfl
theorem denIx_ok (ops : Array Oper) (Q : Exit → Act → World → Prop) : ∀ (l : List Nat) (env : Env) (h : AHeap) (G : Gh) (w : World) (a : Act) (K : Env → AHeap → Prop), Sim G h w → a.tmps.size = n → EnvRep G env a.tmps → denIx P n ops l env h K →
    (∀ a' w', OpsPost G h w n a.defers K a' w' → Q .normal a' w') → wpOps P ops Q l a w
  | [], env, h, G, w, a, K, s, hn, r, k, hq => hq a w ⟨env, h, G, k, s, Evo.refl _ _ _, r, hn, rfl⟩
  | i :: rest, env, h, G, w, a, K, s, hn, r, k, hq => by
    unfold denIx at k
    unfold wpOps
    split at k
    · exact k.elim
    · rename_i o ho
      simp only [ho]
      have go : ∀ {env : Env}, EnvRep G env a.tmps → stepO P n env h o (fun env' h' => denIx P n ops rest env' h' K) → o.wp P a w (wpOps P ops Q rest) Q := fun r k =>
        stepO_ok s hn r k fun a' w' ⟨env', h', G', q1, q2, q3, q4, q5, q6⟩ =>
          denIx_ok ops Q rest env' h' G' w' a' K q2 q5 q4 q1 fun a2 w2 ⟨env2, h2, G2, p1, p2, p3, p4, p5, p6⟩ => hq a2 w2 ⟨env2, h2, G2, p1, p2, q3.trans p3, p4, p5, p6.trans q6⟩
      have skip : ∀ {env : Env}, EnvRep G env a.tmps → dstOk n o.dst = true → denIx P n ops rest (putD env o.dst (.tup [])) h K → wpOps P ops Q rest (a.put o.dst undef) w := fun r hd k =>
        denIx_ok ops Q rest _ h G w _ K s (by rw [put_size, hn]) (r.putD (by rw [hn]; exact hd) (by simp [Rep, RepL, undef])) k fun a2 w2 p => hq a2 w2 (by rwa [put_defers] at p)
      split at k
      · rename_i hg
        have : Region.wanted o (yielded ops a.tmps) = true := by simp [Region.wanted, hg]
        rw [if_pos this]
        exact .inl (go r k)
      · rename_i j want hg
        split at k
        · exact k.elim
        · rename_i sl hsl
          obtain ⟨v, hv, k⟩ := withO_ok k
          replace k := ifG_cases k
          rcases k with ⟨rfl, k⟩ | ⟨rfl, k⟩ | ⟨rfl, k⟩
          · have r' := envRep_know r hv
            have hw := guard_wanted hg hsl r hv
            rw [hw]
            cases want
            · simp only [Bool.false_eq_true, if_false] at k
              rw [if_neg (by simp)]
              split at k
              · exact skip r' ‹_› k
              · exact k.elim
            · simp only [if_true] at k
              rw [if_pos (by simp)]
              exact .inl (go r' k)
          · have r' := envRep_know r hv
            have hw := guard_wanted hg hsl r hv
            rw [hw]
            cases want
            · simp only [Bool.false_eq_true, if_false] at k
              rw [if_pos (by simp)]
              exact .inl (go r' k)
            · simp only [if_true] at k
              rw [if_neg (by simp)]
              split at k
              · exact skip r' ‹_› k
              · exact k.elim
          · have r' := envRep_know r hv
            rw [guard_passed hg hsl r hv]
            rw [if_neg (by simp)]
            split at k
            · exact skip r' ‹_› k
            · exact k.elim
theorem awp_region {id : Nat} {ops : Array Oper} {env : Env} {K : Exit → Env → AHeap → Prop} (k : denIx P n ops (List.range ops.size) env h fun env' h' => K .normal env' h') : AWp P n (.region id ops false) env h K :=
  fun G w a s hn r => wp_region (denIx_ok ops _ _ env h G w a _ s hn r k fun a' w' p => p)
theorem awp_cond {c : Operand} {x y : Code} {env : Env} {K : Exit → Env → AHeap → Prop} (k : withO (opv env c) fun v => ifB v (AWp P n x env h K) (AWp P n y env h K)) : AWp P n (.cond c x y) env h K := by
  intro G w a s hn r
  obtain ⟨v, hv, k⟩ := withO_ok k
  have hr := opv_rep r hv
  unfold ifB at k
  split at k
  · simp only [Rep] at hr
    exact wp_cond_true hr.1 (k G w a s hn r)
  · simp only [Rep] at hr
    exact wp_cond_false hr.1 (k G w a s hn r)
  · exact k.elim
def writes : Code → List Nat
  | .region _ ops _ => ops.toList.filterMap (·.dst)
  | .seq a b => writes a ++ writes b
  | .cond _ a b => writes a ++ writes b
  | .block _ b => writes b
  | .loop b => writes b
  | .scope b => writes b
  | .rangeFunc _ _ a b => writes a ++ writes b
  | _ => []
def opSlots (o : Oper) : List Nat := o.op.operands.toList.filterMap fun | .tmp t => some t | _ => none
def dedup : List Nat → List Nat
  | [] => []
  | x :: xs => if xs.contains x then dedup xs else x :: dedup xs
def getL (env : Env) : List Nat → Option (List AV)
  | [] => some []
  | s :: l => match get env s, getL env l with
    | some v, some vs => some (v :: vs)
    | _, _ => none
def dropE (ws : List Nat) (env : Env) : Env := env.filter fun p => !ws.contains p.1
theorem get_filter {ws : List Nat} : ∀ {env : Env} {s : Nat} {a : AV}, get (dropE ws env) s = some a → get env s = some a
  | [], s, a, e => by simp [dropE, get] at e
  | (k, v) :: env, s, a, e => by
    simp only [dropE, List.filter_cons] at e
    split at e
    · simp only [get] at e ⊢
      split
      · rename_i hk; rw [if_pos hk] at e; exact e
      · rename_i hk; rw [if_neg hk] at e; exact get_filter e
    · rename_i hc
      have ih := get_filter (ws := ws) (env := env) (s := s) (a := a) e
      simp only [get]
      split
      · rename_i hk
        subst hk
        exfalso
        have : ∀ env : Env, get (dropE ws env) k = none := fun env => by
          induction env with
          | nil => simp [dropE, get]
          | cons p env ih =>
            simp only [dropE, List.filter_cons]
            split
            · rename_i hp
              simp only [get]
              rw [if_neg (fun e => by subst e; exact hc hp)]
              exact ih
            · exact ih
        rw [show env.filter _ = dropE ws env from rfl, this] at e
        cases e
      · exact ih
def nthA (vs : List AV) (i : Nat) : AV := (vs[i]?).getD default
def headE (vs : List AV) : Nat → List Nat → Env
  | _, [] => []
  | i, k :: ks => (k, nthA vs i) :: headE vs (i + 1) ks
structure Loop (vs : List AV) (h : AHeap) (B : List AV → AHeap → (NT) → Prop) : Prop where
  mk :: (out : ∃ J : Nat → NT, (∃ k, J k vs h) ∧ ∀ k vs h, J k vs h → B vs h fun vs' h' => ∃ m, m < k ∧ J m vs' h')
def ALoop (ws ks : List Nat) (body : Env → AHeap → (Exit → Env → AHeap → Prop) → Prop) (env : Env) (h : AHeap) (K : Exit → Env → AHeap → Prop) : Prop :=
  withL (getL env ks) fun vs0 => Loop vs0 h fun vs h next => body (headE vs 0 ks ++ dropE ws env) h fun e env' h' => match e with
    | .normal => withL (getL env' ks) fun vs' => next vs' h'
    | e => K e env' h'
abbrev Plan := List (Nat × List Nat × List Nat)
def firstId : Code → Nat
  | .region id _ _ => id + 1
  | .seq a b => match firstId a with | 0 => firstId b | k => k
  | .cond _ a b => match firstId a with | 0 => firstId b | k => k
  | .block _ b => firstId b
  | .loop b => firstId b
  | .scope b => firstId b
  | _ => 0
def planAt : Plan → Nat → Option (List Nat × List Nat)
  | [], _ => none
  | (k, p) :: r, i => if k = i then some p else planAt r i
def planOk (c : Code) (ws ks : List Nat) : Bool := ((writes c).all ws.contains && ws.all (writes c).contains) && ks.all ws.contains
theorem planOk_spec {c : Code} {ws ks : List Nat} (h : planOk c ws ks = true) : (∀ s, s ∈ writes c → s ∈ ws) ∧ (∀ s, s ∈ ws → s ∈ writes c) ∧ ∀ s, s ∈ ks → s ∈ ws := by
  simp only [planOk, Bool.and_eq_true, List.all_eq_true] at h
  exact ⟨fun s hs => by simpa using h.1.1 s hs, fun s hs => by simpa using h.1.2 s hs, fun s hs => by simpa using h.2 s hs⟩
end
end
section
variable [Tabs]
section
variable {P : Program}
theorem pBin_val {K : AV → Prop} (op : BinOp) (x y : AV) (k : pBin op x y K) : ∃ v, K v ∧ pBin op x y fun r => r = v := by
  unfold pBin at *
  (repeat' split at k) <;> first | exact k.elim | exact ⟨_, k, rfl⟩ | exact ⟨_, k.2, k.1, rfl⟩ | exact ⟨_, k.2.2, k.1, k.2.1, rfl⟩ | (refine ⟨_, k, ?_⟩; simp_all; done) | (refine ⟨_, k.2, ?_⟩; simp_all; done) | (refine ⟨_, k.2.2, ?_⟩; simp_all; done)
theorem pBinB_val {K : AV → Prop} (op : BinOp) (x y : AV) (k : pBinB op x y K) : ∃ v, K v ∧ pBinB op x y fun r => r = v := by
  unfold pBinB at *
  (repeat' split at k) <;> first | exact k.elim | exact ⟨_, k, rfl⟩ | exact ⟨_, k.2, k.1, rfl⟩ | exact ⟨_, k.2.2, k.1, k.2.1, rfl⟩ | (refine ⟨_, k, ?_⟩; simp_all; done) | (refine ⟨_, k.2, ?_⟩; simp_all; done) | (refine ⟨_, k.2.2, ?_⟩; simp_all; done)
theorem pBinP_val {K : AV → Prop} (op : BinOp) (x y : AV) (k : pBinP op x y K) : ∃ v, K v ∧ pBinP op x y fun r => r = v := by
  unfold pBinP at *
  (repeat' split at k) <;> first | exact k.elim | exact ⟨_, k, rfl⟩ | exact ⟨_, k.2, k.1, rfl⟩ | exact ⟨_, k.2.2, k.1, k.2.1, rfl⟩ | (refine ⟨_, k, ?_⟩; simp_all; done) | (refine ⟨_, k.2, ?_⟩; simp_all; done) | (refine ⟨_, k.2.2, ?_⟩; simp_all; done)
theorem pUn_val {K : AV → Prop} (op : UnOp) (x : AV) (k : pUn op x K) : ∃ v, K v ∧ pUn op x fun r => r = v := by
  unfold pUn at *
  (repeat' split at k) <;> first | exact k.elim | exact ⟨_, k, rfl⟩ | exact ⟨_, k.2, k.1, rfl⟩ | exact ⟨_, k.2.2, k.1, k.2.1, rfl⟩ | (refine ⟨_, k, ?_⟩; simp_all; done) | (refine ⟨_, k.2, ?_⟩; simp_all; done) | (refine ⟨_, k.2.2, ?_⟩; simp_all; done)
theorem pConvII_val {K : AV → Prop} (d : IntKind) (x : AV) (k : pConvII d x K) : ∃ v, K v ∧ pConvII d x fun r => r = v := by
  unfold pConvII at *
  (repeat' split at k) <;> first | exact k.elim | exact ⟨_, k, rfl⟩ | exact ⟨_, k.2, k.1, rfl⟩ | exact ⟨_, k.2.2, k.1, k.2.1, rfl⟩ | (refine ⟨_, k, ?_⟩; simp_all; done) | (refine ⟨_, k.2, ?_⟩; simp_all; done) | (refine ⟨_, k.2.2, ?_⟩; simp_all; done)
theorem pConvIF_val {K : AV → Prop} (d : FloatKind) (x : AV) (k : pConvIF d x K) : ∃ v, K v ∧ pConvIF d x fun r => r = v := by
  unfold pConvIF at *
  (repeat' split at k) <;> first | exact k.elim | exact ⟨_, k, rfl⟩ | exact ⟨_, k.2, k.1, rfl⟩ | exact ⟨_, k.2.2, k.1, k.2.1, rfl⟩ | (refine ⟨_, k, ?_⟩; simp_all; done) | (refine ⟨_, k.2, ?_⟩; simp_all; done) | (refine ⟨_, k.2.2, ?_⟩; simp_all; done)
theorem pConvSS_val {K : AV → Prop} (x : AV) (k : pConvSS x K) : ∃ v, K v ∧ pConvSS x fun r => r = v := by
  unfold pConvSS at *
  (repeat' split at k) <;> first | exact k.elim | exact ⟨_, k, rfl⟩ | exact ⟨_, k.2, k.1, rfl⟩ | exact ⟨_, k.2.2, k.1, k.2.1, rfl⟩ | (refine ⟨_, k, ?_⟩; simp_all; done) | (refine ⟨_, k.2, ?_⟩; simp_all; done) | (refine ⟨_, k.2.2, ?_⟩; simp_all; done)
theorem pNil_val {K : AV → Prop} (x : AV) (k : pNil x K) : ∃ v, K v ∧ pNil x fun r => r = v := by
  unfold pNil at *
  (repeat' split at k) <;> first | exact k.elim | exact ⟨_, k, rfl⟩ | exact ⟨_, k.2, k.1, rfl⟩ | exact ⟨_, k.2.2, k.1, k.2.1, rfl⟩ | (refine ⟨_, k, ?_⟩; simp_all; done) | (refine ⟨_, k.2, ?_⟩; simp_all; done) | (refine ⟨_, k.2.2, ?_⟩; simp_all; done)
theorem pFieldAddr_val {K : AV → Prop} (n : Nat) (x : AV) (k : pFieldAddr n x K) : ∃ v, K v ∧ pFieldAddr n x fun r => r = v := by
  unfold pFieldAddr at *
  (repeat' split at k) <;> first | exact k.elim | exact ⟨_, k, rfl⟩ | exact ⟨_, k.2, k.1, rfl⟩ | exact ⟨_, k.2.2, k.1, k.2.1, rfl⟩ | (refine ⟨_, k, ?_⟩; simp_all; done) | (refine ⟨_, k.2, ?_⟩; simp_all; done) | (refine ⟨_, k.2.2, ?_⟩; simp_all; done)
theorem pLoadA_val {K : AV → Prop} (n : Nat) (x : AV) (h : AHeap) (k : pLoadA n x h K) : ∃ v, K v ∧ pLoadA n x h fun r => r = v := by
  unfold pLoadA at *
  (repeat' split at k) <;> first | exact k.elim | exact ⟨_, k, rfl⟩ | exact ⟨_, k.2, k.1, rfl⟩ | exact ⟨_, k.2.2, k.1, k.2.1, rfl⟩ | (refine ⟨_, k, ?_⟩; simp_all; done) | (refine ⟨_, k.2, ?_⟩; simp_all; done) | (refine ⟨_, k.2.2, ?_⟩; simp_all; done)
theorem pLoad1_val {K : AV → Prop} (x : AV) (h : AHeap) (k : pLoad1 x h K) : ∃ v, K v ∧ pLoad1 x h fun r => r = v := by
  unfold pLoad1 at *
  (repeat' split at k) <;> first | exact k.elim | exact ⟨_, k, rfl⟩ | exact ⟨_, k.2, k.1, rfl⟩ | exact ⟨_, k.2.2, k.1, k.2.1, rfl⟩ | (refine ⟨_, k, ?_⟩; simp_all; done) | (refine ⟨_, k.2, ?_⟩; simp_all; done) | (refine ⟨_, k.2.2, ?_⟩; simp_all; done)
theorem pPartA_val {K : AV → Prop} (o n : Nat) (x : AV) (k : pPartA o n x K) : ∃ v, K v ∧ pPartA o n x fun r => r = v := by
  unfold pPartA at *
  (repeat' split at k) <;> first | exact k.elim | exact ⟨_, k, rfl⟩ | exact ⟨_, k.2, k.1, rfl⟩ | exact ⟨_, k.2.2, k.1, k.2.1, rfl⟩ | (refine ⟨_, k, ?_⟩; simp_all; done) | (refine ⟨_, k.2, ?_⟩; simp_all; done) | (refine ⟨_, k.2.2, ?_⟩; simp_all; done)
theorem pPart1_val {K : AV → Prop} (o : Nat) (x : AV) (k : pPart1 o x K) : ∃ v, K v ∧ pPart1 o x fun r => r = v := by
  unfold pPart1 at *
  (repeat' split at k) <;> first | exact k.elim | exact ⟨_, k, rfl⟩ | exact ⟨_, k.2, k.1, rfl⟩ | exact ⟨_, k.2.2, k.1, k.2.1, rfl⟩ | (refine ⟨_, k, ?_⟩; simp_all; done) | (refine ⟨_, k.2, ?_⟩; simp_all; done) | (refine ⟨_, k.2.2, ?_⟩; simp_all; done)
theorem pIndexS_val {K : AV → Prop} (x i : AV) (k : pIndexS x i K) : ∃ v, K v ∧ pIndexS x i fun r => r = v := by
  unfold pIndexS at *
  (repeat' split at k) <;> first | exact k.elim | exact ⟨_, k, rfl⟩ | exact ⟨_, k.2, k.1, rfl⟩ | exact ⟨_, k.2.2, k.1, k.2.1, rfl⟩ | (refine ⟨_, k, ?_⟩; simp_all; done) | (refine ⟨_, k.2, ?_⟩; simp_all; done) | (refine ⟨_, k.2.2, ?_⟩; simp_all; done)
theorem pIndexAddr_val {K : AV → Prop} (n : Nat) (x i : AV) (k : pIndexAddr n x i K) : ∃ v, K v ∧ pIndexAddr n x i fun r => r = v := by
  unfold pIndexAddr at *
  (repeat' split at k) <;> first | exact k.elim | exact ⟨_, k, rfl⟩ | exact ⟨_, k.2, k.1, rfl⟩ | exact ⟨_, k.2.2, k.1, k.2.1, rfl⟩ | (refine ⟨_, k, ?_⟩; simp_all; done) | (refine ⟨_, k.2, ?_⟩; simp_all; done) | (refine ⟨_, k.2.2, ?_⟩; simp_all; done)
theorem pIndexAddrA_val {K : AV → Prop} (m n : Nat) (x i : AV) (k : pIndexAddrA m n x i K) : ∃ v, K v ∧ pIndexAddrA m n x i fun r => r = v := by
  unfold pIndexAddrA at *
  (repeat' split at k) <;> first | exact k.elim | exact ⟨_, k, rfl⟩ | exact ⟨_, k.2, k.1, rfl⟩ | exact ⟨_, k.2.2, k.1, k.2.1, rfl⟩ | (refine ⟨_, k, ?_⟩; simp_all; done) | (refine ⟨_, k.2, ?_⟩; simp_all; done) | (refine ⟨_, k.2.2, ?_⟩; simp_all; done)
theorem pSliceS_val {K : AV → Prop} (x : AV) (a b : Option AV) (k : pSliceS x a b K) : ∃ v, K v ∧ pSliceS x a b fun r => r = v := by
  unfold pSliceS at *
  (repeat' split at k) <;> first | exact k.elim | exact ⟨_, k, rfl⟩ | exact ⟨_, k.2, k.1, rfl⟩ | exact ⟨_, k.2.2, k.1, k.2.1, rfl⟩ | (refine ⟨_, k, ?_⟩; simp_all; done) | (refine ⟨_, k.2, ?_⟩; simp_all; done) | (refine ⟨_, k.2.2, ?_⟩; simp_all; done)
theorem pSliceL_val {K : AV → Prop} (n : Nat) (x : AV) (a b : Option AV) (k : pSliceL n x a b K) : ∃ v, K v ∧ pSliceL n x a b fun r => r = v := by
  unfold pSliceL at *
  (repeat' split at k) <;> first | exact k.elim | exact ⟨_, k, rfl⟩ | exact ⟨_, k.2, k.1, rfl⟩ | exact ⟨_, k.2.2, k.1, k.2.1, rfl⟩ | (refine ⟨_, k, ?_⟩; simp_all; done) | (refine ⟨_, k.2, ?_⟩; simp_all; done) | (refine ⟨_, k.2.2, ?_⟩; simp_all; done)
theorem pSliceZ_val {K : AV → Prop} (x : AV) (k : pSliceZ x K) : ∃ v, K v ∧ pSliceZ x fun r => r = v := by
  unfold pSliceZ at *
  (repeat' split at k) <;> first | exact k.elim | exact ⟨_, k, rfl⟩ | exact ⟨_, k.2, k.1, rfl⟩ | exact ⟨_, k.2.2, k.1, k.2.1, rfl⟩ | (refine ⟨_, k, ?_⟩; simp_all; done) | (refine ⟨_, k.2, ?_⟩; simp_all; done) | (refine ⟨_, k.2.2, ?_⟩; simp_all; done)
theorem pLenS_val {K : AV → Prop} (x : AV) (k : pLenS x K) : ∃ v, K v ∧ pLenS x fun r => r = v := by
  unfold pLenS at *
  (repeat' split at k) <;> first | exact k.elim | exact ⟨_, k, rfl⟩ | exact ⟨_, k.2, k.1, rfl⟩ | exact ⟨_, k.2.2, k.1, k.2.1, rfl⟩ | (refine ⟨_, k, ?_⟩; simp_all; done) | (refine ⟨_, k.2, ?_⟩; simp_all; done) | (refine ⟨_, k.2.2, ?_⟩; simp_all; done)
theorem pLenL_val {K : AV → Prop} (x : AV) (k : pLenL x K) : ∃ v, K v ∧ pLenL x fun r => r = v := by
  unfold pLenL at *
  (repeat' split at k) <;> first | exact k.elim | exact ⟨_, k, rfl⟩ | exact ⟨_, k.2, k.1, rfl⟩ | exact ⟨_, k.2.2, k.1, k.2.1, rfl⟩ | (refine ⟨_, k, ?_⟩; simp_all; done) | (refine ⟨_, k.2, ?_⟩; simp_all; done) | (refine ⟨_, k.2.2, ?_⟩; simp_all; done)
theorem pLenM_val {K : AV → Prop} (x : AV) (h : AHeap) (k : pLenM x h K) : ∃ v, K v ∧ pLenM x h fun r => r = v := by
  unfold pLenM at *
  (repeat' split at k) <;> first | exact k.elim | exact ⟨_, k, rfl⟩ | exact ⟨_, k.2, k.1, rfl⟩ | exact ⟨_, k.2.2, k.1, k.2.1, rfl⟩ | (refine ⟨_, k, ?_⟩; simp_all; done) | (refine ⟨_, k.2, ?_⟩; simp_all; done) | (refine ⟨_, k.2.2, ?_⟩; simp_all; done)
theorem pExtract_val {K : AV → Prop} (i : Nat) (x : AV) (k : pExtract i x K) : ∃ v, K v ∧ pExtract i x fun r => r = v := by
  unfold pExtract at *
  (repeat' split at k) <;> first | exact k.elim | exact ⟨_, k, rfl⟩ | exact ⟨_, k.2, k.1, rfl⟩ | exact ⟨_, k.2.2, k.1, k.2.1, rfl⟩ | (refine ⟨_, k, ?_⟩; simp_all; done) | (refine ⟨_, k.2, ?_⟩; simp_all; done) | (refine ⟨_, k.2.2, ?_⟩; simp_all; done)
theorem pMax_val {K : AV → Prop} (x y : AV) (k : pMax x y K) : ∃ v, K v ∧ pMax x y fun r => r = v := by
  unfold pMax at *
  split at k
  · exact ⟨_, k, rfl⟩
  · exact k.elim
theorem pMin_val {K : AV → Prop} (x y : AV) (k : pMin x y K) : ∃ v, K v ∧ pMin x y fun r => r = v := by
  unfold pMin at *
  split at k
  · exact ⟨_, k, rfl⟩
  · exact k.elim
theorem pBuild_val {K : AV → Prop} (z : List AV) (ps : List (Nat × Nat × AV)) (k : pBuild z ps K) : ∃ v, K v ∧ pBuild z ps fun r => r = v := by
  unfold pBuild at *
  (repeat' split at k) <;> first | exact k.elim | exact ⟨_, k, rfl⟩ | exact ⟨_, k.2, k.1, rfl⟩ | exact ⟨_, k.2.2, k.1, k.2.1, rfl⟩ | (refine ⟨_, k, ?_⟩; simp_all; done) | (refine ⟨_, k.2, ?_⟩; simp_all; done) | (refine ⟨_, k.2.2, ?_⟩; simp_all; done)
theorem pIface_val {K : AV → Prop} (t : TypeId) (x : AV) (k : pIface t x K) : ∃ v, K v ∧ pIface t x fun r => r = v := ⟨_, k, rfl⟩
theorem pBuildSlice_val {K : AV → Prop} (n m : Nat) (vs : List AV) (k : pBuildSlice n m vs K) : ∃ v, K v ∧ pBuildSlice n m vs fun r => r = v := ⟨_, k.2, k.1, rfl⟩
theorem qBin_val {K : AV → Prop} (op : BinOp) (x y : AV) (k : qBin op x y K) : ∃ v, K v ∧ qBin op x y fun r => r = v := let ⟨v, h1, h2⟩ := pBin_val op x y k.out; ⟨v, h1, ⟨h2⟩⟩
theorem qBinB_val {K : AV → Prop} (op : BinOp) (x y : AV) (k : qBinB op x y K) : ∃ v, K v ∧ qBinB op x y fun r => r = v := let ⟨v, h1, h2⟩ := pBinB_val op x y k.out; ⟨v, h1, ⟨h2⟩⟩
theorem qBinP_val {K : AV → Prop} (op : BinOp) (x y : AV) (k : qBinP op x y K) : ∃ v, K v ∧ qBinP op x y fun r => r = v := let ⟨v, h1, h2⟩ := pBinP_val op x y k.out; ⟨v, h1, ⟨h2⟩⟩
theorem qUn_val {K : AV → Prop} (op : UnOp) (x : AV) (k : qUn op x K) : ∃ v, K v ∧ qUn op x fun r => r = v := let ⟨v, h1, h2⟩ := pUn_val op x k.out; ⟨v, h1, ⟨h2⟩⟩
theorem qConvII_val {K : AV → Prop} (d : IntKind) (x : AV) (k : qConvII d x K) : ∃ v, K v ∧ qConvII d x fun r => r = v := let ⟨v, h1, h2⟩ := pConvII_val d x k.out; ⟨v, h1, ⟨h2⟩⟩
theorem qConvIF_val {K : AV → Prop} (d : FloatKind) (x : AV) (k : qConvIF d x K) : ∃ v, K v ∧ qConvIF d x fun r => r = v := let ⟨v, h1, h2⟩ := pConvIF_val d x k.out; ⟨v, h1, ⟨h2⟩⟩
theorem qConvSS_val {K : AV → Prop} (x : AV) (k : qConvSS x K) : ∃ v, K v ∧ qConvSS x fun r => r = v := let ⟨v, h1, h2⟩ := pConvSS_val x k.out; ⟨v, h1, ⟨h2⟩⟩
theorem qNil_val {K : AV → Prop} (x : AV) (k : qNil x K) : ∃ v, K v ∧ qNil x fun r => r = v := let ⟨v, h1, h2⟩ := pNil_val x k.out; ⟨v, h1, ⟨h2⟩⟩
theorem qFieldAddr_val {K : AV → Prop} (n : Nat) (x : AV) (k : qFieldAddr n x K) : ∃ v, K v ∧ qFieldAddr n x fun r => r = v := let ⟨v, h1, h2⟩ := pFieldAddr_val n x k.out; ⟨v, h1, ⟨h2⟩⟩
theorem qLoadA_val {K : AV → Prop} (n : Nat) (x : AV) (h : AHeap) (k : qLoadA n x h K) : ∃ v, K v ∧ qLoadA n x h fun r => r = v := let ⟨v, h1, h2⟩ := pLoadA_val n x h k.out; ⟨v, h1, ⟨h2⟩⟩
theorem qLoad1_val {K : AV → Prop} (x : AV) (h : AHeap) (k : qLoad1 x h K) : ∃ v, K v ∧ qLoad1 x h fun r => r = v := let ⟨v, h1, h2⟩ := pLoad1_val x h k.out; ⟨v, h1, ⟨h2⟩⟩
theorem qPartA_val {K : AV → Prop} (o n : Nat) (x : AV) (k : qPartA o n x K) : ∃ v, K v ∧ qPartA o n x fun r => r = v := let ⟨v, h1, h2⟩ := pPartA_val o n x k.out; ⟨v, h1, ⟨h2⟩⟩
theorem qPart1_val {K : AV → Prop} (o : Nat) (x : AV) (k : qPart1 o x K) : ∃ v, K v ∧ qPart1 o x fun r => r = v := let ⟨v, h1, h2⟩ := pPart1_val o x k.out; ⟨v, h1, ⟨h2⟩⟩
theorem qIndexS_val {K : AV → Prop} (x i : AV) (k : qIndexS x i K) : ∃ v, K v ∧ qIndexS x i fun r => r = v := let ⟨v, h1, h2⟩ := pIndexS_val x i k.out; ⟨v, h1, ⟨h2⟩⟩
theorem qIndexAddr_val {K : AV → Prop} (n : Nat) (x i : AV) (k : qIndexAddr n x i K) : ∃ v, K v ∧ qIndexAddr n x i fun r => r = v := let ⟨v, h1, h2⟩ := pIndexAddr_val n x i k.out; ⟨v, h1, ⟨h2⟩⟩
theorem qIndexAddrA_val {K : AV → Prop} (m n : Nat) (x i : AV) (k : qIndexAddrA m n x i K) : ∃ v, K v ∧ qIndexAddrA m n x i fun r => r = v := let ⟨v, h1, h2⟩ := pIndexAddrA_val m n x i k.out; ⟨v, h1, ⟨h2⟩⟩
theorem qSliceS_val {K : AV → Prop} (x : AV) (a b : Option AV) (k : qSliceS x a b K) : ∃ v, K v ∧ qSliceS x a b fun r => r = v := let ⟨v, h1, h2⟩ := pSliceS_val x a b k.out; ⟨v, h1, ⟨h2⟩⟩
theorem qSliceL_val {K : AV → Prop} (n : Nat) (x : AV) (a b : Option AV) (k : qSliceL n x a b K) : ∃ v, K v ∧ qSliceL n x a b fun r => r = v := let ⟨v, h1, h2⟩ := pSliceL_val n x a b k.out; ⟨v, h1, ⟨h2⟩⟩
theorem qSliceZ_val {K : AV → Prop} (x : AV) (k : qSliceZ x K) : ∃ v, K v ∧ qSliceZ x fun r => r = v := let ⟨v, h1, h2⟩ := pSliceZ_val x k.out; ⟨v, h1, ⟨h2⟩⟩
theorem qLenS_val {K : AV → Prop} (x : AV) (k : qLenS x K) : ∃ v, K v ∧ qLenS x fun r => r = v := let ⟨v, h1, h2⟩ := pLenS_val x k.out; ⟨v, h1, ⟨h2⟩⟩
theorem qLenL_val {K : AV → Prop} (x : AV) (k : qLenL x K) : ∃ v, K v ∧ qLenL x fun r => r = v := let ⟨v, h1, h2⟩ := pLenL_val x k.out; ⟨v, h1, ⟨h2⟩⟩
theorem qLenM_val {K : AV → Prop} (x : AV) (h : AHeap) (k : qLenM x h K) : ∃ v, K v ∧ qLenM x h fun r => r = v := let ⟨v, h1, h2⟩ := pLenM_val x h k.out; ⟨v, h1, ⟨h2⟩⟩
theorem qExtract_val {K : AV → Prop} (i : Nat) (x : AV) (k : qExtract i x K) : ∃ v, K v ∧ qExtract i x fun r => r = v := let ⟨v, h1, h2⟩ := pExtract_val i x k.out; ⟨v, h1, ⟨h2⟩⟩
theorem qMax_val {K : AV → Prop} (x y : AV) (k : qMax x y K) : ∃ v, K v ∧ qMax x y fun r => r = v := let ⟨v, h1, h2⟩ := pMax_val x y k.out; ⟨v, h1, ⟨h2⟩⟩
theorem qMin_val {K : AV → Prop} (x y : AV) (k : qMin x y K) : ∃ v, K v ∧ qMin x y fun r => r = v := let ⟨v, h1, h2⟩ := pMin_val x y k.out; ⟨v, h1, ⟨h2⟩⟩
theorem qBuild_val {K : AV → Prop} (z : List AV) (ps : List (Nat × Nat × AV)) (k : qBuild z ps K) : ∃ v, K v ∧ qBuild z ps fun r => r = v := let ⟨v, h1, h2⟩ := pBuild_val z ps k.out; ⟨v, h1, ⟨h2⟩⟩
theorem qIface_val {K : AV → Prop} (t : TypeId) (x : AV) (k : qIface t x K) : ∃ v, K v ∧ qIface t x fun r => r = v := let ⟨v, h1, h2⟩ := pIface_val t x k.out; ⟨v, h1, ⟨h2⟩⟩
theorem qBuildSlice_val {K : AV → Prop} (n m : Nat) (vs : List AV) (k : qBuildSlice n m vs K) : ∃ v, K v ∧ qBuildSlice n m vs fun r => r = v := let ⟨v, h1, h2⟩ := pBuildSlice_val n m vs k.out; ⟨v, h1, ⟨h2⟩⟩
end
end
end Go.Proofs.YtiddcelpooenfaaGreatDoor.AL
