import Derived.Test.YtmocchnodigmlaaGreatDoorAL13v
set_option linter.all false
set_option autoImplicit true
set_option relaxedAutoImplicit true
set_option linter.unusedVariables false
set_option linter.unusedSimpArgs false
/-! Operations that change nothing: their value; what they look at. -/
namespace Go.Proofs.YtmocchnodigmlaaGreatDoor.AL
variable [Tabs]
section
variable {P : Program}

/-- An operation that changes nothing. -/
def qOp1 : Op → Bool
  | .move _ | .assign _ | .pick .. | .build .. | .buildSlice .. | .load .. | .nilCheck _ | .binOp .. | .unOp .. | .convert .. | .makeInterface .. | .makeFunc .. | .slice .. | .fieldAddr .. | .field .. | .indexAddr .. | .index .. | .extract .. => true
  | .call c => match c.callee with
    | .builtin .len => true
    | .builtin .max => true
    | .builtin .min => true
    | _ => false
  | _ => false
/-- One whose value hangs on the memory. -/
def hOp1 (P : Program) : Op → Bool
  | .load .. => true
  | .call c => match c.callee, c.argTypes.toList with
    | .builtin .len, [t] => match P.underlying t with | some (.map _ _) => true | _ => false
    | _, _ => false
  | _ => false

theorem withO_val {K : AV → Prop} {o : Option AV} (k : withO o K) : ∃ v, o = some v ∧ K v := withO_ok k
theorem withO_of {K : AV → Prop} {o : Option AV} {v : AV} (h : o = some v) (k : K v) : withO o K := by subst h; exact k
theorem withL_of {K : List AV → Prop} {o : Option (List AV)} {v : List AV} (h : o = some v) (k : K v) : withL o K := by subst h; exact k
theorem withP_of {K : Option AV → Prop} {o : Option (Option AV)} {v : Option AV} (h : o = some v) (k : K v) : withP o K := by subst h; exact k

theorem aop1_val {env : Env} {h : AHeap} {o : Oper} {K : AV → AHeap → Prop} (hq : qOp1 o.op = true) (k : aop1 P env h o K) : ∃ v, K v h ∧ aop1 P env h o fun r h' => r = v ∧ h' = h := by
  obtain ⟨dst, op, ty, pos, after, guard⟩ := o
  have up : ∀ {v : AV} (r : AV), r = v → r = v ∧ True := fun r e => ⟨e, trivial⟩
  cases op <;> simp only [aop1, qOp1, Bool.false_eq_true] at k hq ⊢
  case move => obtain ⟨v, e, k⟩ := withO_ok k; exact ⟨v, k, withO_of e ⟨rfl, trivial⟩⟩
  case assign => obtain ⟨v, e, k⟩ := withO_ok k; exact ⟨v, k, withO_of e ⟨rfl, trivial⟩⟩
  case pick =>
    obtain ⟨c, e, k⟩ := withO_ok k
    obtain ⟨x, e1, k⟩ := withO_ok k
    obtain ⟨y, e2, k⟩ := withO_ok k
    have : ∀ {X : Prop}, X → True := fun _ => trivial
    unfold ifB at k
    split at k
    · exact ⟨x, k, withO_of e (withO_of e1 (withO_of e2 ⟨rfl, trivial⟩))⟩
    · exact ⟨y, k, withO_of e (withO_of e1 (withO_of e2 ⟨rfl, trivial⟩))⟩
    · exact k.elim
  case build =>
    obtain ⟨vs, e, k⟩ := withL_ok k
    unfold aBuild at k
    (repeat' split at k) <;> first
      | exact k.elim
      | (obtain ⟨v, k1, k2⟩ := qBuild_val _ _ k
         refine ⟨v, k1, withL_of e ?_⟩
         simp only [aBuild, *, if_true]
         exact qBuild_mono up _ _ k2)
  case buildSlice =>
    obtain ⟨vs, e, k⟩ := withL_ok k
    unfold aBuildSlice at k
    (repeat' split at k) <;> first
      | exact k.elim
      | (obtain ⟨v, k1, k2⟩ := qBuildSlice_val _ _ _ k
         refine ⟨v, k1, withL_of e ?_⟩
         simp only [aBuildSlice, *]
         rw [if_pos (by assumption)]
         exact qBuildSlice_mono up _ _ _ k2)
  case load =>
    obtain ⟨x, e, k⟩ := withO_ok k
    unfold aLoad at k
    (repeat' split at k) <;> first
      | exact k.elim
      | (obtain ⟨v, k1, k2⟩ := qLoadA_val _ _ _ k
         refine ⟨v, k1, withO_of e ?_⟩
         simp only [aLoad, *, if_true]
         exact qLoadA_mono up _ _ _ k2)
      | (obtain ⟨v, k1, k2⟩ := qLoad1_val _ _ k
         refine ⟨v, k1, withO_of e ?_⟩
         simp only [aLoad, *, ↓reduceIte, Bool.false_eq_true]
         exact qLoad1_mono up _ _ k2)
  case nilCheck =>
    obtain ⟨x, e, k⟩ := withO_ok k
    obtain ⟨v, k1, k2⟩ := qNil_val _ k
    exact ⟨v, k1, withO_of e (qNil_mono up _ k2)⟩
  case binOp =>
    obtain ⟨x, e, k⟩ := withO_ok k
    obtain ⟨y, e1, k⟩ := withO_ok k
    unfold aBin at k
    (repeat' split at k) <;> first
      | exact k.elim
      | (obtain ⟨v, k1, k2⟩ := qBin_val _ _ _ k
         refine ⟨v, k1, withO_of e (withO_of e1 ?_)⟩
         simp only [aBin, *]
         exact qBin_mono up _ _ _ k2)
      | (obtain ⟨v, k1, k2⟩ := qBinB_val _ _ _ k
         refine ⟨v, k1, withO_of e (withO_of e1 ?_)⟩
         simp only [aBin, *]
         exact qBinB_mono up _ _ _ k2)
      | (obtain ⟨v, k1, k2⟩ := qBinP_val _ _ _ k
         refine ⟨v, k1, withO_of e (withO_of e1 ?_)⟩
         simp only [aBin, *]
         exact qBinP_mono up _ _ _ k2)
  case unOp =>
    obtain ⟨x, e, k⟩ := withO_ok k
    obtain ⟨v, k1, k2⟩ := qUn_val _ _ k
    exact ⟨v, k1, withO_of e (qUn_mono up _ _ k2)⟩
  case convert =>
    obtain ⟨x, e, k⟩ := withO_ok k
    unfold aConv at k
    (repeat' split at k) <;> first
      | exact k.elim
      | (obtain ⟨v, k1, k2⟩ := qConvII_val _ _ k
         refine ⟨v, k1, withO_of e ?_⟩
         simp only [aConv, *]
         exact qConvII_mono up _ _ k2)
      | (obtain ⟨v, k1, k2⟩ := qConvIF_val _ _ k
         refine ⟨v, k1, withO_of e ?_⟩
         simp only [aConv, *]
         exact qConvIF_mono up _ _ k2)
      | (obtain ⟨v, k1, k2⟩ := qConvSS_val _ k
         refine ⟨v, k1, withO_of e ?_⟩
         simp only [aConv, *]
         exact qConvSS_mono up _ k2)
  case makeInterface =>
    obtain ⟨x, e, k⟩ := withO_ok k
    unfold aIface at k
    (repeat' split at k) <;> first
      | exact k.elim
      | (rename_i hn ht
         obtain ⟨v, k1, k2⟩ := qIface_val _ _ k
         refine ⟨v, k1, withO_of e ?_⟩
         unfold aIface
         split
         · rename_i he; rw [ht] at he; cases he; exact (hn _ rfl).elim
         · exact qIface_mono up _ _ k2
         · rename_i he; rw [ht] at he; cases he)
  case makeFunc =>
    obtain ⟨x, e, k⟩ := withL_ok k
    obtain ⟨y, e1, k⟩ := withL_ok k
    exact ⟨_, k, withL_of e (withL_of e1 ⟨rfl, trivial⟩)⟩
  case slice =>
    obtain ⟨x, e, k⟩ := withO_ok k
    obtain ⟨l, e1, k⟩ := withP_ok k
    obtain ⟨u, e2, k⟩ := withP_ok k
    obtain ⟨m, e3, k⟩ := withP_ok k
    unfold aSlice at k
    (repeat' split at k) <;> first
      | exact k.elim
      | (obtain ⟨v, k1, k2⟩ := qSliceS_val _ _ _ k
         refine ⟨v, k1, withO_of e (withP_of e1 (withP_of e2 (withP_of e3 ?_)))⟩
         simp only [aSlice, *]
         exact qSliceS_mono up _ _ _ k2)
      | (obtain ⟨v, k1, k2⟩ := qSliceL_val _ _ _ _ k
         refine ⟨v, k1, withO_of e (withP_of e1 (withP_of e2 (withP_of e3 ?_)))⟩
         simp only [aSlice, *]
         exact qSliceL_mono up _ _ _ _ k2)
      | (obtain ⟨v, k1, k2⟩ := qSliceZ_val _ k
         refine ⟨v, k1, withO_of e (withP_of e1 (withP_of e2 (withP_of e3 ?_)))⟩
         simp only [aSlice, *]
         exact qSliceZ_mono up _ k2)
  case fieldAddr =>
    obtain ⟨x, e, k⟩ := withO_ok k
    unfold aFieldAddr at k
    (repeat' split at k) <;> first
      | exact k.elim
      | (obtain ⟨v, k1, k2⟩ := qFieldAddr_val _ _ k
         refine ⟨v, k1, withO_of e ?_⟩
         simp only [aFieldAddr, *, ↓reduceIte]
         exact qFieldAddr_mono up _ _ k2)
  case field =>
    obtain ⟨x, e, k⟩ := withO_ok k
    unfold aField aPart at k
    (repeat' split at k) <;> first
      | exact k.elim
      | (obtain ⟨v, k1, k2⟩ := qPartA_val _ _ _ k
         refine ⟨v, k1, withO_of e ?_⟩
         simp only [aField, aPart, *, if_true]
         exact qPartA_mono up _ _ _ k2)
      | (obtain ⟨v, k1, k2⟩ := qPart1_val _ _ k
         refine ⟨v, k1, withO_of e ?_⟩
         simp only [aField, aPart, *, ↓reduceIte, Bool.false_eq_true]
         exact qPart1_mono up _ _ k2)
  case indexAddr =>
    obtain ⟨x, e, k⟩ := withO_ok k
    obtain ⟨y, e1, k⟩ := withO_ok k
    unfold aIndexAddr at k
    (repeat' split at k) <;> first
      | exact k.elim
      | (obtain ⟨v, k1, k2⟩ := qIndexAddr_val _ _ _ k
         refine ⟨v, k1, withO_of e (withO_of e1 ?_)⟩
         simp only [aIndexAddr, *]
         exact qIndexAddr_mono up _ _ _ k2)
      | (obtain ⟨v, k1, k2⟩ := qIndexAddrA_val _ _ _ _ k
         refine ⟨v, k1, withO_of e (withO_of e1 ?_)⟩
         simp only [aIndexAddr, *]
         exact qIndexAddrA_mono up _ _ _ _ k2)
  case index =>
    obtain ⟨x, e, k⟩ := withO_ok k
    obtain ⟨y, e1, k⟩ := withO_ok k
    unfold aIndex at k
    (repeat' split at k) <;> first
      | exact k.elim
      | (obtain ⟨v, k1, k2⟩ := qIndexS_val _ _ k
         refine ⟨v, k1, withO_of e (withO_of e1 ?_)⟩
         simp only [aIndex, *]
         exact qIndexS_mono up _ _ k2)
  case extract =>
    obtain ⟨x, e, k⟩ := withO_ok k
    obtain ⟨v, k1, k2⟩ := qExtract_val _ _ k
    exact ⟨v, k1, withO_of e (qExtract_mono up _ _ k2)⟩
  case call c =>
    obtain ⟨vs, e, k⟩ := withL_ok k
    split at hq
    · rename_i hc
      simp only [hc] at k
      split at k
      · rename_i v t hv
        unfold aLen at k
        (repeat' split at k) <;> first
          | exact k.elim
          | (obtain ⟨v, k1, k2⟩ := qLenS_val _ k
             refine ⟨v, k1, withL_of e ?_⟩
             simp only [hc, aLen, *]
             exact qLenS_mono up _ k2)
          | (obtain ⟨v, k1, k2⟩ := qLenL_val _ k
             refine ⟨v, k1, withL_of e ?_⟩
             simp only [hc, aLen, *]
             exact qLenL_mono up _ k2)
          | (obtain ⟨v, k1, k2⟩ := qLenM_val _ _ k
             refine ⟨v, k1, withL_of e ?_⟩
             simp only [hc, aLen, *]
             exact qLenM_mono up _ _ k2)
      · exact k.elim
    · rename_i hc
      simp only [hc] at k
      split at k
      · obtain ⟨v, k1, k2⟩ := qMax_val _ _ k
        refine ⟨v, k1, withL_of e ?_⟩
        simp only [hc]
        exact qMax_mono up _ _ k2
      · exact k.elim
    · rename_i hc
      simp only [hc] at k
      split at k
      · obtain ⟨v, k1, k2⟩ := qMin_val _ _ k
        refine ⟨v, k1, withL_of e ?_⟩
        simp only [hc]
        exact qMin_mono up _ _ k2
      · exact k.elim
    · exact absurd hq (by simp)

/-- One whose value does not hang on the memory. -/
theorem aop1_free {env : Env} {h h2 : AHeap} {o : Oper} {R : AV → Prop} (hq : qOp1 o.op = true) (hh : hOp1 P o.op = false) (k : aop1 P env h o fun r _ => R r) : aop1 P env h2 o fun r _ => R r := by
  obtain ⟨dst, op, ty, pos, after, guard⟩ := o
  cases op <;> simp only [aop1, qOp1, hOp1, Bool.true_eq_false, Bool.false_eq_true] at k hq hh ⊢ <;> try exact k
  case call c =>
    refine withL_mono (fun vs k => ?_) _ k
    split at hq
    · rename_i hc
      simp only [hc] at k hh ⊢
      split at k
      · rename_i v t hv
        simp only [hv] at hh
        unfold aLen at k ⊢
        split at k <;> rename_i ht
        · exact k
        · exact k
        · simp [ht] at hh
        · exact k
      · exact k
    · rename_i hc
      simp only [hc] at k ⊢
      exact k
    · rename_i hc
      simp only [hc] at k ⊢
      exact k
    · exact absurd hq (by simp)

/-! ### What an operation looks at -/
theorem opv_congr {env env' : Env} {x : Operand} (h : ∀ t, x = .tmp t → get env t = get env' t) : opv env x = opv env' x := by
  cases x <;> simp only [opv]
  exact h _ rfl
theorem opvs_congr {env env' : Env} : ∀ {l : List Operand}, (∀ x ∈ l, opv env x = opv env' x) → opvs env l = opvs env' l
  | [], _ => rfl
  | x :: l, h => by
    simp only [opvs, h x (by simp), opvs_congr fun y hy => h y (List.mem_cons_of_mem _ hy)]
theorem optO_congr {env env' : Env} : ∀ {l : Option Operand}, (∀ x ∈ l, opv env x = opv env' x) → optO env l = optO env' l
  | none, _ => rfl
  | some x, h => by simp only [optO, h x (by simp)]

theorem aop1_congr {env env' : Env} {h : AHeap} {o : Oper} {K : AV → AHeap → Prop} (he : ∀ t ∈ opSlots o, get env t = get env' t) : aop1 P env h o K = aop1 P env' h o K := by
  have ho : ∀ x ∈ o.op.operands, opv env x = opv env' x := fun x hx => opv_congr fun t e => he t (by
    subst e
    exact List.mem_filterMap.2 ⟨.tmp t, by simpa using hx, rfl⟩)
  clear he
  obtain ⟨dst, op, ty, pos, after, guard⟩ := o
  cases op <;> simp only [Op.operands] at ho <;> simp only [aop1]
  case pick c a b => simp only [ho c (by simp), ho a (by simp), ho b (by simp)]
  case build t ps => rw [opvs_congr fun x hx => ho x (by simpa using hx)]
  case buildSlice t n ps => rw [opvs_congr fun x hx => ho x (by simpa using hx)]
  case makeFunc f fi ca => rw [opvs_congr (l := fi.toList) fun x hx => ho x (by simp at hx; simp [hx]), opvs_congr (l := ca.toList) fun x hx => ho x (by simp at hx; simp [hx])]
  case slice t x lo hi mx =>
    rw [ho x (by simp), optO_congr (l := lo) fun y hy => ho y (by simp at hy; simp [hy]), optO_congr (l := hi) fun y hy => ho y (by simp at hy; simp [hy]), optO_congr (l := mx) fun y hy => ho y (by simp at hy; simp [hy])]
  case call c =>
    rw [opvs_congr (l := c.args.toList) fun x hx => ho x (by simp at hx; simp [Call.operands, hx])]
    congr 1
    funext vs
    split
    · rename_i f hc
      rw [ho f (by simp [Call.operands, hc])]
    · rfl
    · rfl
    · rfl
    · rfl
    · rfl
  all_goals (first | rfl | (simp only [ho _ (by simp)]; done) | (simp_all; done))

/-! ### The others -/
def qOpN (P : Program) : Op → Bool
  | .lookup .. => true
  | .entry _ => true
  | .convert s _ _ => match P.underlying s with | some (.slice _) => true | _ => false
  | .binOp _ t _ _ _ => match P.underlying t with | some (.slice _) => false | _ => true
  | _ => false
def hOpN (P : Program) : Op → Bool
  | .lookup .. => true
  | .entry _ => true
  | .convert .. => true
  | _ => false
def qOpB (P : Program) (o : Op) : Bool := if isNew P o = true then qOpN P o else qOp1 o
def hOpB (P : Program) (o : Op) : Bool := if isNew P o = true then hOpN P o else hOp1 P o
def qOp (P : Program) (o : Op) : Bool := if isX P o = true then qOpX o else qOpB P o
def hOp (P : Program) (o : Op) : Bool := if isX P o = true then false else hOpB P o

theorem pLookup_val {d : TypeDesc} {ok : Bool} {z x key : AV} {h : AHeap} {K : AV → Prop} (k : pLookup d ok z x key h K) : ∃ v, K v ∧ pLookup d ok z x key h fun r => r = v := by
  unfold pLookup at *
  split at k
  · split at k
    · split at k
      · rename_i hc; exact ⟨_, k, by rw [if_pos hc]⟩
      · exact k.elim
    · split at k
      · split at k
        · rename_i hc
          split at k
          · rename_i hm; exact ⟨_, k, by rw [if_pos hc]⟩
          · rename_i hm; exact ⟨_, k, by rw [if_pos hc]⟩
        · exact k.elim
      · exact k.elim
    · exact k.elim
  · exact k.elim
theorem pBytesStr_val {x : AV} {h : AHeap} {K : AV → Prop} (k : pBytesStr x h K) : ∃ v, K v ∧ pBytesStr x h fun r => r = v := by
  unfold pBytesStr at *
  split at k
  · rename_i hc
    split at k
    · split at k
      · exact ⟨_, k, by rw [if_pos hc]⟩
      · exact k.elim
    · exact k.elim
  · exact k.elim
theorem pEntry_val {x : AV} {h : AHeap} {K : AV → Prop} (k : pEntry x h K) : ∃ v, K v ∧ pEntry x h fun r => r = v := by
  unfold pEntry at *
  split at k
  · split at k
    · split at k
      · split at k
        · split at k
          · rename_i hc; exact ⟨_, k, by rw [if_pos hc]⟩
          · exact k.elim
        · exact k.elim
      · exact k.elim
    · exact k.elim
  · exact k.elim
theorem nilK_val {op : BinOp} {b : Bool} {K : AV → Prop} (k : nilK op b K) : ∃ v, K v ∧ nilK op b fun r => r = v := by
  unfold nilK at *
  split at k
  · exact ⟨_, k, rfl⟩
  · exact ⟨_, k, rfl⟩
  · exact k.elim
theorem pEqS_val {op : BinOp} {ds : List TypeDesc} {x y : AV} {K : AV → Prop} (k : pEqS op ds x y K) : ∃ v, K v ∧ pEqS op ds x y fun r => r = v := by
  unfold pEqS at *
  split at k
  · split at k
    · exact nilK_val k
    · exact k.elim
  · exact k.elim
theorem pIsNilM_val {op : BinOp} {x : AV} {K : AV → Prop} (k : pIsNilM op x K) : ∃ v, K v ∧ pIsNilM op x fun r => r = v := by
  unfold pIsNilM at *
  split at k <;> first | exact k.elim | exact ⟨_, k, rfl⟩
theorem pIsNilI_val {op : BinOp} {x : AV} {K : AV → Prop} (k : pIsNilI op x K) : ∃ v, K v ∧ pIsNilI op x fun r => r = v := by
  unfold pIsNilI at *
  split at k <;> first | exact k.elim | exact ⟨_, k, rfl⟩
theorem pIsNilF_val {op : BinOp} {x : AV} {K : AV → Prop} (k : pIsNilF op x K) : ∃ v, K v ∧ pIsNilF op x fun r => r = v := by
  unfold pIsNilF at *
  split at k <;> first | exact k.elim | exact ⟨_, k, rfl⟩

theorem aopN_val {env : Env} {h : AHeap} {o : Oper} {K : AV → AHeap → Prop} (hn : isNew P o.op = true) (hq : qOpN P o.op = true) (k : aopN P env h o K) : ∃ v, K v h ∧ aopN P env h o fun r h' => r = v ∧ h' = h := by
  obtain ⟨dst, op, ty, pos, after, guard⟩ := o
  have up : ∀ {v : AV} (r : AV), r = v → r = v ∧ True := fun r e => ⟨e, trivial⟩
  cases op <;> simp only [aopN, qOpN, Bool.false_eq_true] at k hq ⊢
  case lookup =>
    obtain ⟨a, e1, k⟩ := withO_ok k
    obtain ⟨b, e2, k⟩ := withO_ok k
    have k0 := k
    obtain ⟨kt, et, d, i, z, q1, q2, q3, q4, q5, k⟩ := mapT_ok k
    obtain ⟨v, k1, k2⟩ := pLookup_val k.out
    refine ⟨v, k1, withO_of e1 (withO_of e2 ?_)⟩
    unfold mapT
    simp only [q1, q2, q3, q4, q5, if_true]
    exact qLookup_mono up _ _ _ _ _ _ ⟨k2⟩
  case entry x =>
    obtain ⟨a, e1, k⟩ := withO_ok k
    obtain ⟨v, k1, k2⟩ := pEntry_val k.out
    exact ⟨v, k1, withO_of e1 (qEntry_mono up _ _ ⟨k2⟩)⟩
  case convert s d x =>
    obtain ⟨a, e1, k⟩ := withO_ok k
    split at k
    · split at k
      · rename_i hb
        obtain ⟨v, k1, k2⟩ := pBytesStr_val k.out
        refine ⟨v, k1, withO_of e1 ?_⟩
        rw [if_pos hb]
        exact qBytesStr_mono up _ _ ⟨k2⟩
      · exact k.elim
    · rename_i hs _; simp [hs] at hq
    · exact k.elim
  case binOp op t x y yt =>
    split at k
    · obtain ⟨a, e1, k⟩ := withO_ok k
      obtain ⟨b, e2, k⟩ := withO_ok k
      split at k
      · split at k
        · rename_i hc
          obtain ⟨v, k1, k2⟩ := pEqS_val k.out
          refine ⟨v, k1, withO_of e1 (withO_of e2 ?_)⟩
          show (if _ then _ else _)
          rw [if_pos hc]
          exact qEqS_mono up _ _ _ _ ⟨k2⟩
        · exact k.elim
      · exact k.elim
    · obtain ⟨a, e1, k⟩ := withO_ok k
      unfold aNilCmp at *
      split at k
      · rename_i ht _; simp [ht] at hq
      · obtain ⟨v, k1, k2⟩ := pIsNilM_val k.out
        exact ⟨v, k1, withO_of e1 (qIsNilM_mono up _ _ ⟨k2⟩)⟩
      · obtain ⟨v, k1, k2⟩ := pIsNilI_val k.out
        exact ⟨v, k1, withO_of e1 (qIsNilI_mono up _ _ ⟨k2⟩)⟩
      · obtain ⟨v, k1, k2⟩ := pIsNilF_val k.out
        exact ⟨v, k1, withO_of e1 (qIsNilF_mono up _ _ ⟨k2⟩)⟩
      · exact k.elim

theorem aopN_free {env : Env} {h h2 : AHeap} {o : Oper} {R : AV → Prop} (hn : isNew P o.op = true) (hq : qOpN P o.op = true) (hh : hOpN P o.op = false) (k : aopN P env h o fun r _ => R r) : aopN P env h2 o fun r _ => R r := by
  obtain ⟨dst, op, ty, pos, after, guard⟩ := o
  cases op <;> simp only [aopN, qOpN, hOpN, Bool.true_eq_false, Bool.false_eq_true] at k hq hh ⊢ <;> exact k

theorem aopN_congr {env env' : Env} {h : AHeap} {o : Oper} {K : AV → AHeap → Prop} (he : ∀ t ∈ opSlots o, get env t = get env' t) : aopN P env h o K = aopN P env' h o K := by
  have ho : ∀ x ∈ o.op.operands, opv env x = opv env' x := fun x hx => opv_congr fun t e => he t (by
    subst e
    exact List.mem_filterMap.2 ⟨.tmp t, by simpa using hx, rfl⟩)
  clear he
  obtain ⟨dst, op, ty, pos, after, guard⟩ := o
  cases op <;> simp only [Op.operands] at ho <;> simp only [aopN]
  case makeMap t re => cases re <;> rfl
  case mapUpdate t m k v => rw [ho m (by simp), ho k (by simp), ho v (by simp)]
  case insert t m k v => rw [ho m (by simp), ho k (by simp), ho v (by simp)]
  case entryStore t m k v => rw [ho m (by simp), ho k (by simp), ho v (by simp)]
  case binOp op t x y yt => rw [ho x (by simp), ho y (by simp)]
  case call c =>
    split
    · rw [opvs_congr (l := c.args.toList) fun x hx => ho x (by simp at hx; simp [Call.operands, hx])]
    · rfl
  all_goals (first | rfl | (simp only [ho _ (by simp)]; done) | (simp_all; done))

theorem aopB_val {env : Env} {h : AHeap} {o : Oper} {K : AV → AHeap → Prop} (hq : qOpB P o.op = true) (k : aopB P env h o K) : ∃ v, K v h ∧ aopB P env h o fun r h' => r = v ∧ h' = h := by
  unfold aopB qOpB at *
  by_cases hn : isNew P o.op = true
  · rw [if_pos hn] at hq k; simp only [if_pos hn]; exact aopN_val hn hq k
  · rw [if_neg hn] at hq k; simp only [if_neg hn]; exact aop1_val hq k
theorem aopB_free {env : Env} {h h2 : AHeap} {o : Oper} {R : AV → Prop} (hq : qOpB P o.op = true) (hh : hOpB P o.op = false) (k : aopB P env h o fun r _ => R r) : aopB P env h2 o fun r _ => R r := by
  unfold aopB qOpB hOpB at *
  by_cases hn : isNew P o.op = true
  · rw [if_pos hn] at hq hh k ⊢; exact aopN_free hn hq hh k
  · rw [if_neg hn] at hq hh k ⊢; exact aop1_free hq hh k
theorem aopB_congr {env env' : Env} {h : AHeap} {o : Oper} {K : AV → AHeap → Prop} (he : ∀ t ∈ opSlots o, get env t = get env' t) : aopB P env h o K = aopB P env' h o K := by
  unfold aopB
  rw [aopN_congr he, aop1_congr he]
theorem aopX_val {env : Env} {h : AHeap} {o : Oper} {K : AV → AHeap → Prop} (hq : qOpX o.op = true) (k : aopX P env h o K) : ∃ v, K v h ∧ aopX P env h o fun r h' => r = v ∧ h' = h := by
  obtain ⟨dst, op, ty, pos, after, guard⟩ := o
  have up : ∀ {v : AV} (r : AV), r = v → r = v ∧ True := fun r e => ⟨e, trivial⟩
  cases op <;> simp only [aopX] at k ⊢ <;> try exact k.elim
  case call c =>
    simp only [qOpX] at hq
    split at hq
    · rename_i f hc
      simp only [hc] at k ⊢
      obtain ⟨vs, h1, k⟩ := withL_ok k
      rw [h1]
      simp only [withL]
      split at k
      · obtain ⟨v, k1, k2⟩ := pExt_val k.out
        exact ⟨v, k1, ⟨pExt_mono up k2⟩⟩
      · exact k.elim
    · cases hq
  case indexAddr t x i =>
    cases x <;> simp only at k ⊢ <;> try exact k.elim
    split at k
    · obtain ⟨iv, h1, k⟩ := withO_ok k
      rw [h1]
      simp only [withO]
      unfold aIndexAddr at *
      split at k
      · split at k
        · obtain ⟨v, k1, k2⟩ := qIndexAddr_val _ _ _ k
          exact ⟨v, k1, qIndexAddr_mono up _ _ _ k2⟩
        · exact k.elim
      · split at k
        · obtain ⟨v, k1, k2⟩ := qIndexAddrA_val _ _ _ _ k
          exact ⟨v, k1, qIndexAddrA_mono up _ _ _ _ k2⟩
        · exact k.elim
      · exact k.elim
    · exact k.elim
  case load t x =>
    cases x <;> simp only at k ⊢ <;> try exact k.elim
    split at k
    · unfold aLoad at *
      split at k
      · split at k
        · rename_i hd
          obtain ⟨v, k1, k2⟩ := qLoadA_val _ _ _ k
          exact ⟨v, k1, by rw [if_pos hd]; exact qLoadA_mono up _ _ _ k2⟩
        · rename_i hd
          obtain ⟨v, k1, k2⟩ := qLoad1_val _ _ k
          exact ⟨v, k1, by rw [if_neg hd]; exact qLoad1_mono up _ _ k2⟩
      · exact k.elim
    · exact k.elim
theorem aopX_free {env : Env} {h h2 : AHeap} {o : Oper} {R : AV → Prop} (hq : qOpX o.op = true) (k : aopX P env h o fun r _ => R r) : aopX P env h2 o fun r _ => R r := by
  obtain ⟨dst, op, ty, pos, after, guard⟩ := o
  cases op <;> simp only [aopX] at k ⊢ <;> try exact k.elim
  case call c =>
    simp only [qOpX] at hq
    split at hq
    · rename_i f hc
      simp only [hc] at k ⊢
      exact k
    · cases hq
  case indexAddr t x i =>
    cases x <;> simp only at k ⊢ <;> try exact k.elim
    exact k
  case load t x =>
    cases x <;> simp only at k ⊢ <;> try exact k.elim
    split at k
    · unfold aLoad at *
      split at k
      · split at k
        · rename_i hd; rw [if_pos hd]; exact ⟨k.out⟩
        · rename_i hd; rw [if_neg hd]; exact ⟨k.out⟩
      · exact k.elim
    · exact k.elim
theorem aopX_congr {env env' : Env} {h : AHeap} {o : Oper} {K : AV → AHeap → Prop} (he : ∀ t ∈ opSlots o, get env t = get env' t) : aopX P env h o K = aopX P env' h o K := by
  have ho : ∀ x ∈ o.op.operands, opv env x = opv env' x := fun x hx => opv_congr fun t e => he t (by
    subst e
    exact List.mem_filterMap.2 ⟨.tmp t, by simpa using hx, rfl⟩)
  clear he
  obtain ⟨dst, op, ty, pos, after, guard⟩ := o
  cases op <;> simp only [Op.operands] at ho <;> simp only [aopX]
  case load t x => cases x <;> rfl
  case indexAddr t x i => cases x <;> first | rfl | (simp only [] ; rw [ho i (by simp)])
  case call c =>
    split
    · rw [opvs_congr (l := c.args.toList) fun x hx => ho x (by simp at hx; simp [Call.operands, hx])]
    · rw [opvs_congr (l := c.args.toList) fun x hx => ho x (by simp at hx; simp [Call.operands, hx])]
    · rw [opvs_congr (l := c.args.toList) fun x hx => ho x (by simp at hx; simp [Call.operands, hx])]
    · rfl
theorem aop_val {env : Env} {h : AHeap} {o : Oper} {K : AV → AHeap → Prop} (hq : qOp P o.op = true) (k : aop P env h o K) : ∃ v, K v h ∧ aop P env h o fun r h' => r = v ∧ h' = h := by
  unfold aop qOp at *
  by_cases hn : isX P o.op = true
  · rw [if_pos hn] at hq k; simp only [if_pos hn]; exact aopX_val hq k
  · rw [if_neg hn] at hq k; simp only [if_neg hn]; exact aopB_val hq k
theorem aop_free {env : Env} {h h2 : AHeap} {o : Oper} {R : AV → Prop} (hq : qOp P o.op = true) (hh : hOp P o.op = false) (k : aop P env h o fun r _ => R r) : aop P env h2 o fun r _ => R r := by
  unfold aop qOp hOp at *
  by_cases hn : isX P o.op = true
  · rw [if_pos hn] at hq k ⊢; exact aopX_free hq k
  · rw [if_neg hn] at hq hh k ⊢; exact aopB_free hq hh k
theorem aop_congr {env env' : Env} {h : AHeap} {o : Oper} {K : AV → AHeap → Prop} (he : ∀ t ∈ opSlots o, get env t = get env' t) : aop P env h o K = aop P env' h o K := by
  unfold aop
  rw [aopX_congr he, aopB_congr he]
end
end Go.Proofs.YtmocchnodigmlaaGreatDoor.AL
