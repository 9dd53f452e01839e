import Derived.Test.YthekegghphkddaaGreatDoorAL10n
import Derived.Laws.Externs
import Derived.Lib.Bytealg
set_option linter.all false
set_option autoImplicit true
set_option relaxedAutoImplicit true
set_option linter.unusedVariables false
set_option linter.unusedSimpArgs false
/-! Operations beside the code's own: functions without a text, tables, copy, clear. -/
namespace Go.Proofs.YthekegghphkddaaGreatDoor.AL
variable [Tabs]
section
variable {P : Program} {G : Gh} {h : AHeap} {w : World}

inductive Ext where
  | index
  | count
def extOf (P : Program) (f : FuncId) : Option Ext := match P.funcs[f]? with
  | some fn => if fn.body.isNone = true then (if (fn.name == "internal/bytealg.IndexByteString" && fn.origin == "") = true then some .index
      else if (fn.name == "internal/bytealg.CountString" && fn.origin == "") = true then some .count else none) else none
  | none => none
def pExt (e : Ext) (vs : List AV) (K : AV → Prop) : Prop :=
  match e, vs with
  | .index, [.lit (.string s), .lit (.int .u8 c)] => K (I (Lib.indexByte s.data.toList c.toNat.toUInt8))
  | .count, [.lit (.string s), .lit (.int .u8 c)] => K (I (Lib.countByte s.data.toList c.toNat.toUInt8))
  | _, _ => False
structure qExt (e : Ext) (vs : List AV) (K : AV → Prop) : Prop where
  mk :: (out : pExt e vs K)
theorem pExt_mono {e : Ext} {vs : List AV} {K K' : AV → Prop} (hk : ∀ r, K r → K' r) (k : pExt e vs K) : pExt e vs K' := by
  unfold pExt at *
  split at k <;> first | exact hk _ k | exact k.elim
theorem pExt_val {e : Ext} {vs : List AV} {K : AV → Prop} (k : pExt e vs K) : ∃ v, K v ∧ pExt e vs fun r => r = v := by
  unfold pExt at *
  split at k <;> first | exact ⟨_, k, rfl⟩ | exact k.elim
theorem look_index : Extern.allGenericRows.lookup "internal/bytealg.IndexByteString" = none ∧ Extern.allTypedRows.lookup "internal/bytealg.IndexByteString" = none ∧ Extern.allRows.lookup "internal/bytealg.IndexByteString" = some Extern.BytealgIndexByte.indexByte := ⟨by kernel_rfl, by kernel_rfl, by kernel_rfl⟩
theorem look_count : Extern.allGenericRows.lookup "internal/bytealg.CountString" = none ∧ Extern.allTypedRows.lookup "internal/bytealg.CountString" = none ∧ Extern.allRows.lookup "internal/bytealg.CountString" = some Extern.BytealgCount.count := ⟨by kernel_rfl, by kernel_rfl, by kernel_rfl⟩
theorem look_next : Extern.allNextRows.lookup "internal/bytealg.IndexByteString" = none ∧ Extern.allNextRows.lookup "internal/bytealg.CountString" = none ∧ Extern.allNextRows.lookup "" = none := ⟨by kernel_rfl, by kernel_rfl, by kernel_rfl⟩
theorem ext_run {f : FuncId} {e : Ext} (he : extOf P f = some e) {vs : List AV} {xs : Array Value} (hr : RepL G vs xs.toList) {K : AV → Prop} (k : pExt e vs K) :
    ∃ r v, (callFunc f xs).run P w = .ok (.value v) w ∧ Rep G r v ∧ K r := by
  unfold extOf at he
  split at he
  · rename_i fn hf
    split at he
    · rename_i hb
      split at he
      · rename_i hn
        cases he
        simp only [Bool.and_eq_true, beq_iff_eq] at hn
        have h1 : Extern.findNext fn = none := by unfold Extern.findNext; simp only [hn.1, hn.2, look_next.1, look_next.2.2]; rfl
        have h2 : Extern.find fn = some Extern.BytealgIndexByte.indexByte := by unfold Extern.find; simp only [hn.1, look_index.1, look_index.2.1, look_index.2.2]; rfl
        rw [run_callFunc_extern hf (by rw [hn.1]; decide) hb h1 h2]
        have k : ∃ s c, vs = [.lit (.string s), .lit (.int .u8 c)] ∧ K (I (Lib.indexByte s.data.toList c.toNat.toUInt8)) := by
          unfold pExt at k; split at k
          · exact ⟨_, _, rfl, k⟩
          · contradiction
          · exact k.elim
        obtain ⟨s, c, rfl, k⟩ := k
        · obtain ⟨a, b, hx, ha, hb⟩ := hr.two
          simp only [Rep] at ha hb
          have : xs = #[a, b] := by apply Array.toList_inj.1; simpa using hx
          rw [this, ha.1, hb.1, run_indexByte_string, Lib.firstIdx_eq]
          exact ⟨_, _, rfl, by simp [Rep, Value.oneCell'], k⟩
      · split at he
        · rename_i hn
          cases he
          simp only [Bool.and_eq_true, beq_iff_eq] at hn
          have h1 : Extern.findNext fn = none := by unfold Extern.findNext; simp only [hn.1, hn.2, look_next.2.1, look_next.2.2]; rfl
          have h2 : Extern.find fn = some Extern.BytealgCount.count := by unfold Extern.find; simp only [hn.1, look_count.1, look_count.2.1, look_count.2.2]; rfl
          rw [run_callFunc_extern hf (by rw [hn.1]; decide) hb h1 h2]
          have k : ∃ s c, vs = [.lit (.string s), .lit (.int .u8 c)] ∧ K (I (Lib.countByte s.data.toList c.toNat.toUInt8)) := by
            unfold pExt at k; split at k
            · contradiction
            · exact ⟨_, _, rfl, k⟩
            · exact k.elim
          obtain ⟨s, c, rfl, k⟩ := k
          · obtain ⟨a, b, hx, ha, hb⟩ := hr.two
            simp only [Rep] at ha hb
            have : xs = #[a, b] := by apply Array.toList_inj.1; simpa using hx
            rw [this, ha.1, hb.1, Lib.run_countString]
            exact ⟨_, _, rfl, by simp [Rep, Value.oneCell'], k⟩
        · cases he
    · cases he
  · cases he

/-! ### copy, clear -/
def eCopy (size : Nat) (v x : AV) (h : AHeap) (K : AV → AHeap → Prop) : Prop :=
  match aElems h size x with
  | none => False
  | some (m, xs) => match v with
    | .sl i off len sz => (match h[i]? with
      | some (.cells cs) => (sz = size ∧ off + len * size ≤ cs.length ∧ xs.all AV.one = true) ∧ K (I (Nat.min m len)) (h.set i (.cells (splice cs off (xs.take (Nat.min m len * size)))))
      | _ => False)
    | _ => False
def eClear (z : List AV) (v : AV) (h : AHeap) (K : AHeap → Prop) : Prop :=
  match v with
  | .sl i off len sz => (match h[i]? with
    | some (.cells cs) => (sz = z.length ∧ off + len * sz ≤ cs.length ∧ z.all AV.one = true) ∧ K (h.set i (.cells (splice cs off (List.replicate len z).flatten)))
    | _ => False)
  | _ => False

def isX (P : Program) : Op → Bool
  | .call c => match c.callee with
    | .value (.func f) => (extOf P f).isSome
    | _ => false
  | .indexAddr _ (.global _) _ => true
  | .load _ (.global _) => true
  | _ => false
def qOpX : Op → Bool
  | .call c => match c.callee with
    | .value (.func _) => true
    | _ => false
  | .indexAddr _ (.global _) _ => true
  | .load _ (.global _) => true
  | _ => false
def aopX (P : Program) (env : Env) (h : AHeap) (o : Oper) (K : AV → AHeap → Prop) : Prop :=
  match o.op with
  | .call c => match c.callee with
    | .value (.func f) => withL (opvs env c.args.toList) fun vs => (match extOf P f with | some e => qExt e vs fun r => K r h | none => False)
    | .builtin .copy => withL (opvs env c.args.toList) fun vs => False
    | .builtin .clear => withL (opvs env c.args.toList) fun vs => False
    | _ => False
  | .indexAddr t (.global g) i => (match Tabs.tab g with
    | some cs => withO (opv env i) fun iv => aIndexAddr P t (.cptr cs) iv fun r => K r h
    | none => False)
  | .load t (.global g) => (match Tabs.tab g with
    | some cs => aLoad P t (.cptr cs) h fun r => K r h
    | none => False)
  | _ => False

/-- One operation. -/
def aop (P : Program) (env : Env) (h : AHeap) (o : Oper) (K : AV → AHeap → Prop) : Prop := if isX P o.op = true then aopX P env h o K else aopB P env h o K

theorem tab_rep (s : Sim G h w) {g : Nat} {cs : List AV} (hg : Tabs.tab g = some cs) (a : Act) : Rep G (.cptr cs) (a.eval (.global g)) := by
  simp only [Act.eval, Rep]
  exact ⟨g, 0, rfl, Tabs.tab_ok G g cs s.tab hg⟩

theorem aopX_ok (s : Sim G h w) {env : Env} {a : Act} (r : EnvRep G env a.tmps) {o : Oper} {K : AV → AHeap → Prop} (k : aopX P env h o K) : UpV P (N0 G h w K) ((execOp a.eval o).run P w) := by
  obtain ⟨dst, op, ty, pos, after, guard⟩ := o
  cases op <;> simp only [aopX] at k <;> try exact k.elim
  case call c =>
    obtain ⟨callee, args, argTypes⟩ := c
    simp only at k
    split at k
    · rename_i f
      obtain ⟨vs, h1, k⟩ := withL_ok k
      split at k
      · rename_i e he
        have hr := opvs_rep r h1
        obtain ⟨rr, v, q1, q2, q3⟩ := ext_run (w := w) (xs := args.map a.eval) he (by simpa using hr) k.out
        simp only [execOp, resolve, Deferred.ofValue, Act.eval, Sem.run_bind, Sem.run_pure, Result.andThen_ok, invoke, Array.append_empty, Array.empty_append]
        rw [q1]
        exact ⟨rr, h, G, q2, q3, s, Evo.refl _ _ _⟩
      · exact k.elim
    · obtain ⟨vs, h1, k⟩ := withL_ok k; exact k.elim
    · obtain ⟨vs, h1, k⟩ := withL_ok k; exact k.elim
    · exact k.elim
  case indexAddr t x i =>
    cases x <;> simp only at k <;> try exact k.elim
    split at k
    · rename_i cs hg
      obtain ⟨iv, h1, k⟩ := withO_ok k
      have hx := tab_rep s hg a
      unfold aIndexAddr at k
      split at k
      · split at k
        · exact upV_of_yl s (pIndexAddr_ok ‹_› ‹_› hx (opv_rep r h1) k.out)
        · exact k.elim
      · split at k
        · exact upV_of_yl s (pIndexAddrA_ok ‹_› ‹_› hx (opv_rep r h1) k.out)
        · exact k.elim
      · exact k.elim
    · exact k.elim
  case load t x =>
    cases x <;> simp only at k <;> try exact k.elim
    split at k
    · rename_i cs hg
      have hx := tab_rep s hg a
      unfold aLoad at k
      split at k
      · split at k
        · exact upV_of_yl s (pLoadA_ok s ‹_› ‹_› ‹_› hx k.out)
        · rename_i hd; exact upV_of_yl s (pLoad1_ok s ‹_› (by simpa using hd) hx k.out)
      · exact k.elim
    · exact k.elim
theorem aopX_mono {env : Env} {h : AHeap} {o : Oper} {K K' : AV → AHeap → Prop} (hk : ∀ v h, K v h → K' v h) (k : aopX P env h o K) : aopX P env h o K' := by
  obtain ⟨dst, op, ty, pos, after, guard⟩ := o
  cases op <;> simp only [aopX] at k ⊢ <;> try exact k.elim
  case call c =>
    split at k
    · refine withL_mono (fun _ k => ?_) _ k
      split at k
      · exact ⟨pExt_mono (fun r k => hk r h k) k.out⟩
      · exact k.elim
    · refine withL_mono (fun _ k => k.elim) _ k
    · refine withL_mono (fun _ k => k.elim) _ k
    · exact k.elim
  case indexAddr t x i =>
    cases x <;> simp only at k ⊢ <;> try exact k.elim
    split at k
    · refine withO_mono (fun _ k => ?_) _ k
      unfold aIndexAddr at *
      (repeat' split at k) <;> first
        | exact k.elim
        | exact qIndexAddr_mono (fun r k => hk r h k) _ _ _ k
        | exact qIndexAddrA_mono (fun r k => hk r h k) _ _ _ _ k
    · exact k.elim
  case load t x =>
    cases x <;> simp only at k ⊢ <;> try exact k.elim
    split at k
    · unfold aLoad at *
      split at k
      · split at k
        · rename_i hd; rw [if_pos hd]; exact qLoadA_mono (fun r k => hk r h k) _ _ _ k
        · rename_i hd; rw [if_neg hd]; exact qLoad1_mono (fun r k => hk r h k) _ _ k
      · exact k.elim
    · exact k.elim
theorem aop_ok (s : Sim G h w) {env : Env} {a : Act} (r : EnvRep G env a.tmps) {o : Oper} {K : AV → AHeap → Prop} (k : aop P env h o K) : UpV P (N0 G h w K) ((execOp a.eval o).run P w) := by
  unfold aop at k
  split at k
  · exact aopX_ok s r k
  · exact aopB_ok s r k
theorem aop_mono {env : Env} {h : AHeap} {o : Oper} {K K' : AV → AHeap → Prop} (hk : ∀ v h, K v h → K' v h) (k : aop P env h o K) : aop P env h o K' := by
  unfold aop at *
  split at k
  · rename_i hn; rw [if_pos hn]; exact aopX_mono hk k
  · rename_i hn; rw [if_neg hn]; exact aopB_mono hk k
end
end Go.Proofs.YthekegghphkddaaGreatDoor.AL
