import Derived.Test.YtmocchnodigmlaaGreatDoorAL10y
import Derived.Laws.Externs
import Derived.Lib.Bytealg
set_option linter.all false
set_option autoImplicit true
set_option relaxedAutoImplicit true
set_option linter.unusedVariables false
set_option linter.unusedSimpArgs false
/-! Operations beside the code's own: functions without a text, tables, copy, clear. -/
namespace Go.Proofs.YtmocchnodigmlaaGreatDoor.AL
variable [Tabs]
section
variable {P : Program} {G : Gh} {h : AHeap} {w : World}

inductive Ext where
  | index
  | count
  | bits
  | frombits
def extOf (P : Program) (f : FuncId) : Option Ext := match P.funcs[f]? with
  | some fn => if fn.body.isNone = true then (if (fn.name == "internal/bytealg.IndexByteString" && fn.origin == "") = true then some .index
      else if (fn.name == "internal/bytealg.CountString" && fn.origin == "") = true then some .count else if (fn.name == "math.Float64bits" && fn.origin == "") = true then some .bits else if (fn.name == "math.Float64frombits" && fn.origin == "") = true then some .frombits else none) else none
  | none => none
def pExt (e : Ext) (vs : List AV) (K : AV → Prop) : Prop :=
  match e, vs with
  | .index, [.lit (.string s), .lit (.int .u8 c)] => K (I (Lib.indexByte s.data.toList c.toNat.toUInt8))
  | .count, [.lit (.string s), .lit (.int .u8 c)] => K (I (Lib.countByte s.data.toList c.toNat.toUInt8))
  | .bits, [.lit (.float .f64 b)] => K (.lit (.int .u64 b))
  | .frombits, [.lit (.int .u64 n)] => K (.lit (.float .f64 n.toNat))
  | _, _ => False
structure qExt (e : Ext) (vs : List AV) (K : AV → Prop) : Prop where
  mk :: (out : pExt e vs K)
theorem pExt_mono {e : Ext} {vs : List AV} {K K' : AV → Prop} (hk : ∀ r, K r → K' r) (k : pExt e vs K) : pExt e vs K' := by
  unfold pExt at *
  split at k <;> first | exact hk _ k | exact k.elim
theorem pExt_val {e : Ext} {vs : List AV} {K : AV → Prop} (k : pExt e vs K) : ∃ v, K v ∧ pExt e vs fun r => r = v := by
  unfold pExt at *
  split at k <;> first | exact ⟨_, k, rfl⟩ | exact k.elim
theorem look_index : Extern.allGenericRows.lookup "internal/bytealg.IndexByteString" = none ∧ Extern.allTypedRows.lookup "internal/bytealg.IndexByteString" = none ∧ Extern.allRows.lookup "internal/bytealg.IndexByteString" = some Extern.BytealgIndexByte.indexByte := ⟨by kernel_rfl, by kernel_rfl, by kernel_rfl⟩
theorem look_count : Extern.allGenericRows.lookup "internal/bytealg.CountString" = none ∧ Extern.allTypedRows.lookup "internal/bytealg.CountString" = none ∧ Extern.allRows.lookup "internal/bytealg.CountString" = some Extern.BytealgCount.count := ⟨by kernel_rfl, by kernel_rfl, by kernel_rfl⟩
theorem look_bits : Extern.allGenericRows.lookup "math.Float64bits" = none ∧ Extern.allTypedRows.lookup "math.Float64bits" = none ∧ Extern.allRows.lookup "math.Float64bits" = some Extern.MathFloatBits.float64bits := ⟨by kernel_rfl, by kernel_rfl, by kernel_rfl⟩
theorem look_frombits : Extern.allGenericRows.lookup "math.Float64frombits" = none ∧ Extern.allTypedRows.lookup "math.Float64frombits" = none ∧ Extern.allRows.lookup "math.Float64frombits" = some Extern.MathFloatBits.float64frombits := ⟨by kernel_rfl, by kernel_rfl, by kernel_rfl⟩
theorem look_next2 : Extern.allNextRows.lookup "math.Float64bits" = none ∧ Extern.allNextRows.lookup "math.Float64frombits" = none := ⟨by kernel_rfl, by kernel_rfl⟩
theorem look_next : Extern.allNextRows.lookup "internal/bytealg.IndexByteString" = none ∧ Extern.allNextRows.lookup "internal/bytealg.CountString" = none ∧ Extern.allNextRows.lookup "" = none := ⟨by kernel_rfl, by kernel_rfl, by kernel_rfl⟩
theorem ext_run {f : FuncId} {e : Ext} (he : extOf P f = some e) {vs : List AV} {xs : Array Value} (hr : RepL G vs xs.toList) {K : AV → Prop} (k : pExt e vs K) :
    ∃ r v, (callFunc f xs).run P w = .ok (.value v) w ∧ Rep G r v ∧ K r := by
  unfold extOf at he
  split at he
  · rename_i fn hf
    split at he
    · rename_i hb
      split at he
      · rename_i hn
        cases he
        simp only [Bool.and_eq_true, beq_iff_eq] at hn
        have h1 : Extern.findNext fn = none := by unfold Extern.findNext; simp only [hn.1, hn.2, look_next.1, look_next.2.2]; rfl
        have h2 : Extern.find fn = some Extern.BytealgIndexByte.indexByte := by unfold Extern.find; simp only [hn.1, look_index.1, look_index.2.1, look_index.2.2]; rfl
        rw [run_callFunc_extern hf (by rw [hn.1]; decide) hb h1 h2]
        have k : ∃ s c, vs = [.lit (.string s), .lit (.int .u8 c)] ∧ K (I (Lib.indexByte s.data.toList c.toNat.toUInt8)) := by
          unfold pExt at k; split at k <;> first | contradiction | exact ⟨_, _, rfl, k⟩ | exact k.elim
        obtain ⟨s, c, rfl, k⟩ := k
        · obtain ⟨a, b, hx, ha, hb⟩ := hr.two
          simp only [Rep] at ha hb
          have : xs = #[a, b] := by apply Array.toList_inj.1; simpa using hx
          rw [this, ha.1, hb.1, run_indexByte_string, Lib.firstIdx_eq]
          exact ⟨_, _, rfl, by simp [Rep, Value.oneCell'], k⟩
      · split at he
        · rename_i hn
          cases he
          simp only [Bool.and_eq_true, beq_iff_eq] at hn
          have h1 : Extern.findNext fn = none := by unfold Extern.findNext; simp only [hn.1, hn.2, look_next.2.1, look_next.2.2]; rfl
          have h2 : Extern.find fn = some Extern.BytealgCount.count := by unfold Extern.find; simp only [hn.1, look_count.1, look_count.2.1, look_count.2.2]; rfl
          rw [run_callFunc_extern hf (by rw [hn.1]; decide) hb h1 h2]
          have k : ∃ s c, vs = [.lit (.string s), .lit (.int .u8 c)] ∧ K (I (Lib.countByte s.data.toList c.toNat.toUInt8)) := by
            unfold pExt at k; split at k <;> first | contradiction | exact ⟨_, _, rfl, k⟩ | exact k.elim
          obtain ⟨s, c, rfl, k⟩ := k
          · obtain ⟨a, b, hx, ha, hb⟩ := hr.two
            simp only [Rep] at ha hb
            have : xs = #[a, b] := by apply Array.toList_inj.1; simpa using hx
            rw [this, ha.1, hb.1, Lib.run_countString]
            exact ⟨_, _, rfl, by simp [Rep, Value.oneCell'], k⟩
        · split at he
          · rename_i hn
            cases he
            simp only [Bool.and_eq_true, beq_iff_eq] at hn
            have h1 : Extern.findNext fn = none := by unfold Extern.findNext; simp only [hn.1, hn.2, look_next2.1, look_next.2.2]; rfl
            have h2 : Extern.find fn = some Extern.MathFloatBits.float64bits := by unfold Extern.find; simp only [hn.1, look_bits.1, look_bits.2.1, look_bits.2.2]; rfl
            rw [run_callFunc_extern hf (by rw [hn.1]; decide) hb h1 h2]
            have k : ∃ b, vs = [.lit (.float .f64 b)] ∧ K (.lit (.int .u64 b)) := by
              unfold pExt at k; split at k <;> first | contradiction | exact ⟨_, rfl, k⟩ | exact k.elim
            obtain ⟨b, rfl, k⟩ := k
            obtain ⟨a, hx, ha⟩ := hr.single
            simp only [Rep] at ha
            have : xs = #[a] := by apply Array.toList_inj.1; simpa using hx
            rw [this, ha.1]
            exact ⟨_, _, rfl, by simp [Rep, Value.oneCell'], k⟩
          · split at he
            · rename_i hn
              cases he
              simp only [Bool.and_eq_true, beq_iff_eq] at hn
              have h1 : Extern.findNext fn = none := by unfold Extern.findNext; simp only [hn.1, hn.2, look_next2.2, look_next.2.2]; rfl
              have h2 : Extern.find fn = some Extern.MathFloatBits.float64frombits := by unfold Extern.find; simp only [hn.1, look_frombits.1, look_frombits.2.1, look_frombits.2.2]; rfl
              rw [run_callFunc_extern hf (by rw [hn.1]; decide) hb h1 h2]
              have k : ∃ n, vs = [.lit (.int .u64 n)] ∧ K (.lit (.float .f64 n.toNat)) := by
                unfold pExt at k; split at k <;> first | contradiction | exact ⟨_, rfl, k⟩ | exact k.elim
              obtain ⟨n, rfl, k⟩ := k
              obtain ⟨a, hx, ha⟩ := hr.single
              simp only [Rep] at ha
              have : xs = #[a] := by apply Array.toList_inj.1; simpa using hx
              rw [this, ha.1]
              exact ⟨_, _, rfl, by simp [Rep, Value.oneCell'], k⟩
            · cases he
    · cases he
  · cases he

def isX (P : Program) : Op → Bool
  | .call c => match c.callee with
    | .value (.func f) => (extOf P f).isSome
    | .builtin .copy => true
    | .builtin .clear => true
    | _ => false
  | .indexAddr _ (.global _) _ => true
  | .load _ (.global _) => true
  | _ => false
def qOpX : Op → Bool
  | .call c => match c.callee with
    | .value (.func _) => true
    | _ => false
  | .indexAddr _ (.global _) _ => true
  | .load _ (.global _) => true
  | _ => false
/-- The element of a row's type. -/
def rowT (P : Program) (ts : Array TypeId) (K : Value → TypeInfo → Prop) : Prop :=
  match ts.toList with
  | t :: _ => (match P.underlying t with
    | some (.slice e) => (match P.info? e with
      | some i => (match i.zero with | some z => if okV z = true then K z i else False | none => False)
      | none => False)
    | _ => False)
  | _ => False
theorem rowT_ok {ts : Array TypeId} {K : Value → TypeInfo → Prop} (k : rowT P ts K) : ∃ t e i z, ts[0]? = some t ∧ P.underlying t = some (.slice e) ∧ P.info? e = some i ∧ i.zero = some z ∧ okV z = true ∧ K z i := by
  unfold rowT at k
  split at k
  · rename_i t rest ht
    split at k
    · split at k
      · split at k
        · split at k
          · refine ⟨t, _, _, _, ?_, by assumption, by assumption, by assumption, by assumption, k⟩
            rw [← Array.getElem?_toList, ht]; rfl
          · exact k.elim
        · exact k.elim
      · exact k.elim
    · exact k.elim
  · exact k.elim
theorem rowT_mono {ts : Array TypeId} {K K' : Value → TypeInfo → Prop} (hk : ∀ z i, K z i → K' z i) (k : rowT P ts K) : rowT P ts K' := by
  unfold rowT at *
  split at k
  · split at k
    · split at k
      · split at k
        · split at k
          · rename_i h; rw [if_pos h]; exact hk _ _ k
          · exact k.elim
        · exact k.elim
      · exact k.elim
    · exact k.elim
  · exact k.elim
def aopX (P : Program) (env : Env) (h : AHeap) (o : Oper) (K : AV → AHeap → Prop) : Prop :=
  match o.op with
  | .call c => match c.callee with
    | .value (.func f) => withL (opvs env c.args.toList) fun vs => (match extOf P f with | some e => qExt e vs fun r => K r h | none => False)
    | .builtin .copy => withL (opvs env c.args.toList) fun vs => rowT P c.argTypes fun _ i => (match vs with | [v, x] => qCopy i.size v x h K | _ => False)
    | .builtin .clear => withL (opvs env c.args.toList) fun vs => rowT P c.argTypes fun z i => (match vs with | [v] => qClear i.size (ofV z) v h fun h' => K (.tup []) h' | _ => False)
    | _ => False
  | .indexAddr t (.global g) i => (match Tabs.tab g with
    | some cs => withO (opv env i) fun iv => aIndexAddr P t (.cptr cs) iv fun r => K r h
    | none => False)
  | .load t (.global g) => (match Tabs.tab g with
    | some cs => aLoad P t (.cptr cs) h fun r => K r h
    | none => False)
  | _ => False

/-- One operation. -/
def aop (P : Program) (env : Env) (h : AHeap) (o : Oper) (K : AV → AHeap → Prop) : Prop := if isX P o.op = true then aopX P env h o K else aopB P env h o K

theorem tab_rep (s : Sim G h w) {g : Nat} {cs : List AV} (hg : Tabs.tab g = some cs) (a : Act) : Rep G (.cptr cs) (a.eval (.global g)) := by
  simp only [Act.eval, Rep]
  exact ⟨g, 0, rfl, Tabs.tab_ok G g cs s.tab hg⟩

theorem aopX_ok (s : Sim G h w) {env : Env} {a : Act} (r : EnvRep G env a.tmps) {o : Oper} {K : AV → AHeap → Prop} (k : aopX P env h o K) : UpV P (N0 G h w K) ((execOp a.eval o).run P w) := by
  obtain ⟨dst, op, ty, pos, after, guard⟩ := o
  cases op <;> simp only [aopX] at k <;> try exact k.elim
  case call c =>
    obtain ⟨callee, args, argTypes⟩ := c
    simp only at k
    split at k
    · rename_i f
      obtain ⟨vs, h1, k⟩ := withL_ok k
      split at k
      · rename_i e he
        have hr := opvs_rep r h1
        obtain ⟨rr, v, q1, q2, q3⟩ := ext_run (w := w) (xs := args.map a.eval) he (by simpa using hr) k.out
        simp only [execOp, resolve, Deferred.ofValue, Act.eval, Sem.run_bind, Sem.run_pure, Result.andThen_ok, invoke, Array.append_empty, Array.empty_append]
        rw [q1]
        exact ⟨rr, h, G, q2, q3, s, Evo.refl _ _ _⟩
      · exact k.elim
    · obtain ⟨vs, h1, k⟩ := withL_ok k
      obtain ⟨t, e, i, z, ht0, ht, hi, hz, hzo, k2⟩ := rowT_ok k
      have hr := opvs_rep r h1
      clear k
      split at k2
      · rename_i v u
        obtain ⟨x, y, hx, hx2, hx3⟩ := (show RepL G [v, u] (args.map a.eval).toList by simpa using hr).two
        have hargs : args.map a.eval = #[x, y] := by apply Array.toList_inj.1; simpa using hx
        obtain ⟨r', v', h', G', w', q1, q2, q3, q4, q5⟩ := eCopy_ok (ty := ty) s ht0 ht hi hx2 hx3 k2.out
        simp only [execOp, resolve, Sem.run_bind, Sem.run_pure, Result.andThen_ok, invoke, builtin, hargs, q1]
        exact ⟨r', h', G', q2, q3, q4, q5⟩
      · exact k2.elim
    · obtain ⟨vs, h1, k⟩ := withL_ok k
      obtain ⟨t, e, i, z, ht0, ht, hi, hz, hzo, k2⟩ := rowT_ok k
      have hr := opvs_rep r h1
      clear k
      split at k2
      · rename_i v
        obtain ⟨x, hx, hx2⟩ := (show RepL G [v] (args.map a.eval).toList by simpa using hr).single
        have hargs : args.map a.eval = #[x] := by apply Array.toList_inj.1; simpa using hx
        obtain ⟨r', v', h', G', w', q1, q2, ⟨rfl, q3⟩, q4, q5⟩ := eClear_ok (ty := ty) s ht0 ht hi hz hx2 (rep_ofV G z hzo) k2.out
        simp only [execOp, resolve, Sem.run_bind, Sem.run_pure, Result.andThen_ok, invoke, builtin, hargs, q1]
        exact ⟨_, h', G', q2, q3, q4, q5⟩
      · exact k2.elim
    · exact k.elim
  case indexAddr t x i =>
    cases x <;> simp only at k <;> try exact k.elim
    split at k
    · rename_i cs hg
      obtain ⟨iv, h1, k⟩ := withO_ok k
      have hx := tab_rep s hg a
      unfold aIndexAddr at k
      split at k
      · split at k
        · exact upV_of_yl s (pIndexAddr_ok ‹_› ‹_› hx (opv_rep r h1) k.out)
        · exact k.elim
      · split at k
        · exact upV_of_yl s (pIndexAddrA_ok ‹_› ‹_› hx (opv_rep r h1) k.out)
        · exact k.elim
      · exact k.elim
    · exact k.elim
  case load t x =>
    cases x <;> simp only at k <;> try exact k.elim
    split at k
    · rename_i cs hg
      have hx := tab_rep s hg a
      unfold aLoad at k
      split at k
      · split at k
        · exact upV_of_yl s (pLoadA_ok s ‹_› ‹_› ‹_› hx k.out)
        · rename_i hd; exact upV_of_yl s (pLoad1_ok s ‹_› (by simpa using hd) hx k.out)
      · exact k.elim
    · exact k.elim
theorem aopX_mono {env : Env} {h : AHeap} {o : Oper} {K K' : AV → AHeap → Prop} (hk : ∀ v h, K v h → K' v h) (k : aopX P env h o K) : aopX P env h o K' := by
  obtain ⟨dst, op, ty, pos, after, guard⟩ := o
  cases op <;> simp only [aopX] at k ⊢ <;> try exact k.elim
  case call c =>
    split at k
    · refine withL_mono (fun _ k => ?_) _ k
      split at k
      · exact ⟨pExt_mono (fun r k => hk r h k) k.out⟩
      · exact k.elim
    · refine withL_mono (fun _ k => rowT_mono (fun z i k => ?_) k) _ k
      split at k
      · exact ⟨eCopy_mono hk k.out⟩
      · exact k.elim
    · refine withL_mono (fun _ k => rowT_mono (fun z i k => ?_) k) _ k
      split at k
      · exact ⟨eClear_mono (fun h k => hk _ h k) k.out⟩
      · exact k.elim
    · exact k.elim
  case indexAddr t x i =>
    cases x <;> simp only at k ⊢ <;> try exact k.elim
    split at k
    · refine withO_mono (fun _ k => ?_) _ k
      unfold aIndexAddr at *
      (repeat' split at k) <;> first
        | exact k.elim
        | exact qIndexAddr_mono (fun r k => hk r h k) _ _ _ k
        | exact qIndexAddrA_mono (fun r k => hk r h k) _ _ _ _ k
    · exact k.elim
  case load t x =>
    cases x <;> simp only at k ⊢ <;> try exact k.elim
    split at k
    · unfold aLoad at *
      split at k
      · split at k
        · rename_i hd; rw [if_pos hd]; exact qLoadA_mono (fun r k => hk r h k) _ _ _ k
        · rename_i hd; rw [if_neg hd]; exact qLoad1_mono (fun r k => hk r h k) _ _ k
      · exact k.elim
    · exact k.elim
theorem aop_ok (s : Sim G h w) {env : Env} {a : Act} (r : EnvRep G env a.tmps) {o : Oper} {K : AV → AHeap → Prop} (k : aop P env h o K) : UpV P (N0 G h w K) ((execOp a.eval o).run P w) := by
  unfold aop at k
  split at k
  · exact aopX_ok s r k
  · exact aopB_ok s r k
theorem aop_mono {env : Env} {h : AHeap} {o : Oper} {K K' : AV → AHeap → Prop} (hk : ∀ v h, K v h → K' v h) (k : aop P env h o K) : aop P env h o K' := by
  unfold aop at *
  split at k
  · rename_i hn; rw [if_pos hn]; exact aopX_mono hk k
  · rename_i hn; rw [if_neg hn]; exact aopB_mono hk k
end
end Go.Proofs.YtmocchnodigmlaaGreatDoor.AL
