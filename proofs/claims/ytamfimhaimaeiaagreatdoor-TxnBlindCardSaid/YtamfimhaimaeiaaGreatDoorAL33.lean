import Derived.Test.YtamfimhaimaeiaaGreatDoorAL26
import Derived.Test.YtamfimhaimaeiaaGreatDoorAL18toAL19
set_option linter.all false
set_option autoImplicit true
set_option relaxedAutoImplicit true
set_option maxRecDepth 100000
namespace Go.Proofs.YtamfimhaimaeiaaGreatDoor.AL
section
variable [Tabs]
section
variable {P : Program}
theorem acallD_of_den {f : FuncId} {fn : Func} {c : Code} {args : List AV} {h : AHeap} {Q : QT} (hf : P.funcs[f]? = some fn) (hb : fn.body = some c) (hn : args.length ≤ fn.ntmps)
    {pl : Plan} (k : denF P pl fn c args h Q) : ACallD P f args h Q := by
  intro G w vs u s r
  refine callsD_of_wp hf hb ?_
  have hl := r.length
  have hre : EnvRep G (env0 0 args) (vs.toArray ++ Array.replicate (fn.ntmps - vs.toArray.size) undef) := fun k a e => by
    obtain ⟨_, h1⟩ := env0_get args 0 k a e
    obtain ⟨v, h2, h3⟩ := r.at _ _ h1
    have hk : k < vs.length := (List.getElem?_eq_some_iff.1 h2).1
    exact ⟨v, by rw [Array.getElem?_append_left (by simpa using hk)]; simpa using h2, h3⟩
  have W := den_ok c _ _ _ k G w { tmps := vs.toArray ++ Array.replicate (fn.ntmps - vs.toArray.size) undef, defers := [] } s (by simp; omega) hre
  refine wp_mono W fun e a w' ⟨env', h', G', hk, s', ev, r', hn', hd'⟩ => ?_
  cases e with
  | normal =>
    obtain ⟨v, x, q1, q2, q3⟩ := finK_ok s' r' hk
    exact ⟨hd', x, q1, v, x, h', G', rfl, q2, q3, s', ev⟩
  | ret =>
    obtain ⟨v, x, q1, q2, q3⟩ := finK_ok s' r' hk
    exact ⟨hd', x, q1, v, x, h', G', rfl, q2, q3, s', ev⟩
  | exit id => exact hk.elim
  | goto l => exact hk.elim
  | panic ch => exact hk.elim
  | outgrown => exact hk.elim
def denDef (P : Program) (pl : Plan) (fn : Func) (c0 : Code) (o1 oD : Oper) (rest : Code) (g : FuncId) (dargs : List Operand) (args : List AV) (h : AHeap) (Q : QT) : Prop :=
  den P fn.ntmps pl c0 (env0 0 args) h fun e env1 h1 => match e with
    | .normal => stepO P fn.ntmps env1 h1 o1 fun env2 h2 => withL (opvs env2 dargs) fun ds => den P fn.ntmps pl rest (putD env2 oD.dst (.tup [])) h2 fun e env3 h3 => match e with
      | .normal => ACallD P g ds h3 fun _ h4 => finK P fn.results.toList env3 h4 Q
      | .ret => ACallD P g ds h3 fun _ h4 => finK P fn.results.toList env3 h4 Q
      | _ => False
    | _ => False
theorem acall_of_denDef {f : FuncId} {fn gn : Func} {d : DParts} {c : Code} {args : List AV} {h : AHeap} {Q : QT} (hf : P.funcs[f]? = some fn) (hb : fn.body = some c) (hname : (fn.name == "runtime.NumGoroutine") = false) (hn : args.length ≤ fn.ntmps)
    (hd : splitD c = some d) (hg : P.funcs[d.g]? = some gn) (hgn : (gn.name == "runtime.NumGoroutine") = false) (hgb : gn.body.isNone = false) (hdst : dstOk fn.ntmps d.oD.dst = true)
    {pl : Plan} (k : denDef P pl fn d.c0 d.o1 d.oD d.rest d.g d.args args h Q) : ACall P f args h Q := by
  obtain ⟨rfl, hg1, hg2, hdef⟩ := splitD_ok hd
  obtain ⟨dc, hop, hcal, hargs⟩ := deferOf_ok hdef
  refine ⟨⟨fn, hf, hname, by simp [hb]⟩, fun G w vs s r => ?_⟩
  refine calls_of_wp_defers hf hb ?_
  have hl := r.length
  have hre : EnvRep G (env0 0 args) (vs.toArray ++ Array.replicate (fn.ntmps - vs.toArray.size) undef) := fun k a e => by
    obtain ⟨_, h1⟩ := env0_get args 0 k a e
    obtain ⟨v, h2, h3⟩ := r.at _ _ h1
    have hk : k < vs.length := (List.getElem?_eq_some_iff.1 h2).1
    exact ⟨v, by rw [Array.getElem?_append_left (by simpa using hk)]; simpa using h2, h3⟩
  have W := den_ok d.c0 _ _ _ k G w { tmps := vs.toArray ++ Array.replicate (fn.ntmps - vs.toArray.size) undef, defers := [] } s (by simp; omega) hre
  refine wp_seq (Go.wp_mono W fun ex a1 w1 p => ?_)
  obtain ⟨env1, h1, G1, k1, s1, ev1, r1, hn1, hd1⟩ := p
  cases ex with
  | normal =>
    simp only at k1
    refine wp_seq (wp_region ?_)
    unfold wpOps
    simp only [List.size_toArray, List.length_cons, List.length_nil, List.getElem?_toArray, List.range, List.range.loop, List.getElem?_cons_zero]
    rw [if_pos (by simp [Region.wanted, hg1])]
    refine .inl (stepO_ok s1 hn1 r1 k1 fun a2 w2 ⟨env2, h2, G2, k2, s2, ev2, r2, hn2, hd2⟩ => ?_)
    unfold wpOps
    simp only [List.getElem?_toArray, List.getElem?_cons_succ, List.getElem?_cons_zero]
    rw [if_pos (by simp [Region.wanted, hg2])]
    refine .inl ?_
    obtain ⟨ds, q1, k2⟩ := withL_ok k2
    have hds := opvs_rep r2 q1
    unfold Oper.wp
    have hrun : (execOp a2.eval d.oD).run P w2 = .ok (.defer ⟨.fn (.func d.g) #[], (d.args.map a2.eval).toArray⟩) w2 := by
      unfold execOp
      rw [hop]
      simp only [resolve, hcal, Act.eval, Deferred.ofValue, Sem.run_bind, Sem.run_pure, Result.andThen_ok]
      congr 3
      apply Array.toList_inj.1
      simp [← hargs]
    rw [hrun, Oper.upon_defer]
    unfold wpOps
    have hnA : ({ a2 with defers := ⟨.fn (.func d.g) #[], (d.args.map a2.eval).toArray⟩ :: a2.defers } : Act).tmps.size = fn.ntmps := hn2
    have hnB : (({ a2 with defers := ⟨.fn (.func d.g) #[], (d.args.map a2.eval).toArray⟩ :: a2.defers } : Act).put d.oD.dst undef).tmps.size = fn.ntmps := by rw [put_size]; exact hn2
    have rA : EnvRep G2 env2 ({ a2 with defers := ⟨.fn (.func d.g) #[], (d.args.map a2.eval).toArray⟩ :: a2.defers } : Act).tmps := r2
    have rB := rA.putD (d := d.oD.dst) (by rw [hnA]; exact hdst) (v := .tup []) (x := undef) (by simp [Rep, RepL, undef])
    have W2 := den_ok d.rest _ _ _ k2 G2 w2 _ s2 hnB rB
    refine wp_mono W2 fun ex a3 w3 ⟨env3, h3, G3, k3, s3, ev3, r3, hn3, hd3⟩ => ?_
    rw [put_defers] at hd3
    have hd3 : a3.defers = [⟨.fn (.func d.g) #[], (d.args.map a2.eval).toArray⟩] := by rw [hd3, hd2, hd1]
    have fin : (ACallD P d.g ds h3 fun _ h4 => finK P fn.results.toList env3 h4 Q) → Leaves P fn a3.tmps (fun e w' => ∃ r v h' G', e = .returned v ∧ Rep G' r v ∧ Q r h' ∧ Sim G' h' w' ∧ Evo G h w G' h' w') a3.defers .returning w3 := fun dd => by
      rw [hd3]
      refine leaves_cons (f := d.g) (args := (d.args.map a2.eval).toArray) (by simp) ?_ ?_
      · simp only [invoke, callFunc, Sem.run_bind, run_program, Result.andThen_ok, hg, hgn, hgb, Bool.false_eq_true, if_false, Sem.run_pure, Array.append_empty]
      · refine (dd G3 w3 (d.args.map a2.eval) .returning s3 (RepL.mono ev3.le _ _ hds)).mono fun e u' w' ⟨hu, rr, v, h', G', he, hv, fk, s4, ev4⟩ => ?_
        subst he; subst hu
        simp only [settle, Leaves]
        obtain ⟨v', x, z1, z2, z3⟩ := finK_ok s4 (r3.mono ev4.le) fk
        exact ⟨x, z1, v', x, h', G', rfl, z2, z3, s4, ((ev1.trans ev2).trans ev3).trans ev4⟩
    cases ex with
    | normal => exact fin k3
    | ret => exact fin k3
    | exit id => exact k3.elim
    | goto l => exact k3.elim
    | panic ch => exact k3.elim
    | outgrown => exact k3.elim
  | ret => exact k1.elim
  | exit id => exact k1.elim
  | goto l => exact k1.elim
  | panic ch => exact k1.elim
  | outgrown => exact k1.elim
end
end
section
variable [Tabs]
def denDf (P : Program) (pl : Plan) (fn : Func) (c : Code) (args : List AV) (h : AHeap) (Q : QT) : Prop :=
  match splitD c with
  | some d => (match P.funcs[d.g]? with
    | some gn => (match gn.name == "runtime.NumGoroutine", gn.body.isNone, dstOk fn.ntmps d.oD.dst with
      | false, false, true => denDef P pl fn d.c0 d.o1 d.oD d.rest d.g d.args args h Q
      | _, _, _ => False)
    | none => False)
  | none => False
theorem acall_of_denDf {P : Program} {f : FuncId} {fn : Func} {c : Code} {args : List AV} {h : AHeap} {Q : QT} (hf : P.funcs[f]? = some fn) (hb : fn.body = some c) (hname : (fn.name == "runtime.NumGoroutine") = false) (hn : args.length ≤ fn.ntmps)
    {pl : Plan} (k : denDf P pl fn c args h Q) : ACall P f args h Q := by
  unfold denDf at k
  split at k
  · rename_i d hd
    split at k
    · rename_i gn hg
      split at k
      · rename_i h1 h2 h3
        exact acall_of_denDef hf hb hname hn hd hg h1 h2 h3 k
      · exact k.elim
    · exact k.elim
  · exact k.elim
end
end Go.Proofs.YtamfimhaimaeiaaGreatDoor.AL
