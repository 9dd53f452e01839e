import Derived.Test.YtiddcelpooenfaaGreatDoorAE5toAN4
import Derived.MapKept
set_option linter.all false
set_option autoImplicit true
set_option relaxedAutoImplicit true
set_option maxRecDepth 100000
namespace Go.Proofs.YtiddcelpooenfaaGreatDoor.AL
section
noncomputable section
variable [Tabs]
section
variable {h : AHeap} {Q : QT}
def notGap (c : UInt8) : Bool := decide (c ≠ 32) && decide (c ≠ 9)
theorem notGap_sp : TestsB (.fn (.func fn_line_One_1) [] []) notGap := fun c h Q k => by
  show ACall Pg fn_line_One_1 [U8 c] h Q
  refine line_One_1_ok _ _ _ ?_
  unfold line_One_1
  have e1 : decide ((c.toNat : Int) ≠ 32) = decide (c ≠ 32) := by rw [Bool.eq_iff_iff]; simp [← UInt8.toNat_inj]; omega
  have e2 : decide ((c.toNat : Int) ≠ 9) = decide (c ≠ 9) := by rw [Bool.eq_iff_iff]; simp [← UInt8.toNat_inj]; omega
  unfold notGap at k
  refine st_neq ?_
  rw [e1]
  cases h1 : decide (c ≠ 32) with
  | true =>
    refine st_if (fun _ => ?_) (fun h => by cases h)
    rw [h1, Bool.true_and] at k
    refine st_neq ?_
    rw [e2]; exact k
  | false =>
    refine st_if (fun h => by cases h) (fun _ => ?_)
    rw [h1, Bool.false_and] at k; exact k
def labM (b : Str) : Option (Str × Str) :=
  if b[frontN bInner b]? = some 58 then (if isWord (b.take (frontN bInner b)) = true then some (b.take (frontN bInner b), trim (b.drop (frontN bInner b + 1))) else none) else some ([], b)
def rs0 (lab : Str) : RS := ⟨lab, 0, 0, [], []⟩
def nameW (s : Str) : Str := s.take (frontN notGap s)
def restW (s : Str) : Str := trim (s.drop (frontN notGap s))
def oneL (s : Str) : Option (Option RS) :=
  if 10 ∈ s then none else
  match labM (bareM s) with
  | none => none
  | some (lab, s') =>
    if s' = [] then (if lab = [] then some none else some (some (rs0 lab)))
    else if (stmtM (nameW s') (restW s') (rs0 lab)).2 = true then some (some (stmtM (nameW s') (restW s') (rs0 lab)).1) else none
def smE (line : Nat) (rs : RS) : List AV := [I (line : Nat), T rs.lab, I (rs.kind : Nat), I (rs.op : Nat), T rs.text, .snap rs.args.length (rs.args.flatMap arE)]
abbrev zS : List AV := [I 0, T [], I 0, I 0, T [], .full 0 []]
theorem bare_len (s : Str) : (bareM s).length ≤ s.length := Nat.le_trans (trim_len _) (cutC_len _ _)
theorem allM_args (l : List Str) (ws : List Way) (rs : RS) : (allM l ws rs).1.args.length ≤ rs.args.length + ws.length := by
  have hg : ∀ (ws : List Way) (l : List Str) (rs : RS), (goW ws l rs).1.args.length ≤ rs.args.length + ws.length := by
    intro ws
    induction ws with
    | nil => intro l rs; simp [goW]
    | cons w ws ih =>
      intro l rs
      cases l with
      | nil => simp [goW]
      | cons s l =>
        have h1 := stepW_len w s rs
        unfold goW
        split
        · have := ih l (stepW w s rs).1; simp; omega
        · simp; omega
  unfold allM
  split
  · exact hg ws l rs
  · simp
theorem asciiM_args (s : Str) (rs : RS) : (asciiM s rs).1.args = rs.args := by unfold asciiM; split <;> rfl
theorem stmtM_args (name rest : Str) (rs : RS) (h0 : rs.args = []) : (stmtM name rest rs).1.args.length ≤ 100 := by
  have ha : ∀ (l : List Str) (ws : List Way) (rs' : RS), rs'.args = [] → ws.length ≤ 100 → (allM l ws rs').1.args.length ≤ 100 := fun l ws rs' h1 h2 => by
    have := allM_args l ws rs'; rw [h1] at this; simp at this; omega
  unfold stmtM
  split
  · rename_i op hop
    refine ha _ _ _ h0 ?_
    have ho := findOp_lt hop
    have := tbl_three tbl[op] (by simp)
    rw [← opKinds_eq ho] at this
    simp; omega
  · split
    · refine ha _ _ _ h0 ?_
      have := idxS_lt name growsL
      have h3 : growsL.length = 3 := rfl
      simp; omega
    · split
      · split
        · exact ha _ _ _ h0 (by simp; omega)
        · show rs.args.length ≤ 100; rw [h0]; simp
      · split
        · rw [asciiM_args]; show rs.args.length ≤ 100; rw [h0]; simp
        · split
          · exact ha _ _ _ h0 (by simp)
          · split
            · exact ha _ _ _ h0 (by simp)
            · rw [h0]; simp
theorem lineOne_sp (hF : FieldsOk) (hI : IndexOk) (hA : AtoiOk) (s : Str) (hs : s.length < 2000000000)
    (k0 : oneL s = none → ∀ h', Fr [] h h' → Q (.tup [.agg zS, B false]) h') (k1 : oneL s = some none → ∀ h', Fr [] h h' → Q (.tup [.agg zS, B true]) h') (k2 : ∀ rs, oneL s = some (some rs) → ∀ h', Fr [] h h' → Q (.tup [.agg (smE 1 rs), B true]) h') : C fn_line_One [T s] h Q := by
  refine ACall.conv ?_
  refine line_One_ok _ _ _ ?_
  unfold line_One
  refine st_new (St.start h) fun q h1 s1 => ?_
  refine indexByte_sp s 10 ?_
  have emem : decide (0 ≤ Lib.indexByte s 10) = decide (10 ∈ s) := by rw [Bool.eq_iff_iff, decide_eq_true_eq, decide_eq_true_eq]; exact indexByte_mem s 10
  refine st_geq ?_
  rw [emem]
  unfold oneL at k0 k1 k2
  refine st_if (fun h10 => ?_) (fun h10 => ?_) <;> simp only [za, zb, zc, zd, ze, zf, zg, zh, zi, u8i, zj, zk, zl] at h10
  · rw [if_pos h10] at k0
    (repeat (first | refine st_loadA ‹_› (.head _) (nle rfl) ?_ | refine st_build rfl ?_ | refine st_store ‹_› .head rfl rfl rfl (nle rfl) fun _ _ => ?_))
    exact conv_no (k0 rfl _ (by assumption : St h [] _ _).fr)
  rw [if_neg h10] at k0 k1 k2
  refine bare_sp s (by omega) fun h2 f2 => ?_
  have s2 := s1.call f2
  have hbl := bare_len s
  generalize bareM s = b at k0 k1 k2 hbl ⊢
  (repeat refine st_build rfl ?_)
  refine st_box2 s2 rfl fun i h3 s3 r3 => ?_
  have r3 : St h2 [] h3 [(i, true, rdO (rs0 []) (.full 0 []))] := r3
  have s3 : St h [] h3 [(i, true, rdO (rs0 []) (.full 0 [])), (q, true, .cells zS)] := s3
  have r0 : RSt h2 h3 i (rs0 []) := ⟨.full 0 [], [], .none 5, r3⟩
  refine front_sp tInner b (by omega) ?_
  have tail : ∀ (lab s' : Str) (h5 : AHeap), s'.length < 3000000000 → RSt h2 h5 i (rs0 lab) → labM b = some (lab, s') → line_One_j25 (T s') (.ptr i 0) (.ptr q 0) h5 (fun r h' => ∃ r2 h2, Conv r h' r2 h2 ∧ Q r2 h2) := by
    intro lab s' h5 hs' r5 hlab
    rw [hlab] at k0 k1 k2
    simp only at k0 k1 k2
    obtain ⟨v5, E5, a5, t5⟩ := r5
    have s5 : St h [] h5 [(q, true, .cells zS)] := s2.call t5.fr
    have r5 : RSt h2 h5 i (rs0 lab) := ⟨v5, E5, a5, t5⟩
    unfold line_One_j25
    (repeat refine st_seq ?_)
    refine st_if (fun hb => ?_) (fun hb => ?_) <;> simp only [za, zb, zc, zd, ze, zf, zg, zh, zi, u8i, zj, zk, zl] at hb
    · rw [if_pos hb] at k0 k1 k2
      (repeat (first | refine st_nil ?_ | refine st_fa ?_))
      refine r5.load (a := T lab) (fun v => rfl) ?_
      (repeat refine st_seq ?_)
      refine st_if (fun hlb => ?_) (fun hlb => ?_) <;> simp only [za, zb, zc, zd, ze, zf, zg, zh, zi, u8i, zj, zk, zl] at hlb
      · rw [if_pos hlb] at k1
        (repeat refine st_build rfl ?_)
        refine st_store s5 .head rfl rfl rfl (nle rfl) fun h6 s6 => ?_
        (repeat refine st_loadA ‹_› (.head _) (nle rfl) ?_)
        exact conv_no (k1 rfl h6 s6.fr)
      · rw [if_neg hlb] at k2
        (repeat (first | refine st_nil ?_ | refine st_fa ?_))
        rcases a5 with ⟨_, _, rfl, rfl⟩ | ⟨hl, j, rfl, rfl⟩
        · refine st_loadA t5 (cs := [I 1, T lab, I 0, I 0, T [], .full 0 []]) (b := true) (.head _) (nle rfl) ?_
          skip
          refine st_store s5 .head rfl rfl rfl (nle rfl) fun h6 s6 => ?_
          (repeat refine st_loadA ‹_› (.head _) (nle rfl) ?_)
          refine ⟨_, _, .wk (Wk.tup (.cons (Wk.agg (.cons (.refl _) (.cons (.refl _) (.cons (.refl _) (.cons (.refl _) (.cons (.refl _) (.cons (.full _ _) .nil))))))) (.cons (.refl _) .nil))) (.refl _ _), ?_⟩
          exact k2 (rs0 lab) rfl h6 s6.fr
        · have s5 := s2.join t5 (by simp)
          refine st_loadA t5 (cs := [I 1, T lab, I 0, I 0, T [], .sl j 0 0 5]) (b := true) (.tail _ (.head _)) (nle rfl) ?_
          skip
          refine st_store (cs := zS) s5 (.tail (.tail .head)) rfl rfl rfl (nle rfl) fun h6 s6 => ?_
          have s6 : St h [] h6 [(j, true, .cells []), (i, true, rdO (rs0 lab) (.sl j 0 0 5)), (q, true, .cells [I 1, T lab, I 0, I 0, T [], .sl j 0 0 5])] := s6
          (repeat refine st_loadA ‹_› (by first | exact .head _ | exact .tail _ (.tail _ (.head _))) (nle rfl) ?_)
          refine ⟨_, _, .frz j [] (s6.get (.head _)) (.refl _ _), ?_⟩
          have := k2 (rs0 lab) rfl _ (s6.kill .head).fr
          simpa [fz, fzL, smE, rs0] using this
    · rw [if_neg hb] at k0 k1 k2
      refine front_sp notGap_sp s' (by omega) ?_
      have hfl := frontN_le notGap s'
      refine st_cutl (by omega) (by omega) ?_
      refine st_cutr (by omega) (by omega) ?_
      rw [Int.toNat_natCast]
      refine trim_sp _ (by simp; omega) fun h6 f6 => ?_
      have r6 := r5.call f6
      have htl := trim_len (s'.drop (frontN notGap s'))
      refine statement_sp hF hI hA (nameW s') (restW s') (by unfold restW; simp at htl; omega) rfl r6 fun h7 r7 => ?_
      have hargs := stmtM_args (nameW s') (restW s') (rs0 lab) rfl
      generalize stmtM (nameW s') (restW s') (rs0 lab) = res at k0 k1 k2 r7 hargs ⊢
      obtain ⟨v7, E7, a7, t7⟩ := r7
      have s7 : St h [] h7 [(q, true, .cells zS)] := s2.call t7.fr
      refine st_not ?_
      refine st_if (fun hr => ?_) (fun hr => ?_)
      · simp only [Bool.not_eq_true'] at hr
        rw [if_neg (by rw [hr]; simp)] at k0
        (repeat refine st_build rfl ?_)
        refine st_store s7 .head rfl rfl rfl (nle rfl) fun h8 s8 => ?_
        (repeat refine st_loadA ‹_› (.head _) (nle rfl) ?_)
        exact conv_no (k0 rfl h8 s8.fr)
      · simp only [Bool.not_eq_false'] at hr
        rw [if_pos hr] at k2
        (repeat (first | refine st_nil ?_ | refine st_fa ?_))
        refine st_load1 t7 (cs := [I 1, T res.1.lab, I (res.1.kind : Nat), I (res.1.op : Nat), T res.1.text, v7]) (b := true) (List.mem_append_right _ (.head _)) rfl ?_
        refine clone_api_Arg_sp (by omega) (a7.rd t7) fun h8 f8 => ?_
        have t8 := (a7.rest t7).call f8
        (repeat (first | refine st_nil ?_ | refine st_fa ?_))
        refine st_store t8 (cs := [I 1, T res.1.lab, I (res.1.kind : Nat), I (res.1.op : Nat), T res.1.text, v7]) .head rfl rfl rfl (nle rfl) fun h9 t9 => ?_
        have t9 : St h2 [] h9 [(i, true, .cells (smE 1 res.1))] := t9
        have s9 : St h [] h9 [(q, true, .cells zS)] := s2.call t9.fr
        (repeat (first | refine st_nil ?_ | refine st_fa ?_))
        refine st_loadA t9 (.head _) (nle rfl) ?_
        skip
        refine st_store s9 .head rfl rfl rfl (nle rfl) fun h10 s10 => ?_
        (repeat refine st_loadA ‹_› (.head _) (nle rfl) ?_)
        exact conv_no (k2 res.1 rfl h10 s10.fr)
  have hn := frontN_le bInner b
  (repeat (first | refine st_lenS ?_ | refine st_lss ?_))
  have nolab : b[frontN bInner b]? ≠ some 58 → line_One_j25 (T b) (.ptr i 0) (.ptr q 0) h3 (fun r h' => ∃ r2 h2, Conv r h' r2 h2 ∧ Q r2 h2) := fun hne => tail [] b h3 (by omega) r0 (by unfold labM; rw [if_neg hne])
  refine st_if (fun hlt => ?_) (fun hlt => ?_) <;> simp only [za, zb, zc, zd, ze, zf, zg, zh, zi, u8i, zj, zk, zl] at hlt
  · have hlt : frontN bInner b < b.length := hlt
    refine st_indexN hlt ?_
    refine st_eql ?_
    have e58 : decide ((b[frontN bInner b].toNat : Int) = 58) = decide (b[frontN bInner b] = 58) := by rw [Bool.eq_iff_iff]; simp [← UInt8.toNat_inj]; omega
    rw [e58]
    refine st_if (fun h58 => ?_) (fun h58 => ?_) <;> simp only [za, zb, zc, zd, ze, zf, zg, zh, zi, u8i, zj, zk, zl] at h58
    · have hl58 : b[frontN bInner b]? = some 58 := by rw [List.getElem?_eq_getElem hlt, h58]
      have hlm : labM b = if isWord (b.take (frontN bInner b)) = true then some (b.take (frontN bInner b), trim (b.drop (frontN bInner b + 1))) else none := by unfold labM; rw [if_pos hl58]
      refine st_cutl (by omega) (by omega) ?_
      rw [Int.toNat_natCast]
      refine Word_sp _ (by simp; omega) ?_
      refine st_not ?_
      refine st_if (fun hw => ?_) (fun hw => ?_)
      · simp only [Bool.not_eq_true'] at hw
        rw [if_neg (by rw [hw]; simp)] at hlm
        rw [hlm] at k0
        (repeat refine st_build rfl ?_)
        refine st_store s3 (.tail .head) rfl rfl rfl (nle rfl) fun h4 s4 => ?_
        (repeat refine st_loadA ‹_› (by first | exact .head _ | exact .tail _ (.head _)) (nle rfl) ?_)
        exact conv_no (k0 rfl h4 s4.fr)
      · simp only [Bool.not_eq_false'] at hw
        rw [if_pos hw] at hlm
        refine st_cutl (by omega) (by omega) ?_
        rw [Int.toNat_natCast]
        refine st_add (by omega) ?_
        refine st_cutr (by omega) (by omega) ?_
        rw [show ((frontN bInner b : Int) + 1).toNat = frontN bInner b + 1 by omega]
        refine trim_sp _ (by simp; omega) fun h4 f4 => ?_
        have r4 := r0.call f4
        (repeat (first | refine st_nil ?_ | refine st_fa ?_))
        refine r4.put (rs' := rs0 (b.take (frontN bInner b))) rfl rfl rfl (by omega) rfl (fun v => rfl) fun h5 r5 => ?_
        have htl := trim_len (b.drop (frontN bInner b + 1))
        exact tail _ _ h5 (by simp at htl; omega) r5 hlm
    · exact nolab (by rw [List.getElem?_eq_getElem hlt]; simpa using h58)
  · exact nolab (by rw [List.getElem?_eq_none (by omega)]; simp)
end
end
end
section
noncomputable section
variable [Tabs]
section
variable {h : AHeap} {Q : QT}
abbrev Sm := Nat × RS
def smF (x : Sm) : List AV := smE x.1 x.2
def stm (x : Str) (i : Nat) : List Sm := match oneL x with
  | some (some rs) => [(i + 1, rs)]
  | _ => []
def badN (x : Str) (i : Nat) : List Nat := match oneL x with
  | none => [i + 1]
  | _ => []
def upTo {α : Type} (f : Str → Nat → List α) (ls : List Str) (n : Nat) : List α := (List.range n).flatMap fun i => f ((ls[i]?).getD []) i
theorem upTo_succ {α : Type} (f : Str → Nat → List α) (ls : List Str) {n : Nat} (h : n < ls.length) : upTo f ls (n + 1) = upTo f ls n ++ f ls[n] n := by
  unfold upTo
  rw [List.range_succ, List.flatMap_append]
  simp [h]
def parseS (s : Str) : List Sm := upTo stm (splitB 10 s) (splitB 10 s).length
def parseB (s : Str) : List Nat := upTo badN (splitB 10 s) (splitB 10 s).length
theorem upTo_len {α : Type} (f : Str → Nat → List α) (hf : ∀ x i, (f x i).length ≤ 1) (ls : List Str) : ∀ n, (upTo f ls n).length ≤ n
  | 0 => by simp [upTo]
  | n + 1 => by
    have ih := upTo_len f hf ls n
    unfold upTo at ih ⊢
    rw [List.range_succ, List.flatMap_append, List.length_append]
    have := hf ((ls[n]?).getD []) n
    simp only [List.flatMap_cons, List.flatMap_nil, List.append_nil]; omega
theorem stm_len (x : Str) (i : Nat) : (stm x i).length ≤ 1 := by unfold stm; split <;> simp
theorem badN_len (x : Str) (i : Nat) : (badN x i).length ≤ 1 := by unfold badN; split <;> simp
abbrev nE (n : Nat) : List AV := [I (n : Nat)]
theorem lineParse_sp (hF : FieldsOk) (hI : IndexOk) (hA : AtoiOk) (s : Str) (hs : s.length < 1000000000) (k : ∀ h', Fr [] h h' → Q (.tup [.snap (parseS s).length ((parseS s).flatMap smF), .snap (parseB s).length ((parseB s).flatMap nE)]) h') : C fn_line_Parse [T s] h Q := by
  refine line_Parse_ok _ _ _ ?_
  unfold line_Parse
  refine split_sp hI 10 s (by omega) fun h1 f1 => ?_
  have hsum := splitB_sum 10 s
  have hlen := splitB_len 10 s
  have hcnt := List.count_le_length (a := 10) (l := s)
  unfold parseS parseB at k
  generalize splitB 10 s = ls at k hsum hlen ⊢
  have RL : ∀ h, Row sE 1 h (.snap ls.length (ls.flatMap fun x => [T x])) ls := fun h => Row.snap (enc := sE) (fun _ => rfl) ls
  (repeat refine st_lenL1 ?_)
  refine st_loop (fun n vs h' => ∃ (j : Nat) (v1 v2 : AV) (E1 E2 : Own), vs = [v1, v2, I (j : Nat)] ∧ n + j = ls.length ∧ AccE 6 v1 (upTo stm ls j).length ((upTo stm ls j).flatMap smF) E1 ∧ AccE 1 v2 (upTo badN ls j).length ((upTo badN ls j).flatMap nE) E2 ∧ St h [] h' (E1 ++ (E2 ++ []))) ls.length ⟨0, .full 0 [], .full 0 [], [], [], rfl, by omega, .none 6, .none 1, (St.start h).call f1⟩ ?_
  rintro n vs h2 ⟨j, v1, v2, E1, E2, rfl, hn, a1, a2, s2⟩
  have hl1 := upTo_len stm stm_len ls j
  have hl2 := upTo_len badN badN_len ls j
  unfold line_Parse_l13
  (repeat refine st_lss ?_)
  refine st_if (fun hb => ?_) (fun hb => ?_) <;> simp only [za, zb, zc, zd, ze, zf, zg, zh, zi, u8i, zj, zk, zl] at hb
  · have hj : j < ls.length := hb
    refine (RL h2).idx (fun _ => rfl) hj fun p t => ?_
    refine st_pload1 t ?_
    have e1 := upTo_succ stm ls hj
    have e2 := upTo_succ badN ls hj
    have hx := hsum _ (List.getElem_mem hj)
    refine lineOne_sp hF hI hA ls[j] (by omega) (fun ho h3 f3 => ?_) (fun ho h3 f3 => ?_) (fun rs ho h3 f3 => ?_)
    · have s3 := s2.call f3
      rw [stm, ho, List.append_nil] at e1
      rw [badN, ho] at e2
      (repeat refine st_ext rfl ?_)
      refine st_new s3 fun q h4 s4 => ?_
      refine st_store s4 .head rfl rfl rfl (nle rfl) fun h5 s5 => ?_
      have s5 := s5.drop1
      (repeat (first | refine st_not ?_ | refine st_add (by omega) ?_ | refine st_buildS rfl rfl ?_))
      refine a2.app s5.swap (xs := nE (j + 1)) (m := 1) (Rd.full rfl) rfl (by omega) fun v' E' h6 a6 s6 => ?_
      unfold line_Parse_b8 line_Parse_b7 line_Parse_j6
      refine st_add (by omega) ?_
      exact ⟨n - 1, by omega, j + 1, v1, v', E1, E', rfl, by omega, by rw [e1]; exact a1, by rw [e2]; simpa using a6, s6.swap⟩
    · have s3 := s2.call f3
      rw [stm, ho, List.append_nil] at e1
      rw [badN, ho, List.append_nil] at e2
      (repeat refine st_ext rfl ?_)
      refine st_new s3 fun q h4 s4 => ?_
      refine st_store s4 .head rfl rfl rfl (nle rfl) fun h5 s5 => ?_
      (repeat (first | refine st_fa ?_ | refine st_not ?_ | refine st_gtr ?_ | refine st_add (by omega) ?_ | refine st_load1 ‹_› (.head _) rfl ?_))
      have s6 := s5.drop1
      exact ⟨n - 1, by omega, j + 1, v1, v2, E1, E2, rfl, by omega, by rw [e1]; exact a1, by rw [e2]; exact a2, s6⟩
    · have s3 := s2.call f3
      rw [stm, ho] at e1
      rw [badN, ho, List.append_nil] at e2
      (repeat refine st_ext rfl ?_)
      refine st_new s3 fun q h4 s4 => ?_
      refine st_store s4 .head rfl rfl rfl (nle rfl) fun h5 s5 => ?_
      (repeat (first | refine st_fa ?_ | refine st_not ?_ | refine st_gtr ?_ | refine st_add (by omega) ?_ | refine st_load1 ‹_› (.head _) rfl ?_))
      refine st_store s5 .head rfl rfl rfl (nle rfl) fun h6 s6 => ?_
      (repeat (first | refine st_loadA ‹_› (.head _) (nle rfl) ?_ | refine st_buildS rfl rfl ?_))
      have s7 := s6.drop1
      refine a1.app s7 (xs := smF (j + 1, rs)) (m := 1) (Rd.full rfl) rfl (by omega) fun v' E' h8 a8 s8 => ?_
      unfold line_Parse_b8 line_Parse_b7 line_Parse_j6
      refine st_add (by omega) ?_
      exact ⟨n - 1, by omega, j + 1, v', v2, E', E2, rfl, by omega, by rw [e1]; simpa using a8, by rw [e2]; exact a2, s8⟩
  · have hj : j = ls.length := by omega
    subst hj
    refine clone_api_Stmt_sp (by omega) (a1.rd s2) fun h3 f3 => ?_
    have s3 := s2.call f3
    refine clone_int_sp (by omega) (a2.rd s3.swap) fun h4 f4 => ?_
    exact k h4 (s3.call f4).fr
end
end
end
section
noncomputable section
abbrev KV := List (List UInt8 × Int)
def lookA (k : List UInt8) : KV → Option Int
  | [] => none
  | (a, v) :: r => if k = a then some v else lookA k r
def putA (k : List UInt8) (v : Int) : KV → KV
  | [] => [(k, v)]
  | (a, w) :: r => if k = a then (k, v) :: r else (a, w) :: putA k v r
def keysA (kv : KV) : List (List UInt8) := kv.map (·.1)
theorem lookA_none {k : List UInt8} : ∀ {kv : KV}, lookA k kv = none ↔ k ∉ keysA kv
  | [] => by simp [lookA, keysA]
  | (a, v) :: r => by
    unfold lookA
    by_cases h : k = a
    · subst h; simp [keysA]
    · rw [if_neg h, lookA_none (kv := r)]; simp [keysA, h]
theorem lookA_mem {k : List UInt8} {v : Int} : ∀ {kv : KV}, (keysA kv).Nodup → (lookA k kv = some v ↔ (k, v) ∈ kv)
  | [], _ => by simp [lookA]
  | (a, w) :: r, nd => by
    simp only [keysA, List.map_cons, List.nodup_cons] at nd
    unfold lookA
    by_cases h : k = a
    · subst h
      rw [if_pos rfl]
      simp only [Option.some.injEq, List.mem_cons, Prod.mk.injEq, true_and]
      constructor
      · intro h; exact .inl h.symm
      · rintro (h | h)
        · exact h.symm
        · exact (nd.1 (List.mem_map.2 ⟨_, h, rfl⟩)).elim
    · rw [if_neg h, lookA_mem (kv := r) nd.2]; simp [h]
theorem putA_cases (k : List UInt8) (v : Int) : ∀ kv : KV, (lookA k kv = none ∧ putA k v kv = kv ++ [(k, v)]) ∨ ∃ A w B, kv = A ++ (k, w) :: B ∧ lookA k kv = some w ∧ k ∉ keysA A ∧ putA k v kv = A ++ (k, v) :: B
  | [] => .inl ⟨rfl, rfl⟩
  | (a, w) :: r => by
    by_cases h : k = a
    · subst h
      exact .inr ⟨[], w, r, rfl, by simp [lookA], by simp [keysA], by simp [putA]⟩
    · rcases putA_cases k v r with ⟨h1, h2⟩ | ⟨A, w', B, rfl, h1, h2, h3⟩
      · exact .inl ⟨by rw [lookA, if_neg h, h1], by rw [putA, if_neg h, h2]; rfl⟩
      · exact .inr ⟨(a, w) :: A, w', B, rfl, by rw [lookA, if_neg h, h1], by simp [keysA, h] at h2 ⊢; exact h2, by rw [putA, if_neg h, h3]; rfl⟩
theorem keysA_putA (k : List UInt8) (v : Int) (kv : KV) : keysA (putA k v kv) = if k ∈ keysA kv then keysA kv else keysA kv ++ [k] := by
  rcases putA_cases k v kv with ⟨h1, h2⟩ | ⟨A, w, B, rfl, h1, h2, h3⟩
  · rw [lookA_none] at h1; rw [if_neg h1, h2]; simp [keysA]
  · rw [h3, if_pos (by simp [keysA])]; simp [keysA]
theorem putA_nodup {k : List UInt8} {v : Int} {kv : KV} (nd : (keysA kv).Nodup) : (keysA (putA k v kv)).Nodup := by
  rw [keysA_putA]
  split
  · exact nd
  · rename_i h
    rw [List.nodup_append]
    exact ⟨nd, by simp, fun a ha b hb e => by simp at hb; subst hb; subst e; exact h ha⟩
theorem lookA_putA (k k' : List UInt8) (v : Int) : ∀ kv : KV, lookA k' (putA k v kv) = if k' = k then some v else lookA k' kv
  | [] => by simp only [putA, lookA]
  | (a, w) :: r => by
    unfold putA
    by_cases h : k = a
    · subst h
      rw [if_pos rfl]
      by_cases h2 : k' = k
      · simp [lookA, h2]
      · simp [lookA, h2]
    · rw [if_neg h]
      by_cases h2 : k' = a
      · subst h2; simp [lookA, Ne.symm h]
      · simp [lookA, h2, lookA_putA k k' v r]
def mapEn : Nat → KV → MEnts
  | _, [] => []
  | n, (k, v) :: r => (.string ⟨⟨k⟩⟩, n, I v) :: mapEn (n + 1) r
abbrev mapO (kv : KV) : AObj := .amap (mapEn 0 kv) kv.length
theorem mapEn_len : ∀ (n : Nat) (kv : KV), (mapEn n kv).length = kv.length
  | _, [] => rfl
  | n, (k, v) :: r => by simp [mapEn, mapEn_len]
theorem mapEn_get : ∀ (n : Nat) (kv : KV) (j : Nat) (hj : j < kv.length), (mapEn n kv)[j]? = some (.string ⟨⟨kv[j].1⟩⟩, n + j, I kv[j].2)
  | n, [], j, hj => by simp at hj
  | n, (k, v) :: r, 0, _ => by simp [mapEn]
  | n, (k, v) :: r, j + 1, hj => by
    simp only [mapEn, List.getElem?_cons_succ]
    rw [mapEn_get (n + 1) r j (by simpa using hj)]
    simp; omega
theorem mapEn_kOk : ∀ (n : Nat) (kv : KV), (mapEn n kv).all (fun e => kOk .string e.1) = true
  | _, [] => rfl
  | n, (k, v) :: r => by rw [mapEn, List.all_cons, mapEn_kOk (n + 1) r]; rfl
theorem mapEn_one : ∀ (n : Nat) (kv : KV), (mapEn n kv).all (fun e => e.1.oneCell') = true
  | _, [] => rfl
  | n, (k, v) :: r => by rw [mapEn, List.all_cons, mapEn_one (n + 1) r]; rfl
theorem mapEn_append : ∀ (n : Nat) (a b : KV), mapEn n (a ++ b) = mapEn n a ++ mapEn (n + a.length) b
  | n, [], b => by simp [mapEn]
  | n, (k, v) :: r, b => by
    simp only [List.cons_append, mapEn, mapEn_append (n + 1) r b, List.length_cons]
    rw [show n + 1 + r.length = n + (r.length + 1) by omega]
section
variable [Tabs]
theorem keq_str (a b : List UInt8) : keq (.string ⟨⟨a⟩⟩) (.string ⟨⟨b⟩⟩) = decide (a = b) := by
  rw [Bool.eq_iff_iff, decide_eq_true_eq]
  constructor
  · intro h
    have := keq_eq (d := .string) (a := .string ⟨⟨a⟩⟩) (b := .string ⟨⟨b⟩⟩) rfl rfl h
    injection this with h; injection h with h; injection h
  · rintro rfl
    obtain ⟨r, h1, h2⟩ := Go.MapKept.sameNow_of_keys (a := .string ⟨⟨a⟩⟩) (b := .string ⟨⟨a⟩⟩) (d := .string) (kOk_isKey rfl) (kOk_isKey rfl)
    rw [keq_same rfl rfl] at h1
    cases h1
    exact h2.2 rfl
theorem mfind_mapEn (k : List UInt8) : ∀ (n i : Nat) (kv : KV), (mfind (.string ⟨⟨k⟩⟩) (mapEn n kv) i = none ∧ lookA k kv = none) ∨ ∃ j, ∃ hj : j < kv.length, mfind (.string ⟨⟨k⟩⟩) (mapEn n kv) i = some (i + j, n + j, I kv[j].2) ∧ kv[j].1 = k ∧ lookA k kv = some kv[j].2 ∧ ∀ q (hq : q < j), (kv[q]'(by omega)).1 ≠ k
  | n, i, [] => .inl ⟨rfl, rfl⟩
  | n, i, (a, v) :: r => by
    unfold mapEn mfind
    rw [keq_str]
    by_cases h : k = a
    · subst h
      exact .inr ⟨0, by simp, by simp, rfl, by simp [lookA], fun q hq => by omega⟩
    · rw [if_neg (by simpa using h)]
      rcases mfind_mapEn k (n + 1) (i + 1) r with ⟨h1, h2⟩ | ⟨j, hj, h1, h2, h3, h4⟩
      · exact .inl ⟨h1, by rw [lookA, if_neg h, h2]⟩
      · refine .inr ⟨j + 1, by simpa using hj, ?_, by simpa using h2, by rw [lookA, if_neg h, h3]; simp, fun q hq => ?_⟩
        · rw [h1]; simp; omega
        · cases q with
          | zero => simpa using Ne.symm h
          | succ q => simpa using h4 q (by omega)
theorem mapEn_set : ∀ (n : Nat) (kv : KV) (j : Nat) (k : List UInt8) (v : Int), j < kv.length → (mapEn n kv).set j (.string ⟨⟨k⟩⟩, n + j, I v) = mapEn n (kv.set j (k, v))
  | n, [], j, k, v, h => by simp at h
  | n, (a, w) :: r, 0, k, v, h => by simp [mapEn]
  | n, (a, w) :: r, j + 1, k, v, h => by
    simp only [mapEn, List.set_cons_succ]
    rw [← mapEn_set (n + 1) r j k v (by simpa using h)]
    rw [show n + 1 + j = n + (j + 1) by omega]
theorem putA_set (k : List UInt8) (v : Int) : ∀ (kv : KV) (j : Nat) (hj : j < kv.length), kv[j].1 = k → (∀ q (hq : q < j), (kv[q]'(by omega)).1 ≠ k) → putA k v kv = kv.set j (k, v)
  | [], j, hj, _, _ => by simp at hj
  | (a, w) :: r, 0, hj, h1, _ => by
    simp at h1; subst h1; simp [putA]
  | (a, w) :: r, j + 1, hj, h1, h2 => by
    have ha : k ≠ a := fun e => h2 0 (by omega) (by simpa using e.symm)
    rw [putA, if_neg ha, List.set_cons_succ, putA_set k v r j (by simpa using hj) (by simpa using h1) fun q hq => by simpa using h2 (q + 1) (by omega)]
theorem putA_none {k : List UInt8} {v : Int} {kv : KV} (h : lookA k kv = none) : putA k v kv = kv ++ [(k, v)] := by
  rcases putA_cases k v kv with ⟨_, h2⟩ | ⟨A, w, B, _, h1, _, _⟩
  · exact h2
  · rw [h] at h1; cases h1
theorem mput_mapO (k : List UInt8) (v : Int) (kv : KV) : mput (.string ⟨⟨k⟩⟩) (I v) kv.length (mapEn 0 kv) = mapO (putA k v kv) := by
  unfold mput
  rcases mfind_mapEn k 0 0 kv with ⟨h1, h2⟩ | ⟨j, hj, h1, h2, h3, h4⟩
  · rw [h1, putA_none h2]
    simp [mapEn_append, mapEn]
  · rw [h1, putA_set k v kv j hj h2 h4]
    simp only [Nat.zero_add]
    have := mapEn_set 0 kv j k v hj
    rw [Nat.zero_add] at this
    rw [this]; simp
end
section
variable [Tabs]
variable {h0 h : AHeap} {M : List Nat} {L L' : Own} {K : AV → Prop} {KH : QT} {KS : AHeap → Prop}
theorem st_lookup {j : Nat} {kv : KV} {k : Str} (e : h[j]? = some (mapO kv)) (q : K (.tup [I ((lookA k kv).getD 0), B (lookA k kv).isSome])) : qLookup .string true (I 0) (.map j) (T k) h K := ⟨by
  simp only [pLookup, e]
  rw [if_pos (by rw [mapEn_kOk]; rfl)]
  rcases mfind_mapEn k 0 0 kv with ⟨h1, h2⟩ | ⟨j, hj, h1, h2, h3, h4⟩
  · rw [h1]; rw [h2] at q; exact q
  · rw [h1]; rw [h3] at q; exact q⟩
theorem st_lookup0 {j : Nat} {kv : KV} {k : Str} (e : h[j]? = some (mapO kv)) (q : K (I ((lookA k kv).getD 0))) : qLookup .string false (I 0) (.map j) (T k) h K := ⟨by
  simp only [pLookup, e]
  rw [if_pos (by rw [mapEn_kOk]; rfl)]
  rcases mfind_mapEn k 0 0 kv with ⟨h1, h2⟩ | ⟨j, hj, h1, h2, h3, h4⟩
  · rw [h1]; rw [h2] at q; exact q
  · rw [h1]; rw [h3] at q; exact q⟩
theorem st_mapUpd {j : Nat} {kv : KV} {k : Str} {v : Int} (s : St h0 M h L) (u : Sub L (j, true, mapO kv) L' (j, true, mapO (putA k v kv))) (q : ∀ h', St h0 M h' L' → KS h') : qMapUpdate .string (.map j) (T k) (I v) h KS := ⟨by
  simp only [eMapUpdate, s.get u.mem]
  rw [if_pos (by rw [mapEn_kOk]; rfl), mput_mapO]
  exact q _ (s.turn u)⟩
theorem st_mapIns {j : Nat} {kv : KV} {k : Str} {v : Int} (s : St h0 M h L) (hn : lookA k kv = none) (u : Sub L (j, true, mapO kv) L' (j, true, mapO (putA k v kv))) (q : ∀ h', St h0 M h' L' → KS h') :
    qMapEntry .string (I 0) (.map j) (T k) h fun t131 h18 => qExtract 1 t131 fun t132 => qEntryStore (.map j) t132 (I v) h18 fun h19 => KS h19 := ⟨by
  simp only [eMapEntry, s.get u.mem]
  rw [if_pos (by rw [mapEn_kOk]; rfl)]
  rcases mfind_mapEn k 0 0 kv with ⟨h1, _⟩ | ⟨j, hj, _, _, h3, _⟩
  · rw [h1]
    refine st_ext rfl ⟨?_⟩
    have hj := lt_of_some (s.get u.mem)
    simp only [eEntryStore, List.getElem?_set_self hj]
    have hb : ∀ (n i : Nat) (kv : KV) (m : Nat), m = n + kv.length → bornAt (m : Int) (mapEn n kv ++ [(.string ⟨⟨k⟩⟩, m, I 0)]) i = some (i + kv.length, .string ⟨⟨k⟩⟩, m) := by
      intro n i kv
      induction kv generalizing n i with
      | nil => intro m hm; simp [mapEn, bornAt]
      | cons x r ih =>
        intro m hm
        simp only [mapEn, List.cons_append, bornAt]
        rw [if_neg (by simp at hm ⊢; omega), ih (n + 1) (i + 1) m (by simp at hm; omega)]
        simp; omega
    rw [hb 0 0 kv kv.length (by omega)]
    simp only [Nat.zero_add, List.set_set]
    have e1 : (mapEn 0 kv ++ [(Value.string ⟨⟨k⟩⟩, kv.length, I 0)]).set kv.length (.string ⟨⟨k⟩⟩, kv.length, I v) = mapEn 0 (kv ++ [(k, v)]) := by
      rw [List.set_append_right _ _ (by rw [mapEn_len]; omega), mapEn_append, mapEn_len]; simp [mapEn]
    rw [e1]
    have e2 : AObj.amap (mapEn 0 (kv ++ [(k, v)])) (kv.length + 1) = mapO (putA k v kv) := by rw [putA_none hn]; simp
    rw [e2]
    exact q _ (s.turn u)
  · rw [hn] at h3; cases h3⟩
abbrev iterO (j : Nat) (kv : KV) (seen : List Nat) : AObj := .miter (some j) kv.length seen kv.length
theorem st_rangeM {j : Nat} {kv : KV} (s : St h0 M h L) (e : h[j]? = some (mapO kv)) (k : ∀ i h', St h0 M h' ((i, true, iterO j kv []) :: L) → KH (.ptr i 0) h') : qRangeM (.map j) h KH := ⟨by
  simp only [eRangeM, e]
  exact k _ _ (s.push _)⟩
theorem st_nextM {j i : Nat} {kv : KV} {seen : List Nat} (s : St h0 M h ((i, true, iterO j kv seen) :: L)) (e : h[j]? = some (mapO kv)) (k0 : (∀ q, q < kv.length → q ∈ seen) → KH (.tup [B false]) h)
    (k1 : ∀ q (hq : q < kv.length), q ∉ seen → ∀ h', St h0 M h' ((i, true, iterO j kv (seen ++ [q])) :: L) → KH (.tup [B true, T kv[q].1, I kv[q].2]) h') : qNextM (.ptr i 0) h KH := ⟨by
  have hm : ∀ x ∈ mapEn 0 kv, ∃ q, ∃ hq : q < kv.length, x = (.string ⟨⟨kv[q].1⟩⟩, q, I kv[q].2) := by
    intro x hx
    obtain ⟨q, hq⟩ := List.getElem?_of_mem hx
    have hlt : q < kv.length := by rw [← mapEn_len 0 kv]; exact (List.getElem?_eq_some_iff.1 hq).1
    rw [mapEn_get 0 kv q hlt, Nat.zero_add] at hq
    exact ⟨q, hlt, by cases hq; rfl⟩
  have hin : ∀ q (hq : q < kv.length), (Value.string ⟨⟨kv[q].1⟩⟩, q, I kv[q].2) ∈ mapEn 0 kv := fun q hq => by
    have := mapEn_get 0 kv q hq
    rw [Nat.zero_add] at this
    exact List.mem_of_getElem? this
  simp only [eNextM, s.get (.head _), e]
  refine ⟨⟨mapEn_one 0 kv, ?_⟩, fun hall => k0 fun q hq => ?_, fun x hx hn => ?_⟩
  · cases kv with
    | nil => simp [mapEn]
    | cons x r => simp [mapEn]
  · rcases hall _ (hin q hq) with h | h
    · exact h
    · simp at h; omega
  · obtain ⟨q, hq, rfl⟩ := hm x hx
    exact k1 q hq hn _ (s.turn .head)⟩
theorem st_entryM {j i : Nat} {b : Bool} {kv : KV} {seen : List Nat} {q : Nat} (s : St h0 M h L) (u : (i, b, iterO j kv (seen ++ [q])) ∈ L) (e : h[j]? = some (mapO kv)) (hq : q < kv.length) (k : K (.tup [T kv[q].1, I kv[q].2])) : qEntry (.ptr i 0) h K := ⟨by
  have hb : ∀ (n : Nat) (kv : KV) (q : Nat) (hq : q < kv.length), bornFind (n + q) (mapEn n kv) = some (.string ⟨⟨kv[q].1⟩⟩, I kv[q].2) := by
    intro n kv
    induction kv generalizing n with
    | nil => intro q hq; simp at hq
    | cons x r ih =>
      intro q hq
      simp only [mapEn, bornFind]
      cases q with
      | zero => simp
      | succ q =>
        rw [if_neg (by simp)]
        have := ih (n + 1) q (by simpa using hq)
        rw [show n + 1 + q = n + (q + 1) by omega] at this
        simpa using this
  simp only [pEntry, s.get u, e, List.getLast?_concat]
  have := hb 0 kv q hq
  rw [Nat.zero_add] at this
  rw [this]
  simp only
  rw [if_pos (by simp [Value.oneCell'])]
  exact k⟩
end
end
end
section
noncomputable section
def evalF (here : Int) (look : Str → Option Int) : Ex → Ev
  | .none => (0, 6)
  | .num n => boundM n
  | .name s => match look s with
    | some y => boundM y
    | none => (0, 4)
  | .here => boundM here
  | .neg e => if (evalF here look e).2 ≠ 0 then (0, (evalF here look e).2) else boundM (-(evalF here look e).1)
  | .bin k a b => if (evalF here look a).2 ≠ 0 then (0, (evalF here look a).2) else if (evalF here look b).2 ≠ 0 then (0, (evalF here look b).2) else bothM k (evalF here look a).1 (evalF here look b).1
theorem mem_addN {o : List Str} {n x : Str} : x ∈ addN o n ↔ x ∈ o ∨ x = n := by
  unfold addN
  split
  · rename_i h
    simp only [List.any_eq_true, decide_eq_true_eq, exists_eq_right'] at h
    constructor
    · exact .inl
    · rintro (h1 | rfl)
      · exact h1
      · exact h
  · simp
theorem mem_foldN {x : Str} : ∀ {l o : List Str}, x ∈ l.foldl addN o ↔ x ∈ o ∨ x ∈ l
  | [], o => by simp
  | n :: l, o => by rw [List.foldl_cons, mem_foldN (l := l), mem_addN]; simp [or_assoc]
def inE (x : Str) : Ex → Prop
  | .name s => x = s
  | .neg e => inE x e
  | .bin _ a b => inE x a ∨ inE x b
  | _ => False
theorem mem_names {x : Str} : ∀ {e : Ex}, x ∈ namesM e ↔ inE x e
  | .none => by simp [namesM, inE]
  | .num _ => by simp [namesM, inE]
  | .here => by simp [namesM, inE]
  | .name s => by simp [namesM, inE]
  | .neg e => by simp only [namesM, mem_foldN, inE, mem_names (e := e)]; simp
  | .bin k a b => by simp only [namesM, mem_foldN, inE, mem_names (e := a), mem_names (e := b)]; simp
theorem evalM_F {here : Int} {syms : List Sy} {look : Str → Option Int} : ∀ {e : Ex}, (∀ s, inE s e → (syms.find? fun y => decide (y.1 = s)).map (·.2) = look s) → evalM here syms e = evalF here look e
  | .none, _ => rfl
  | .num _, _ => rfl
  | .here, _ => rfl
  | .name s, h => by
    unfold evalM evalF
    rw [← h s rfl]
    cases syms.find? fun y => decide (y.1 = s) <;> rfl
  | .neg e, h => by unfold evalM evalF; rw [evalM_F (e := e) fun s hs => h s hs]
  | .bin k a b, h => by unfold evalM evalF; rw [evalM_F (e := a) fun s hs => h s (.inl hs), evalM_F (e := b) fun s hs => h s (.inr hs)]
def known (look : Str → Option Int) (l : List Str) : List Sy := l.filterMap fun n => (look n).map fun v => (n, v)
theorem find_known (look : Str → Option Int) (s : Str) : ∀ l : List Str, s ∈ l → ((known look l).find? fun y => decide (y.1 = s)).map (·.2) = look s
  | [], h => by simp at h
  | n :: l, h => by
    unfold known
    rw [List.filterMap_cons]
    by_cases hs : n = s
    · subst hs
      cases hl : look n with
      | some v => simp
      | none =>
        simp only [Option.map_none]
        have hn : ∀ y ∈ l.filterMap fun n => (look n).map fun v => (n, v), ¬ (decide (y.1 = n) = true) := by
          intro y hy hd
          rw [List.mem_filterMap] at hy
          obtain ⟨m, _, hm⟩ := hy
          cases hlm : look m with
          | none => rw [hlm] at hm; cases hm
          | some w => rw [hlm] at hm; cases hm; simp at hd; subst hd; rw [hl] at hlm; cases hlm
        rw [List.find?_eq_none.2 hn]; rfl
    · have hm : s ∈ l := by simpa [Ne.symm hs] using h
      have ih := find_known look s l hm
      unfold known at ih
      cases hl : look n with
      | none => simpa using ih
      | some v => simp only [Option.map_some]; rw [List.find?_cons_of_neg (by simpa using hs)]; exact ih
theorem known_len (look : Str → Option Int) (l : List Str) : (known look l).length ≤ l.length := List.length_filterMap_le _ _
theorem known_succ (look : Str → Option Int) (l : List Str) {j : Nat} (h : j < l.length) : known look (l.take (j + 1)) = known look (l.take j) ++ (match look l[j] with | some v => [(l[j], v)] | none => []) := by
  unfold known
  rw [List.take_succ_eq_append_getElem h, List.filterMap_append]
  congr 1
  cases hl : look l[j] <;> simp [hl]
section
variable [Tabs]
def MapAt (h : AHeap) (j : Nat) (f : Str → Option Int) : Prop := ∃ kv, h[j]? = some (mapO kv) ∧ (keysA kv).Nodup ∧ ∀ k, lookA k kv = f k
theorem MapAt.fr {h h' : AHeap} {j : Nat} {f : Str → Option Int} (m : MapAt h j f) (g : Fr [] h h') : MapAt h' j f := by
  obtain ⟨kv, h1, h2⟩ := m
  exact ⟨kv, g.get h1 (by simp), h2⟩
variable {h : AHeap} {Q : QT} {K : AV → Prop}
theorem MapAt.look {j : Nat} {f : Str → Option Int} (m : MapAt h j f) {k : Str} (q : K (.tup [I ((f k).getD 0), B (f k).isSome])) : qLookup .string true (I 0) (.map j) (T k) h K := by
  obtain ⟨kv, h1, _, h2⟩ := m
  exact st_lookup h1 (by rw [h2]; exact q)
theorem MapAt.look0 {j : Nat} {f : Str → Option Int} (m : MapAt h j f) {k : Str} (q : K (I ((f k).getD 0))) : qLookup .string false (I 0) (.map j) (T k) h K := by
  obtain ⟨kv, h1, _, h2⟩ := m
  exact st_lookup0 h1 (by rw [h2]; exact q)
theorem asmEval_sp {e : Ex} (ho : okE e) (hz : sizeE e < 1000000) (here : Int) {j : Nat} {f : Str → Option Int} (m : MapAt h j f) (k : ∀ h', Fr [] h h' → Q (evV (evalF here f e)) h') : C fn_asm_eval [.agg (encE e), I here, .map j] h Q := by
  refine asm_eval_ok _ _ _ _ _ ?_
  unfold asm_eval
  refine st_box (St.start h) rfl fun i h1 s1 => ?_
  have s1 : St h [] h1 [(i, true, .cells (encE e))] := s1
  refine st_get4 s1 (encE_len _) (.head _) ?_
  refine names_sp (sizeE e) e ho (Nat.le_refl _) (by omega) h1 _ fun h2 f2 => ?_
  have s2 := s1.call f2
  have hnl := namesM_len e
  have RN2 : ∀ h, Row sE 1 h (.snap (namesM e).length ((namesM e).flatMap sE)) (namesM e) := fun h => Row.snap (enc := sE) (fun _ => rfl) _
  have hkn : evalM here (known f (namesM e)) e = evalF here f e := evalM_F fun s hs => find_known f s _ (mem_names.2 hs)
  generalize namesM e = ns at RN2 hnl hkn ⊢
  (repeat refine st_lenL1 ?_)
  refine st_loop (fun n vs h' => ∃ (q : Nat) (v : AV) (E : Own), vs = [v, I (q : Nat)] ∧ n + q = ns.length ∧ AccE 2 v (known f (ns.take q)).length ((known f (ns.take q)).flatMap syE) E ∧ St h [] h' (E ++ [(i, true, .cells (encE e))])) ns.length ⟨0, .full 0 [], [], rfl, by omega, .none 2, s2⟩ ?_
  rintro n vs h3 ⟨q, v, E, rfl, hn, a, s3⟩
  have hle := known_len f (ns.take q)
  rw [List.length_take] at hle
  unfold asm_eval_l7
  (repeat refine st_lss ?_)
  refine st_if (fun hb => ?_) (fun hb => ?_) <;> simp only [za, zb, zc, zd, ze, zf, zg, zh, zi, u8i, zj, zk, zl] at hb
  · have hq : q < ns.length := hb
    refine (RN2 h3).idx (fun _ => rfl) hq fun p t => ?_
    refine st_pload1 t ?_
    refine (m.fr s3.fr).look ?_
    (repeat refine st_ext rfl ?_)
    have hs := known_succ f ns hq
    cases hf : f ns[q] with
    | none =>
      rw [hf, List.append_nil] at hs
      refine st_if (fun h => by cases h) (fun _ => ?_)
      unfold asm_eval_b5 asm_eval_j4
      refine st_add (by omega) ?_
      exact ⟨n - 1, by omega, q + 1, v, E, rfl, by omega, by rw [hs]; exact a, s3⟩
    | some y =>
      rw [hf] at hs
      refine st_if (fun _ => ?_) (fun h => by cases h)
      (repeat (first | refine st_build rfl ?_ | refine st_buildS rfl rfl ?_))
      refine a.app s3 (xs := syE (ns[q], y)) (m := 1) (Rd.full rfl) rfl (by omega) fun v3 E3 h8 a3 s8 => ?_
      unfold asm_eval_b5 asm_eval_j4
      refine st_add (by omega) ?_
      exact ⟨n - 1, by omega, q + 1, v3, E3, rfl, by omega, by rw [hs]; simpa using a3, s8⟩
  · rw [List.take_of_length_le (by omega)] at a
    refine st_get4 (a.rest s3) (encE_len _) (.head _) ?_
    have hl2 := known_len f ns
    refine eval_sp here (known f ns) (by omega) e ho h3 _ (a.rd s3) fun h4 f4 => ?_
    have s4 := s3.call f4
    rw [hkn]
    (repeat refine st_ext rfl ?_)
    exact k h4 s4.fr
def hereM : Ex → Bool
  | .here => true
  | .neg e => hereM e
  | .bin _ a b => hereM a || hereM b
  | _ => false
theorem here_sp : ∀ (e : Ex), okE e → ∀ (h : AHeap) (Q : QT), (∀ h', Fr [] h h' → Q (B (hereM e)) h') → C fn_asm_here [.agg (encE e)] h Q := by
  have hind : ∀ n (e : Ex), sizeE e ≤ n → okE e → ∀ (h : AHeap) (Q : QT), (∀ h', Fr [] h h' → Q (B (hereM e)) h') → C fn_asm_here [.agg (encE e)] h Q := by
    intro n
    induction n with
    | zero => intro e he; cases e <;> simp [sizeE] at he
    | succ n ih =>
      intro e he ho h Q k
      refine asm_here_ok _ _ _ ?_
      unfold asm_here
      refine st_box (St.start h) rfl fun i h1 s1 => ?_
      have s1 : St h [] h1 [(i, true, .cells (encE e))] := s1
      have hcl : (childs e).length ≤ 2 := by cases e <;> simp [childs]
      have rest : hereM e = (childs e).any hereM → C fn_slices_ContainsFunc__api_Expr_api_Expr [((encE e)[3]'(by rw [encE_len]; omega)), (.fn (.func fn_asm_here) [] [])] h1 Q := fun he2 => by
        refine containsFunc_api_Expr_sp encE_len _ hereM (childs e) (by omega) (row_childs e h1) (fun x hx h' Q f' k' => ?_) fun h2 f2 => ?_
        · show ACall Pg fn_asm_here _ _ _
          have := childs_small hx
          exact ih x (by omega) (okE_childs ho hx) h' Q k'
        · rw [← he2]; exact k h2 (s1.call f2).fr
      cases e with
      | here =>
        refine st_fa (st_load1 s1 (.head _) rfl (st_eql (st_if (fun _ => ?_) (fun h => absurd h (by decide)))))
        exact k h1 s1.fr
      | none =>
        refine st_fa (st_load1 s1 (.head _) rfl (st_eql (st_if (fun h => absurd h (by decide)) (fun _ => ?_))))
        exact st_fa (st_load1 s1 (.head _) rfl (rest rfl))
      | num m =>
        refine st_fa (st_load1 s1 (.head _) rfl (st_eql (st_if (fun h => absurd h (by decide)) (fun _ => ?_))))
        exact st_fa (st_load1 s1 (.head _) rfl (rest rfl))
      | name s =>
        refine st_fa (st_load1 s1 (.head _) rfl (st_eql (st_if (fun h => absurd h (by decide)) (fun _ => ?_))))
        exact st_fa (st_load1 s1 (.head _) rfl (rest rfl))
      | neg e =>
        refine st_fa (st_load1 s1 (.head _) rfl (st_eql (st_if (fun h => absurd h (by decide)) (fun _ => ?_))))
        exact st_fa (st_load1 s1 (.head _) rfl (rest (by simp [hereM, childs])))
      | bin k a b =>
        have hk2 := ho.1
        refine st_fa (st_load1 s1 (.head _) rfl (st_eql (st_if (fun h => absurd h (by simp; omega)) (fun _ => ?_))))
        exact st_fa (st_load1 s1 (.head _) rfl (rest (by simp [hereM, childs])))
  exact fun e => hind _ e (Nat.le_refl _)
end
end
end
section
noncomputable section
structure En where
  frag : Str
  x : Sm
  place : Int
  grown : Bool
def enE (e : En) : List AV := [T e.frag, I (e.x.1 : Nat), T e.x.2.lab, I (e.x.2.kind : Nat), I (e.x.2.op : Nat), T e.x.2.text, .snap e.x.2.args.length (e.x.2.args.flatMap arE), I e.place, B e.grown]
abbrev iE (v : Int) : List AV := [I v]
def lastA (e : En) : Ar := e.x.2.args.getLast?.getD ⟨-1, .none⟩
abbrev lastE (e : En) : Ex := (lastA e).e
abbrev shortN (n : Nat) : Str := ([[115, 101, 95, 98], [115, 101, 95, 98, 108], [115, 101, 95, 98, 99]][n]?).getD []
abbrev greatN (n : Nat) : Str := ([[101, 95, 98], [101, 95, 98, 108], [101, 95, 98, 99]][n]?).getD []
def shortOp (n : Nat) : Nat := (findOp (shortN n)).getD 0
def greatOp (n : Nat) : Nat := (findOp (greatN n)).getD 0
def instOp (e : En) : Nat := if e.x.2.kind = 1 then e.x.2.op else if e.grown then greatOp e.x.2.op else shortOp e.x.2.op
structure WfS (x : RS) : Prop where
  inst : x.kind = 1 → x.op < tbl.length ∧ (flds (opKinds x.op)).length ≤ x.args.length
  grow : x.kind = 2 → x.op < 3 ∧ (flds (opKinds (shortOp x.op))).length ≤ x.args.length ∧ (flds (opKinds (greatOp x.op))).length ≤ x.args.length
  data : 3 ≤ x.kind → x.kind ≠ 6 → x.args ≠ []
  kind : x.kind ≤ 9
  args : x.args.length < 1000000000
  text : x.text.length < 1000000000
  arg : ∀ a ∈ x.args, okE a.e ∧ sizeE a.e < 1000000 ∧ a.reg < 1000
theorem wf_op {e : En} (w : WfS e.x.2) (hk : e.x.2.kind = 1 ∨ e.x.2.kind = 2) : instOp e < tbl.length ∧ (flds (opKinds (instOp e))).length ≤ e.x.2.args.length := by
  unfold instOp
  rcases hk with hk | hk
  · rw [if_pos hk]; exact w.inst hk
  · rw [if_neg (by omega)]
    obtain ⟨h1, h2, h3⟩ := w.grow hk
    have hs : ∀ n, n < 3 → greatOp n < tbl.length ∧ shortOp n < tbl.length := by decide
    split
    · exact ⟨(hs _ h1).1, h3⟩
    · exact ⟨(hs _ h1).2, h2⟩
theorem wf_last {e : En} (w : WfS e.x.2) (h : e.x.2.args ≠ []) : okE (lastE e) ∧ sizeE (lastE e) < 1000000 := by
  have hl : lastA e ∈ e.x.2.args := by
    unfold lastA
    rw [List.getLast?_eq_some_getLast h]
    exact List.getLast_mem h
  exact ⟨(w.arg _ hl).1, (w.arg _ hl).2.1⟩
section
variable [Tabs]
variable {h : AHeap} {Q : QT} {K : AV → Prop}
theorem args_row (e : En) (h : AHeap) : Row arE 5 h (.snap e.x.2.args.length (e.x.2.args.flatMap arE)) e.x.2.args := Row.snap arE_len _
theorem last_sp {e : En} {p : Nat} (hp : h[p]? = some (.cells (enE e))) (w : WfS e.x.2) (hn : e.x.2.args ≠ []) (k : ∀ h', Fr [] h h' → Q (.agg (encE (lastE e))) h') : C fn_asm_entry_last [.ptr p 0] h Q := by
  refine asm_entry_last_ok _ _ _ ?_
  unfold asm_entry_last
  refine st_new (St.startr hp) fun i h1 s1 => ?_
  unfold enE at s1
  have hl : 0 < e.x.2.args.length := List.length_pos_iff.2 hn
  have hal := w.args
  (repeat (first | refine st_nil ?_ | refine st_fa ?_ | refine st_lenL1 ?_ | refine st_sub (by omega) ?_ | refine st_load1 ‹_› (by first | exact .head _ | exact .tail _ (.head _)) rfl ?_))
  rw [show ((e.x.2.args.length : Nat) : Int) - 1 = ((e.x.2.args.length - 1 : Nat) : Int) by omega]
  refine (args_row e h1).idx arE_len (by omega) fun q t => ?_
  refine st_pfa t (by rw [arE_len]; omega) fun q2 t2 => ?_
  have ha : (arE (e.x.2.args[e.x.2.args.length - 1]'(by omega))).drop 1 = encE (lastE e) := by
    unfold lastE lastA
    rw [List.getLast?_eq_getElem?, List.getElem?_eq_getElem (by omega)]; rfl
  rw [ha] at t2
  refine st_ploadAll t2 (encE_len _).symm ?_
  refine st_put4 s1 rfl (encE_len _) (encE_one _) .head fun h5 s5 => ?_
  refine st_get4 s5 (encE_len _) (.head _) ?_
  exact k h5 s5.fr
theorem op_sp (s : Str) (k : ∀ h', Fr [] h h' → Q (I (((findOp s).getD 0 : Nat) : Int)) h') : C fn_asm_op [T s] h Q := by
  refine asm_op_ok _ _ _ ?_
  unfold asm_op
  refine find_sp s fun h1 f1 => ?_
  (repeat refine st_ext rfl ?_)
  exact k h1 f1
theorem short_sp {n : Nat} (hn : n < 3) (k : ∀ h', Fr [] h h' → Q (I (shortOp n : Nat)) h') : C fn_asm_short [I (n : Nat)] h Q := by
  refine asm_short_ok _ _ _ ?_
  unfold asm_short
  (repeat refine st_buildS rfl rfl ?_)
  refine (Row.full (h := h) (enc := sE) (fun _ => rfl) [[115, 101, 95, 98], [115, 101, 95, 98, 108], [115, 101, 95, 98, 99]]).idx (fun _ => rfl) hn fun q t => ?_
  refine st_pload1 t ?_
  refine op_sp _ fun h1 f1 => ?_
  have := k h1 f1
  unfold shortOp shortN at this
  rw [List.getElem?_eq_getElem (by simpa using hn)] at this
  exact this
theorem great_sp {n : Nat} (hn : n < 3) (k : ∀ h', Fr [] h h' → Q (I (greatOp n : Nat)) h') : C fn_asm_great [I (n : Nat)] h Q := by
  refine asm_great_ok _ _ _ ?_
  unfold asm_great
  (repeat refine st_buildS rfl rfl ?_)
  refine (Row.full (h := h) (enc := sE) (fun _ => rfl) [[101, 95, 98], [101, 95, 98, 108], [101, 95, 98, 99]]).idx (fun _ => rfl) hn fun q t => ?_
  refine st_pload1 t ?_
  refine op_sp _ fun h1 f1 => ?_
  have := k h1 f1
  unfold greatOp greatN at this
  rw [List.getElem?_eq_getElem (by simpa using hn)] at this
  exact this
theorem inst_sp {e : En} {p : Nat} (hp : h[p]? = some (.cells (enE e))) (w : WfS e.x.2) (hk : e.x.2.kind = 1 ∨ e.x.2.kind = 2) (k : ∀ h', Fr [] h h' → Q (.agg [I (instOp e : Nat), .full 0 []]) h') : C fn_asm_entry_inst [.ptr p 0] h Q := by
  refine asm_entry_inst_ok _ _ _ ?_
  unfold asm_entry_inst
  refine st_new (St.startr hp) fun i h1 s1 => ?_
  unfold enE at s1
  unfold instOp at k
  (repeat (first | refine st_nil ?_ | refine st_fa ?_ | refine st_eql ?_ | refine st_load1 ‹_› (by first | exact .head _ | exact .tail _ (.head _)) rfl ?_))
  refine st_if (fun hb => ?_) (fun hb => ?_) <;> simp only [za, zb, zc, zd, ze, zf, zg, zh, zi, u8i, zj, zk, zl] at hb
  · rw [if_pos (by omega)] at k
    (repeat (first | refine st_nil ?_ | refine st_fa ?_ | refine st_load1 ‹_› (by first | exact .head _ | exact .tail _ (.head _)) rfl ?_ | refine st_loadA ‹_› (.head _) (nle rfl) ?_ | refine st_build rfl ?_ | refine st_store ‹_› .head rfl rfl rfl (nle rfl) fun _ _ => ?_))
    exact k _ (by assumption : St h _ _ _).fr
  · have hk : e.x.2.kind = 2 := by omega
    rw [if_neg (by omega)] at k
    have ho := (w.grow hk).1
    (repeat (first | refine st_nil ?_ | refine st_fa ?_ | refine st_load1 ‹_› (by first | exact .head _ | exact .tail _ (.head _)) rfl ?_))
    cases hg : e.grown with
    | true =>
      rw [hg] at k
      refine st_if (fun _ => ?_) (fun h => by cases h)
      (repeat (first | refine st_nil ?_ | refine st_fa ?_ | refine st_load1 ‹_› (by first | exact .head _ | exact .tail _ (.head _)) rfl ?_))
      refine great_sp ho fun h2 f2 => ?_
      have s2 := s1.call f2
      (repeat (first | refine st_loadA ‹_› (.head _) (nle rfl) ?_ | refine st_build rfl ?_ | refine st_store ‹_› .head rfl rfl rfl (nle rfl) fun _ _ => ?_))
      exact k _ (by assumption : St h _ _ _).fr
    | false =>
      rw [hg] at k
      refine st_if (fun h => by cases h) (fun _ => ?_)
      (repeat (first | refine st_nil ?_ | refine st_fa ?_ | refine st_load1 ‹_› (by first | exact .head _ | exact .tail _ (.head _)) rfl ?_))
      refine short_sp ho fun h2 f2 => ?_
      have s2 := s1.call f2
      (repeat (first | refine st_loadA ‹_› (.head _) (nle rfl) ?_ | refine st_build rfl ?_ | refine st_store ‹_› .head rfl rfl rfl (nle rfl) fun _ _ => ?_))
      exact k _ (by assumption : St h _ _ _).fr
def fullK (place : Int) (k : Str) (v : Int) : Int := if k.head? = some 84 then v - place else v
def fullM (place : Int) (ks : List Str) (vs : List Int) : List Int := List.zipWith (fullK place) ks vs
theorem fullM_succ {place : Int} : ∀ {ks : List Str} {vs : List Int} {q : Nat} (h1 : q < ks.length) (h2 : q < vs.length), fullM place (ks.take (q + 1)) vs = fullM place (ks.take q) vs ++ [fullK place ks[q] vs[q]]
  | [], _, q, h1, _ => by simp at h1
  | _ :: _, [], q, _, h2 => by simp at h2
  | k :: ks, v :: vs, 0, _, _ => by simp [fullM]
  | k :: ks, v :: vs, q + 1, h1, h2 => by
    have := fullM_succ (place := place) (ks := ks) (vs := vs) (q := q) (by simpa using h1) (by simpa using h2)
    simp only [fullM, List.take_succ_cons, List.zipWith_cons_cons, List.cons_append, List.getElem_cons_succ] at this ⊢
    rw [this]
end
theorem kinds_ne : ∀ r ∈ tbl, ∀ k ∈ flds r.kinds, k ≠ [] := by decide
theorem kinds_few : ∀ r ∈ tbl, (flds r.kinds).length < 10 := by decide
section
variable [Tabs]
variable {h : AHeap} {Q : QT} {K : AV → Prop}
variable {M : List Nat} {h0 : AHeap} {L L' : Own} {KS : AHeap → Prop}
structure OneV (v : AV) : Prop where
  tup : v.isTup = false
  cells : v.cells = [v]
  one : v.one = true
theorem AccE.v1 {sz n : Nat} {v : AV} {cs : List AV} {E : Own} (a : AccE sz v n cs E) : OneV v := by
  rcases a with ⟨_, _, rfl, _⟩ | ⟨_, j, rfl, _⟩ <;> exact ⟨rfl, rfl, rfl⟩
theorem st_storeV {i o : Nat} {cs : List AV} {v : AV} (hv : OneV v) (s : St h0 M h L) (e : Sub L (i, true, .cells cs) L' (i, true, .cells (splice cs o [v]))) (e4 : o + 1 ≤ cs.length) (q : ∀ h', St h0 M h' L' → KS h') : qStore 1 (.ptr i o) v h KS :=
  st_store s (by rw [hv.cells]; exact e) hv.tup (by rw [hv.cells]; rfl) (by rw [hv.cells]; simp [hv.one]) e4 q
theorem full_sp (hF : FieldsOk) {e : En} {p : Nat} (hp : h[p]? = some (.cells (enE e))) (w : WfS e.x.2) (hk : e.x.2.kind = 1 ∨ e.x.2.kind = 2) (vs : List Int) (hv : vs.length = e.x.2.args.length) (hb : ∀ v ∈ vs, -4503599627370496 ≤ v - e.place ∧ v - e.place ≤ 4503599627370496)
    {fv : AV} (r : Row iE 1 h fv vs)
    (k : ∀ v E h', AccE 1 v (fullM e.place (flds (opKinds (instOp e))) vs).length ((fullM e.place (flds (opKinds (instOp e))) vs).flatMap iE) E → St h [] h' E → Q (.agg [I (instOp e : Nat), v]) h') : C fn_asm_entry_full [.ptr p 0, fv] h Q := by
  obtain ⟨ho, hlen⟩ := wf_op w hk
  refine asm_entry_full_ok _ _ _ _ ?_
  unfold asm_entry_full
  refine st_new (St.start h) fun i0 h1 s1 => ?_
  refine inst_sp (s1.fr.get hp (by simp)) w hk fun h2 f2 => ?_
  have s2 := s1.call f2
  refine st_new s2 fun i1 h3 s3 => ?_
  (repeat (first | refine st_fa ?_ | refine st_load1 ‹_› (.head _) rfl ?_ | refine st_store ‹_› .head rfl rfl rfl (nle rfl) fun _ _ => ?_))
  rename_i h4 s4
  refine kinds_sp ho fun h5 f5 => ?_
  have s5 := s4.call f5
  have hmem : tbl[instOp e] ∈ tbl := List.getElem_mem ho
  rw [opKinds_eq ho] at k hlen ⊢
  refine fields_sp hF hmem ?_
  have hne := kinds_ne _ hmem
  have hfew := kinds_few _ hmem
  have RK : ∀ h, Row sE 1 h (.snap (flds tbl[instOp e].kinds).length ((flds tbl[instOp e].kinds).flatMap fun x => [T x])) (flds tbl[instOp e].kinds) := fun h => Row.snap (enc := sE) (fun _ => rfl) _
  generalize flds tbl[instOp e].kinds = ks at k hlen hne hfew RK ⊢
  (repeat refine st_lenL1 ?_)
  refine st_loop (fun n vs' h' => ∃ (q : Nat) (v : AV) (E : Own), vs' = [I (q : Nat)] ∧ n + q = ks.length ∧ AccE 1 v (fullM e.place (ks.take q) vs).length ((fullM e.place (ks.take q) vs).flatMap iE) E ∧ St h [] h' (E ++ ([(i1, true, .cells [I (instOp e : Nat), v]), (i0, true, .cells [I 0, .full 0 []])] ++ []))) ks.length ⟨0, .full 0 [], [], rfl, by omega, .none 1, s5⟩ ?_
  rintro n vs' h6 ⟨q, v, E, rfl, hn, a, s6⟩
  unfold asm_entry_full_l12
  have hfl : (fullM e.place (ks.take q) vs).length ≤ ks.length := by simp [fullM]; omega
  (repeat refine st_lss ?_)
  refine st_if (fun hq => ?_) (fun hq => ?_) <;> simp only [za, zb, zc, zd, ze, zf, zg, zh, zi, u8i, zj, zk, zl] at hq
  · have hq : q < ks.length := hq
    refine (RK h6).idx (fun _ => rfl) hq fun p1 t => ?_
    refine st_pload1 t ?_
    have hqv : q < vs.length := by omega
    refine (r.fr s6.fr).idx (fun _ => rfl) hqv fun p2 t2 => ?_
    refine st_pload1 t2 ?_
    have hkn := hne _ (List.getElem_mem hq)
    have hk0 : 0 < ks[q].length := List.length_pos_iff.2 hkn
    refine st_indexN (i := 0) hk0 ?_
    have hs : fullM e.place (ks.take (q + 1)) vs = fullM e.place (ks.take q) vs ++ [fullK e.place ks[q] vs[q]] := fullM_succ hq hqv
    have hfin : ∀ x, x = fullK e.place ks[q] vs[q] → asm_entry_full_j9 (I x) (I (q : Nat)) (.ptr i1 0) h6 (fun vs' h' => ∃ m, m < n ∧ ∃ (q : Nat) (v : AV) (E : Own), vs' = [I (q : Nat)] ∧ m + q = ks.length ∧ AccE 1 v (fullM e.place (ks.take q) vs).length ((fullM e.place (ks.take q) vs).flatMap iE) E ∧ St h [] h' (E ++ ([(i1, true, .cells [I (instOp e : Nat), v]), (i0, true, .cells [I 0, .full 0 []])] ++ []))) := by
      rintro x rfl
      unfold asm_entry_full_j9
      (repeat refine st_fa ?_)
      refine st_load1 (a.rest s6) (.head _) rfl ?_
      (repeat refine st_buildS rfl rfl ?_)
      refine a.app s6 (xs := [I (fullK e.place ks[q] vs[q])]) (m := 1) (Rd.full rfl) rfl (by omega) fun v3 E3 h8 a3 s8 => ?_
      have s9 := s8.swap
      (repeat refine st_fa ?_)
      refine st_storeV a3.v1 s9 .head (nle rfl) fun h10 s10 => ?_
      (repeat refine st_add (by omega) ?_)
      exact ⟨n - 1, by omega, q + 1, v3, E3, rfl, by omega, by rw [hs]; simpa using a3, St.swap (A := [_, _]) (B := E3) (L := []) s10⟩
    have h84 : (ks[q].head? = some 84) ↔ ks[q][0] = 84 := by
      rw [List.head?_eq_getElem?, List.getElem?_eq_getElem hk0]; simp
    have hpl := (s6.fr.get hp (by simp))
    have sp := St.startr hpl
    unfold enE at sp
    have hbv := hb _ (List.getElem_mem hqv)
    unfold fullK at hfin
    simp only [h84] at hfin
    (repeat refine st_eql ?_)
    refine st_if (fun hT => ?_) (fun hT => ?_) <;> simp only [za, zb, zc, zd, ze, zf, zg, zh, zi, u8i, zj, zk, zl] at hT
    · have hT : ks[q][0] = 84 := by
        apply UInt8.toNat_inj.1
        show _ = 84
        omega
      refine st_nil (st_fa (st_load1 sp (.head _) rfl (st_sub (by omega) ?_)))
      exact hfin _ (by rw [if_pos hT])
    · exact hfin _ (by rw [if_neg (by intro h; rw [h] at hT; exact hT rfl)])
  · rw [List.take_of_length_le (by omega)] at a
    have s7 := s6.swap
    (repeat refine st_loadA ‹_› (.head _) (nle rfl) ?_)
    refine st_store s7 (.tail .head) rfl rfl (by show ([I (instOp e : Nat), v] : List AV).all AV.one = true; simp [a.v1.one]; rfl) (nle rfl) fun h10 s10 => ?_
    (repeat refine st_loadA ‹_› (by first | exact .head _ | exact .tail _ (.head _)) (nle rfl) ?_)
    exact k v E h10 a ((St.swap (A := [_, _]) (B := E) (L := []) s10).sub (List.sublist_append_left _ _))
end
end
end
section
noncomputable section
def argV (here : Int) (f : Str → Option Int) (a : Ar) : Ev := if a.reg < 0 then evalF here f a.e else (a.reg, 0)
def valuesM (here : Int) (f : Str → Option Int) (args : List Ar) : List Int × Int :=
  match args.find? fun a => decide ((argV here f a).2 ≠ 0) with
  | some a => ([], (argV here f a).2)
  | none => (args.map fun a => (argV here f a).1, 0)
theorem valuesM_bad {here : Int} {f : Str → Option Int} {args : List Ar} {q : Nat} (hq : q < args.length) (hb : (argV here f args[q]).2 ≠ 0) (hn : ∀ j (hj : j < q), (argV here f (args[j]'(by omega))).2 = 0) : valuesM here f args = ([], (argV here f args[q]).2) := by
  unfold valuesM
  have : args.find? (fun a => decide ((argV here f a).2 ≠ 0)) = some args[q] := by
    rw [List.find?_eq_some_iff_getElem]
    exact ⟨by simpa using hb, q, hq, rfl, fun j hj => by simpa using hn j hj⟩
  rw [this]
theorem valuesM_good {here : Int} {f : Str → Option Int} {args : List Ar} (hn : ∀ j (hj : j < args.length), (argV here f args[j]).2 = 0) : valuesM here f args = (args.map fun a => (argV here f a).1, 0) := by
  unfold valuesM
  have : args.find? (fun a => decide ((argV here f a).2 ≠ 0)) = none := by
    rw [List.find?_eq_none]
    intro x hx
    obtain ⟨j, hj, rfl⟩ := List.getElem_of_mem hx
    simpa using hn j hj
  rw [this]
def declaredM (f : Str → Option Int) (es : List En) (e : Ex) : Bool := (namesM e).all fun n => (f n).isSome || es.any fun x => decide (x.x.2.kind = 9) && decide (x.x.2.text = n)
def withinM (kind : Nat) : Int × Int := if kind = 3 then (-128, 255) else if kind = 4 then (-32768, 65535) else (-2147483648, 4294967295)
def longM (syms : Str → Option Int) (e : En) : Int :=
  if e.x.2.kind = 1 then (opSize e.x.2.op : Nat)
  else if e.x.2.kind = 2 then (if e.grown then 4 else 2)
  else if e.x.2.kind = 3 ∨ e.x.2.kind = 4 ∨ e.x.2.kind = 5 then (e.x.2.args.length : Int) * 2 ^ (e.x.2.kind - 3)
  else if e.x.2.kind = 6 then (e.x.2.text.length : Nat)
  else if e.x.2.kind = 7 then ((evalF 0 syms (lastE e)).1 - e.place.tmod (evalF 0 syms (lastE e)).1).tmod (evalF 0 syms (lastE e)).1
  else if e.x.2.kind = 8 then (evalF 0 syms (lastE e)).1
  else 0
abbrev srcC (lv : AV) (js : Nat) (kn dv : AV) (sz : Int) : AObj := .cells [lv, .map js, kn, dv, I sz]
section
variable [Tabs]
theorem evalF_in (here : Int) (f : Str → Option Int) : ∀ e : Ex, -1099511627776 ≤ (evalF here f e).1 ∧ (evalF here f e).1 ≤ 1099511627776
  | .none => by simp [evalF]
  | .num n => boundM_in _
  | .name s => by
    unfold evalF; split
    · exact boundM_in _
    · simp
  | .here => boundM_in _
  | .neg e => by
    unfold evalF; split
    · simp
    · exact boundM_in _
  | .bin k a b => by
    unfold evalF; split
    · simp
    · split
      · simp
      · exact bothM_in _ _ _
variable {h : AHeap} {Q : QT} {K : AV → Prop}
theorem asmWithin_sp {n : Nat} (k : Q (.tup [I (withinM n).1, I (withinM n).2]) h) : C fn_asm_within [I (n : Nat)] h Q := by
  refine asm_within_ok _ _ _ ?_
  unfold asm_within
  unfold withinM at k
  (repeat refine st_eql ?_)
  refine st_if (fun h3 => ?_) (fun h3 => ?_) <;> simp only [za, zb, zc, zd, ze, zf, zg, zh, zi, u8i, zj, zk, zl] at h3
  · rw [if_pos (by omega)] at k; exact k
  · rw [if_neg (by omega)] at k
    (repeat refine st_eql ?_)
    refine st_if (fun h4 => ?_) (fun h4 => ?_) <;> simp only [za, zb, zc, zd, ze, zf, zg, zh, zi, u8i, zj, zk, zl] at h4
    · rw [if_pos (by omega)] at k; exact k
    · rw [if_neg (by omega)] at k; exact k
theorem put5 {h0 : AHeap} {M : List Nat} {L L' : Own} {j : Nat} {cs zs : List AV} {K : AHeap → Prop} (s : St h0 M h L) (hz : zs.length = 5) (hc : cs.length = 5) (ho : cs.all AV.one = true) (u : Sub L (j, true, .cells zs) L' (j, true, .cells cs))
    (k : ∀ h', St h0 M h' L' → K h') : qStore 5 (.ptr j 0) (.agg cs) h K :=
  st_store s (by
    have : splice zs 0 cs = cs := by simp [splice]; omega
    show Sub L _ L' (j, true, .cells (splice zs 0 (AV.agg cs).cells))
    rw [show (AV.agg cs).cells = cs from rfl, this]; exact u) rfl hc ho (by omega) k
theorem asmValues_sp {e : En} {p : Nat} (hp : h[p]? = some (.cells (enE e))) (w : WfS e.x.2) {i js jk : Nat} {lv dv : AV} {sz : Int} (hi : h[i]? = some (srcC lv js (.map jk) dv sz)) {f : Str → Option Int} (m : MapAt h jk f)
    (k : ∀ v E h', AccE 1 v (valuesM e.place f e.x.2.args).1.length ((valuesM e.place f e.x.2.args).1.flatMap iE) E → St h [] h' E → Q (.tup [v, I (valuesM e.place f e.x.2.args).2]) h') : C fn_asm_source_values [.ptr i 0, .ptr p 0] h Q := by
  refine asm_source_values_ok _ _ _ _ ?_
  unfold asm_source_values
  have sp := St.startr hp
  have hal := w.args
  unfold enE at sp
  (repeat (first | refine st_nil ?_ | refine st_fa ?_ | refine st_lenL1 ?_ | refine st_load1 ‹_› (.head _) rfl ?_))
  clear sp
  refine st_loop (fun n vs' h' => ∃ (q : Nat) (v : AV) (E : Own), vs' = [.full 0 [], I 0, v, I (q : Nat)] ∧ n + q = e.x.2.args.length ∧ AccE 1 v q (((e.x.2.args.take q).map fun a => (argV e.place f a).1).flatMap iE) E ∧ St h [] h' E ∧ ∀ j (hj : j < q) (hj2 : j < e.x.2.args.length), (argV e.place f e.x.2.args[j]).2 = 0) e.x.2.args.length ⟨0, .full 0 [], [], rfl, by omega, .none 1, St.start h, fun j hj => by omega⟩ ?_
  rintro n vs' h1 ⟨q, v, E, rfl, hn, a, s1, hz⟩
  unfold asm_source_values_l6
  have s1 : St h [] h1 (E ++ []) := by simpa using s1
  (repeat refine st_lss ?_)
  refine st_if (fun hq => ?_) (fun hq => ?_) <;> simp only [za, zb, zc, zd, ze, zf, zg, zh, zi, u8i, zj, zk, zl] at hq
  · have hq : q < e.x.2.args.length := hq
    have ha := w.arg _ (List.getElem_mem hq)
    refine (args_row e h1).idx arE_len hq fun p1 t => ?_
    refine st_ploadAll t (arE_len _).symm ?_
    refine st_new s1 fun i1 h2 s2 => ?_
    refine put5 s2 rfl (arE_len _) (arE_one _) .head fun h3 s3 => ?_
    have hfin : ∀ (r : Ev) h', r = argV e.place f e.x.2.args[q] → St h [] h' (E ++ []) → asm_source_values_j5 (I r.2) (I r.1) (.full 0 []) (I 0) v (I (q : Nat)) h' (fun vs' h' => ∃ m, m < n ∧ ∃ (q : Nat) (v : AV) (E : Own), vs' = [.full 0 [], I 0, v, I (q : Nat)] ∧ m + q = e.x.2.args.length ∧ AccE 1 v q (((e.x.2.args.take q).map fun a => (argV e.place f a).1).flatMap iE) E ∧ St h [] h' E ∧ ∀ j (hj : j < q) (hj2 : j < e.x.2.args.length), (argV e.place f e.x.2.args[j]).2 = 0) Q := by
      rintro r h4 rfl s4
      unfold asm_source_values_j5
      (repeat refine st_neq ?_)
      refine st_if (fun hb => ?_) (fun hb => ?_) <;> simp only [za, zb, zc, zd, ze, zf, zg, zh, zi, u8i, zj, zk, zl] at hb
      · have hv := valuesM_bad hq hb fun j hj => hz j hj (by omega)
        rw [hv] at k
        exact k _ [] _ (.none 1) (a.rest s4)
      · (repeat refine st_buildS rfl rfl ?_)
        refine a.app s4 (xs := iE (argV e.place f e.x.2.args[q]).1) (m := 1) (Rd.full rfl) rfl (by omega) fun v3 E3 h8 a3 s8 => ?_
        refine st_add (by omega) ?_
        refine ⟨n - 1, by omega, q + 1, v3, E3, rfl, by omega, ?_, by simpa using s8, fun j hj hj2 => ?_⟩
        · rw [List.take_succ_eq_append_getElem hq, List.map_append, List.flatMap_append]; exact a3
        · by_cases hjq : j = q
          · subst hjq; exact hb
          · exact hz j (by omega) hj2
    have sp3 := St.startr (s3.fr.get hp (by simp))
    have si3 := St.startr (s3.fr.get hi (by simp))
    unfold enE at sp3
    unfold arE at s3
    refine st_fa (st_load1 s3 (.head _) rfl (st_lss ?_))
    refine st_if (fun hb => ?_) (fun hb => ?_) <;> simp only [za, zb, zc, zd, ze, zf, zg, zh, zi, u8i, zj, zk, zl] at hb
    · refine st_fa (st_loadA s3 (.head _) (by simp [encE_len]) ?_)
      rw [show ((I e.x.2.args[q].reg :: encE e.x.2.args[q].e).drop (0 + 1)).take 4 = encE e.x.2.args[q].e by
        simp only [Nat.zero_add, List.drop_succ_cons, List.drop_zero]; exact List.take_of_length_le (by simp [encE_len])]
      refine st_nil (st_fa (st_load1 sp3 (.head _) rfl ?_))
      refine st_nil (st_fa (st_load1 si3 (.head _) rfl ?_))
      refine asmEval_sp ha.1 ha.2.1 e.place (m.fr s3.fr) fun h4 f4 => ?_
      have s4 := (s3.call f4).drop1
      unfold evV
      refine st_ext rfl (st_ext rfl ?_)
      exact hfin _ h4 (by unfold argV; rw [if_pos hb]) s4
    · exact hfin (e.x.2.args[q].reg, 0) h3 (by unfold argV; rw [if_neg (by omega)]) s3.drop1
  · have hqe : q = e.x.2.args.length := by omega
    subst hqe
    rw [List.take_length] at a
    have hv := valuesM_good (fun j hj => hz j hj hj)
    rw [hv] at k
    exact k v E h1 (by simpa using a) (by simpa using s1)
abbrev pE (x : Nat × En) : List AV := [.ptr x.1 0]
theorem declared_sp {i js jk : Nat} {lv dv : AV} {sz : Int} (hi : h[i]? = some (srcC lv js (.map jk) dv sz)) {f : Str → Option Int} (m : MapAt h jk f) {l : List (Nat × En)} (hl : l.length < 1000000000) (r : Row pE 1 h lv l) (he : ∀ x ∈ l, h[x.1]? = some (.cells (enE x.2)))
    {e : Ex} (ho : okE e) (hz : sizeE e < 1000000) (k : ∀ h', Fr [] h h' → Q (B (declaredM f (l.map (·.2)) e)) h') : C fn_asm_source_declared [.ptr i 0, .agg (encE e)] h Q := by
  refine asm_source_declared_ok _ _ _ _ ?_
  unfold asm_source_declared
  refine st_box (St.start h) rfl fun j h1 s1 => ?_
  have s1 : St h [] h1 [(j, true, .cells (encE e))] := s1
  refine st_get4 s1 (encE_len _) (.head _) ?_
  refine names_sp (sizeE e) e ho (Nat.le_refl _) (by omega) h1 _ fun h2 f2 => ?_
  have s2 := s1.call f2
  have hnl := namesM_len e
  have RN2 : ∀ h, Row sE 1 h (.snap (namesM e).length ((namesM e).flatMap sE)) (namesM e) := fun h => Row.snap (enc := sE) (fun _ => rfl) _
  unfold declaredM at k
  generalize namesM e = ns at RN2 hnl k ⊢
  (repeat refine st_lenL1 ?_)
  refine st_loop (fun n vs h' => ∃ (q : Nat), vs = [B false, I (q : Nat)] ∧ n + q = ns.length ∧ Fr [] h h' ∧ ∀ t (ht : t < q) (ht2 : t < ns.length), ((f ns[t]).isSome || (l.map (·.2)).any fun x => decide (x.x.2.kind = 9) && decide (x.x.2.text = ns[t])) = true) ns.length ⟨0, rfl, by omega, s2.fr, fun t ht => by omega⟩ ?_
  rintro n vs h3 ⟨q, rfl, hn, f3, hall⟩
  unfold asm_source_declared_l6
  (repeat refine st_lss ?_)
  refine st_if (fun hq => ?_) (fun hq => ?_) <;> simp only [za, zb, zc, zd, ze, zf, zg, zh, zi, u8i, zj, zk, zl] at hq
  · have hq : q < ns.length := hq
    refine (RN2 h3).idx (fun _ => rfl) hq fun p t => ?_
    refine st_pload1 t ?_
    refine st_new (St.start h3) fun i4 h4 s4 => ?_
    (repeat (first | refine st_nil ?_ | refine st_fa ?_ | refine st_store ‹_› .head rfl rfl rfl (nle rfl) fun _ _ => ?_))
    rename_i h5 s5
    have f5 : Fr [] h h5 := f3.trans s5.fr (by simp)
    have si := St.startr (f5.get hi (by simp))
    refine st_load1 si (.head _) rfl ?_
    clear si
    refine st_load1 s5 (.head _) rfl ?_
    refine (m.fr f5).look ?_
    have hnext : ∀ h', Fr [] h h' → ((f ns[q]).isSome || (l.map (·.2)).any fun x => decide (x.x.2.kind = 9) && decide (x.x.2.text = ns[q])) = true → qBin .add (I (q : Nat)) (I 1) fun t36 =>
      (fun vs' h' => ∃ m, m < n ∧ ∃ (q : Nat), vs' = [B false, I (q : Nat)] ∧ m + q = ns.length ∧ Fr [] h h' ∧ ∀ t (ht : t < q) (ht2 : t < ns.length), ((f ns[t]).isSome || (l.map (·.2)).any fun x => decide (x.x.2.kind = 9) && decide (x.x.2.text = ns[t])) = true) [B false, t36] h' := by
      intro h' f' hh
      refine st_add (by omega) ?_
      refine ⟨n - 1, by omega, q + 1, rfl, by omega, f', fun t ht ht2 => ?_⟩
      by_cases htq : t = q
      · subst htq; exact hh
      · exact hall t (by omega) ht2
    refine st_ext rfl (st_ext rfl (st_not ?_))
    cases hf : f ns[q] with
    | some y =>
      refine st_if (fun h => by cases h) (fun _ => ?_)
      exact hnext h5 f5 (by rw [hf]; rfl)
    | none =>
      refine st_if (fun _ => ?_) (fun h => by cases h)
      have si := St.startr (f5.get hi (by simp))
      refine st_nil (st_fa (st_load1 si (.head _) rfl ?_))
      clear si
      refine containsFunc_asm_entry_sp (arg := fun x : Nat × En => .ptr x.1 0) _ (fun x => decide (x.2.x.2.kind = 9) && decide (x.2.x.2.text = ns[q])) l (by omega) (r.fr f5) (fun x hx h6 Q6 f6 k6 => ?_) fun h6 f6 => ?_
      · show ACall Pg fn_asm_source_declared_1 _ _ _
        refine asm_source_declared_1_ok _ _ _ _ ?_
        unfold asm_source_declared_1
        have sx := St.startr (f6.get (f5.get (he x hx) (by simp)) (by simp))
        unfold enE at sx
        (repeat (first | refine st_nil ?_ | refine st_fa ?_ | refine st_eql ?_ | refine st_load1 ‹_› (.head _) rfl ?_))
        refine st_if (fun hb => ?_) (fun hb => ?_) <;> simp only [za, zb, zc, zd, ze, zf, zg, zh, zi, u8i, zj, zk, zl] at hb
        · have hb : x.2.x.2.kind = 9 := by omega
          (repeat (first | refine st_nil ?_ | refine st_fa ?_ | refine st_load1 ‹_› (.head _) rfl ?_))
          refine st_load1 (s5.call f6) (.head _) rfl ?_
          (repeat refine st_seq ?_)
          rw [hb] at k6
          simpa using k6 h6 (Fr.refl _ _)
        · have hb : ¬ x.2.x.2.kind = 9 := by omega
          have := k6 h6 (Fr.refl _ _)
          simpa [hb] using this
      · have hany : (l.any fun x => decide (x.2.x.2.kind = 9) && decide (x.2.x.2.text = ns[q])) = (l.map (·.2)).any fun x => decide (x.x.2.kind = 9) && decide (x.x.2.text = ns[q]) := by rw [List.any_map]; rfl
        rw [hany]
        have f7 : Fr [] h h6 := f5.trans f6 (by simp)
        refine st_not ?_
        cases hc : (l.map (·.2)).any fun x => decide (x.x.2.kind = 9) && decide (x.x.2.text = ns[q]) with
        | true =>
          refine st_if (fun h => by cases h) (fun _ => ?_)
          exact hnext h6 f7 (by rw [hc]; simp)
        | false =>
          refine st_if (fun _ => ?_) (fun h => by cases h)
          have : (ns.all fun n => (f n).isSome || (l.map (·.2)).any fun x => decide (x.x.2.kind = 9) && decide (x.x.2.text = n)) = false := by
            rw [List.all_eq_false]
            exact ⟨ns[q], List.getElem_mem hq, by rw [hf, hc]; simp⟩
          rw [← this]
          exact k h6 f7
  · have : (ns.all fun n => (f n).isSome || (l.map (·.2)).any fun x => decide (x.x.2.kind = 9) && decide (x.x.2.text = n)) = true := by
      rw [List.all_eq_true]
      intro x hx
      obtain ⟨t, ht, rfl⟩ := List.getElem_of_mem hx
      exact hall t (by omega) ht
    rw [← this]
    exact k h3 f3
def SzOk (syms : Str → Option Int) (e : En) : Prop :=
  (e.x.2.kind = 7 → 1 ≤ (evalF 0 syms (lastE e)).1 ∧ (evalF 0 syms (lastE e)).1 ≤ 16) ∧ (e.x.2.kind = 8 → 0 ≤ (evalF 0 syms (lastE e)).1 ∧ (evalF 0 syms (lastE e)).1 ≤ 1000)
theorem long_sp {e : En} {p : Nat} (hp : h[p]? = some (.cells (enE e))) (w : WfS e.x.2) {i js : Nat} {lv kn dv : AV} {sz : Int} (hi : h[i]? = some (srcC lv js kn dv sz)) {f : Str → Option Int} (m : MapAt h js f) (hs : SzOk f e) (hpl : 0 ≤ e.place ∧ e.place ≤ 1000000000000000)
    (k : ∀ h', Fr [] h h' → Q (I (longM f e)) h') : C fn_asm_source_long [.ptr i 0, .ptr p 0] h Q := by
  refine asm_source_long_ok _ _ _ _ ?_
  unfold asm_source_long
  have sp := St.startr hp
  have hal := w.args
  unfold enE at sp
  unfold longM at k
  (repeat (first | refine st_nil ?_ | refine st_fa ?_ | refine st_eql ?_ | refine st_load1 ‹_› (.head _) rfl ?_))
  refine st_if (fun h1 => ?_) (fun h1 => ?_) <;> simp only [za, zb, zc, zd, ze, zf, zg, zh, zi, u8i, zj, zk, zl] at h1
  · have h1 : e.x.2.kind = 1 := by omega
    rw [if_pos h1] at k
    (repeat (first | refine st_nil ?_ | refine st_fa ?_ | refine st_load1 ‹_› (.head _) rfl ?_))
    exact size_sp (w.inst h1).1 fun h2 f2 => k h2 f2
  · have h1 : ¬ e.x.2.kind = 1 := by omega
    rw [if_neg h1] at k
    (repeat refine st_eql ?_)
    refine st_if (fun h2 => ?_) (fun h2 => ?_) <;> simp only [za, zb, zc, zd, ze, zf, zg, zh, zi, u8i, zj, zk, zl] at h2
    · rw [if_pos (by omega)] at k
      (repeat (first | refine st_nil ?_ | refine st_fa ?_ | refine st_load1 ‹_› (.head _) rfl ?_))
      cases hg : e.grown with
      | true =>
        rw [hg] at k
        exact st_if (fun _ => k h (Fr.refl _ _)) (fun h => by cases h)
      | false =>
        rw [hg] at k
        exact st_if (fun h => by cases h) (fun _ => k h (Fr.refl _ _))
    · have h2 : ¬ e.x.2.kind = 2 := by omega
      rw [if_neg h2] at k
      have hdata : ∀ b : Bool, (b = true ↔ e.x.2.kind = 3 ∨ e.x.2.kind = 4 ∨ e.x.2.kind = 5) → asm_source_long_j5 (B b) (I (e.x.2.kind : Nat)) (.ptr i 0) (.ptr p 0) h Q := by
        intro b hb
        unfold asm_source_long_j5
        refine st_if (fun hbt => ?_) (fun hbf => ?_)
        · have hk := hb.1 hbt
          rw [if_pos hk] at k
          (repeat (first | refine st_nil ?_ | refine st_fa ?_ | refine st_lenL1 ?_ | refine st_sub (by omega) ?_ | refine st_load1 ‹_› (.head _) rfl ?_))
          refine st_shl (by omega) ?_
          have : IntKind.i64.wrap ((e.x.2.args.length : Int) * 2 ^ (min ((e.x.2.kind : Int) - 3).toNat IntKind.i64.bits)) = (e.x.2.args.length : Int) * 2 ^ (e.x.2.kind - 3) := by
            have hb : IntKind.i64.bits = 64 := rfl
            rw [hb]
            rcases hk with hk | hk | hk <;> rw [hk] <;> simp <;> exact wrapI (by omega)
          rw [this]
          exact k h (Fr.refl _ _)
        · have hk : ¬ (e.x.2.kind = 3 ∨ e.x.2.kind = 4 ∨ e.x.2.kind = 5) := by rw [← hb, hbf]; simp
          rw [if_neg hk] at k
          (repeat refine st_eql ?_)
          refine st_if (fun h6 => ?_) (fun h6 => ?_) <;> simp only [za, zb, zc, zd, ze, zf, zg, zh, zi, u8i, zj, zk, zl] at h6
          · rw [if_pos (by omega)] at k
            (repeat (first | refine st_nil ?_ | refine st_fa ?_ | refine st_lenS ?_ | refine st_load1 ‹_› (.head _) rfl ?_))
            exact k h (Fr.refl _ _)
          · rw [if_neg (by omega)] at k
            have hj4 : ∀ b : Bool, (b = true ↔ e.x.2.kind = 7 ∨ e.x.2.kind = 8) → asm_source_long_j4 (B b) (.ptr i 0) (.ptr p 0) h Q := by
              intro b hb
              unfold asm_source_long_j4
              refine st_if (fun hbt => ?_) (fun hbf => ?_)
              · have hk78 := hb.1 hbt
                have hne := w.data (by omega) (by omega)
                have si := St.startr hi
                refine st_nil (st_fa (st_load1 si (.head _) rfl ?_))
                refine last_sp hp w hne fun h3 f3 => ?_
                have si3 := si.call f3
                refine ⟨st_load1 si3 (.head _) rfl rfl, ?_⟩
                have hlast := wf_last w hne
                refine asmEval_sp hlast.1 hlast.2 0 (m.fr f3) fun h4 f4 => ?_
                have f5 : Fr [] h h4 := f3.trans f4 (by simp)
                unfold evV
                refine st_ext rfl (st_ext rfl ?_)
                have sp4 := sp.call f5
                refine st_nil (st_fa (st_fa (st_load1 sp4 (.head _) rfl (st_eql ?_))))
                have hin := evalF_in 0 f (lastE e)
                refine st_if (fun h7 => ?_) (fun h7 => ?_) <;> simp only [za, zb, zc, zd, ze, zf, zg, zh, zi, u8i, zj, zk, zl] at h7
                · have h7 : e.x.2.kind = 7 := by omega
                  rw [if_pos h7] at k
                  have hv := hs.1 h7
                  unfold asm_source_long_j3
                  refine st_nil (st_fa (st_load1 sp4 (.head _) rfl ?_))
                  refine st_rem (by omega) ?_
                  have hm1 := Int.tmod_nonneg (evalF 0 f (lastE e)).1 hpl.1
                  have hm2 := Int.tmod_lt_of_pos e.place (show 0 < (evalF 0 f (lastE e)).1 by omega)
                  refine st_sub (by omega) ?_
                  refine st_rem (by omega) ?_
                  exact k h4 f5
                · have h7 : ¬ e.x.2.kind = 7 := by omega
                  rw [if_neg h7, if_pos (by omega)] at k
                  unfold asm_source_long_j3
                  exact k h4 f5
              · rw [hbf] at hb
                have h7 : ¬ e.x.2.kind = 7 := fun h => by simp at hb; omega
                have h8 : ¬ e.x.2.kind = 8 := fun h => by simp at hb; omega
                rw [if_neg h7, if_neg h8] at k
                exact k h (Fr.refl _ _)
            refine st_eql ?_
            refine st_if (fun h7 => ?_) (fun h7 => ?_) <;> simp only [za, zb, zc, zd, ze, zf, zg, zh, zi, u8i, zj, zk, zl] at h7
            · exact hj4 _ (by simp; omega)
            · refine st_eql ?_
              exact hj4 _ (by simp; omega)
      refine st_eql ?_
      refine st_if (fun h3 => ?_) (fun h3 => ?_) <;> simp only [za, zb, zc, zd, ze, zf, zg, zh, zi, u8i, zj, zk, zl] at h3
      · exact hdata _ (by simp; omega)
      · refine st_eql ?_
        refine st_if (fun h4 => ?_) (fun h4 => ?_) <;> simp only [za, zb, zc, zd, ze, zf, zg, zh, zi, u8i, zj, zk, zl] at h4
        · exact hdata _ (by simp; omega)
        · refine st_eql ?_
          exact hdata _ (by simp; omega)
end
end
end
section
noncomputable section
def isCode (e : En) : Prop := e.x.2.kind = 1 ∨ e.x.2.kind = 2
instance (e : En) : Decidable (isCode e) := inferInstanceAs (Decidable (_ ∨ _))
def isData (e : En) : Prop := e.x.2.kind = 3 ∨ e.x.2.kind = 4 ∨ e.x.2.kind = 5
instance (e : En) : Decidable (isData e) := inferInstanceAs (Decidable (_ ∨ _))
section
variable [Tabs]
def dataBad (kind : Nat) (vs : List Int) : Bool := vs.any (fun v => decide (v < (withinM kind).1)) || vs.any (fun v => decide ((withinM kind).2 < v))
def wrongM (f : Str → Option Int) (es : List En) (e : En) : Int :=
  if isCode e ∧ e.place.tmod 2 ≠ 0 then 7
  else if (valuesM e.place f e.x.2.args).2 = 4 ∧ e.x.2.kind = 9 ∧ declaredM f es (lastE e) = true then 5
  else if (valuesM e.place f e.x.2.args).2 ≠ 0 then (valuesM e.place f e.x.2.args).2
  else if isCode e ∧ (codeM (instOp e) (fullM e.place (flds (opKinds (instOp e))) (valuesM e.place f e.x.2.args).1)).isSome = false then 6
  else if isData e ∧ dataBad e.x.2.kind (valuesM e.place f e.x.2.args).1 = true then 6
  else 0
variable {h : AHeap} {Q : QT} {K : AV → Prop}
theorem minL_sp {vs : List Int} (hn : vs ≠ []) (hl : vs.length < 1000000000) {fv : AV} (r : Row iE 1 h fv vs) (k : ∀ m, m ∈ vs → (∀ x ∈ vs, m ≤ x) → Q (I m) h) : C fn_slices_Min__int_int [fv] h Q := by
  refine slices_Min__int_int_ok _ _ _ ?_
  unfold slices_Min__int_int
  have hp : 0 < vs.length := List.length_pos_iff.2 hn
  refine r.len ?_
  refine st_lss ?_
  refine st_if (fun hb => (by exfalso; first | (simp at hb; done) | (simp at hb; omega) | (revert hb; decide) | omega)) (fun _ => ?_)
  unfold slices_Min__int_int_j2
  refine r.idx (j := 0) (fun _ => rfl) hp fun p t => ?_
  refine st_pload1 t ?_
  refine st_loop (fun n vs' h' => ∃ (q : Nat) (m : Int), vs' = [I m, I (q : Nat)] ∧ n + q = vs.length ∧ h' = h ∧ m ∈ vs ∧ ∀ j (hj : j < q) (hj2 : j < vs.length), m ≤ vs[j]) (vs.length - 1) ⟨1, vs[0], rfl, by omega, rfl, List.getElem_mem hp, fun j hj hj2 => (by
    have hz : j = 0 := by omega
    subst hz; exact Int.le_refl _)⟩ ?_
  rintro n vs' h1 ⟨q, m, rfl, hn, rfl, hm, hall⟩
  unfold slices_Min__int_int_l1
  refine r.len ?_
  (repeat refine st_lss ?_)
  refine st_if (fun hq => ?_) (fun hq => ?_) <;> simp only [za, zb, zc, zd, ze, zf, zg, zh, zi, u8i, zj, zk, zl] at hq
  · have hq : q < vs.length := hq
    refine r.idx (fun _ => rfl) hq fun p t => ?_
    refine st_pload1 t ?_
    (repeat (first | refine st_add (by omega) ?_ | refine st_min ?_))
    refine ⟨n - 1, by omega, q + 1, min m vs[q], rfl, by omega, rfl, ?_, fun j hj hj2 => ?_⟩
    · rw [Int.min_def]
      split
      · exact hm
      · exact List.getElem_mem hq
    · by_cases hjq : j = q
      · subst hjq; exact Int.min_le_right _ _
      · exact Int.le_trans (Int.min_le_left _ _) (hall j (by omega) hj2)
  · refine k m hm fun x hx => ?_
    obtain ⟨j, hj, rfl⟩ := List.getElem_of_mem hx
    exact hall j (by omega) hj
theorem maxL_sp {vs : List Int} (hn : vs ≠ []) (hl : vs.length < 1000000000) {fv : AV} (r : Row iE 1 h fv vs) (k : ∀ m, m ∈ vs → (∀ x ∈ vs, x ≤ m) → Q (I m) h) : C fn_slices_Max__int_int [fv] h Q := by
  refine slices_Max__int_int_ok _ _ _ ?_
  unfold slices_Max__int_int
  have hp : 0 < vs.length := List.length_pos_iff.2 hn
  refine r.len ?_
  refine st_lss ?_
  refine st_if (fun hb => (by exfalso; first | (simp at hb; done) | (simp at hb; omega) | (revert hb; decide) | omega)) (fun _ => ?_)
  unfold slices_Max__int_int_j2
  refine r.idx (j := 0) (fun _ => rfl) hp fun p t => ?_
  refine st_pload1 t ?_
  refine st_loop (fun n vs' h' => ∃ (q : Nat) (m : Int), vs' = [I m, I (q : Nat)] ∧ n + q = vs.length ∧ h' = h ∧ m ∈ vs ∧ ∀ j (hj : j < q) (hj2 : j < vs.length), vs[j] ≤ m) (vs.length - 1) ⟨1, vs[0], rfl, by omega, rfl, List.getElem_mem hp, fun j hj hj2 => (by
    have hz : j = 0 := by omega
    subst hz; exact Int.le_refl _)⟩ ?_
  rintro n vs' h1 ⟨q, m, rfl, hn, rfl, hm, hall⟩
  unfold slices_Max__int_int_l1
  refine r.len ?_
  (repeat refine st_lss ?_)
  refine st_if (fun hq => ?_) (fun hq => ?_) <;> simp only [za, zb, zc, zd, ze, zf, zg, zh, zi, u8i, zj, zk, zl] at hq
  · have hq : q < vs.length := hq
    refine r.idx (fun _ => rfl) hq fun p t => ?_
    refine st_pload1 t ?_
    (repeat (first | refine st_add (by omega) ?_ | refine st_max ?_))
    refine ⟨n - 1, by omega, q + 1, max m vs[q], rfl, by omega, rfl, ?_, fun j hj hj2 => ?_⟩
    · rw [Int.max_def]
      split
      · exact List.getElem_mem hq
      · exact hm
    · by_cases hjq : j = q
      · subst hjq; exact Int.le_max_right _ _
      · exact Int.le_trans (hall j (by omega) hj2) (Int.le_max_left _ _)
  · refine k m hm fun x hx => ?_
    obtain ⟨j, hj, rfl⟩ := List.getElem_of_mem hx
    exact hall j (by omega) hj
theorem wrOne_sp {e : En} {p : Nat} (hp : h[p]? = some (.cells (enE e))) {vs : List Int} (hn : vs ≠ []) (hl : vs.length < 1000000000) {fv : AV} (r : Row iE 1 h fv vs) (k : Q (I (if dataBad e.x.2.kind vs = true then 6 else 0)) h) : wrOne (.ptr p 0) fv h Q := by
  have sp := St.startr hp
  unfold enE at sp
  unfold wrOne
  (repeat (first | refine st_nil ?_ | refine st_fa ?_ | refine st_load1 ‹_› (.head _) rfl ?_))
  refine asmWithin_sp ?_
  unfold dataBad at k
  (repeat refine st_ext rfl ?_)
  refine minL_sp hn hl r fun m hm hall => ?_
  refine st_lss ?_
  refine st_if (fun hb => ?_) (fun hb => ?_) <;> simp only [za, zb, zc, zd, ze, zf, zg, zh, zi, u8i, zj, zk, zl] at hb
  · rw [if_pos] at k
    · exact k
    · rw [Bool.or_eq_true]; exact .inl (List.any_eq_true.2 ⟨m, hm, by simpa using hb⟩)
  · have h1 : (vs.any fun v => decide (v < (withinM e.x.2.kind).1)) = false := by
      rw [List.any_eq_false]; intro x hx; have := hall x hx; simp; omega
    rw [h1, Bool.false_or] at k
    refine maxL_sp hn hl r fun m hm hall => ?_
    refine st_gtr ?_
    refine st_if (fun hb => ?_) (fun hb => ?_) <;> simp only [za, zb, zc, zd, ze, zf, zg, zh, zi, u8i, zj, zk, zl] at hb
    · rw [if_pos (List.any_eq_true.2 ⟨m, hm, by simpa using hb⟩)] at k; exact k
    · have h1 : (vs.any fun v => decide ((withinM e.x.2.kind).2 < v)) = false := by
        rw [List.any_eq_false]; intro x hx; have := hall x hx; simp; omega
      rw [h1, if_neg (by simp)] at k
      exact k
theorem wrData_sp {e : En} {p : Nat} (hp : h[p]? = some (.cells (enE e))) {vs : List Int} (hn : isData e → vs ≠ []) (hl : vs.length < 1000000000) {fv : AV} (r : Row iE 1 h fv vs) (k : Q (I (if isData e ∧ dataBad e.x.2.kind vs = true then 6 else 0)) h) : wrData (.ptr p 0) fv h Q := by
  have sp := St.startr hp
  unfold enE at sp
  unfold wrData
  have one : isData e → wrOne (.ptr p 0) fv h Q := fun hd => wrOne_sp hp (hn hd) hl r (by simpa [hd] using k)
  refine st_nil (st_fa (st_fa (st_load1 sp (.head _) rfl (st_eql ?_))))
  refine st_if (fun h3 => ?_) (fun h3 => ?_) <;> simp only [za, zb, zc, zd, ze, zf, zg, zh, zi, u8i, zj, zk, zl] at h3
  · exact one (.inl (by omega))
  · refine st_nil (st_fa (st_fa (st_load1 sp (.head _) rfl (st_eql ?_))))
    refine st_if (fun h4 => ?_) (fun h4 => ?_) <;> simp only [za, zb, zc, zd, ze, zf, zg, zh, zi, u8i, zj, zk, zl] at h4
    · exact one (.inr (.inl (by omega)))
    · refine st_nil (st_fa (st_fa (st_load1 sp (.head _) rfl (st_eql ?_))))
      refine st_if (fun h5 => ?_) (fun h5 => ?_) <;> simp only [za, zb, zc, zd, ze, zf, zg, zh, zi, u8i, zj, zk, zl] at h5
      · exact one (.inr (.inr (by omega)))
      · have : ¬ isData e := by unfold isData; omega
        show Q (I 0) h
        simpa [this] using k
end
end
end
end Go.Proofs.YtiddcelpooenfaaGreatDoor.AL
