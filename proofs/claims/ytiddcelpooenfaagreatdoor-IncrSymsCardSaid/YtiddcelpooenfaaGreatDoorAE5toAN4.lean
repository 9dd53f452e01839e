import Derived.Test.YtiddcelpooenfaaGreatDoorAI4toAE4
set_option linter.all false
set_option autoImplicit true
set_option relaxedAutoImplicit true
set_option maxRecDepth 100000
namespace Go.Proofs.YtiddcelpooenfaaGreatDoor.AL
section
noncomputable section
variable [Tabs]
theorem one_sp : ∀ (d D : Nat), D + d = 12 → PSpec fn_expr_parser_one [] D (oneM d)
  | 0, D, h => by
    have : D = 12 := by omega
    subst this
    exact atom_sp (fun l h Q i e r => withinNo_sp _ l h Q i e r) (fun l h Q i e r => withinNo_sp _ l h Q i e r)
  | d + 1, D, h => by
    have i1 := one_sp d (D + 1) (by omega)
    have i2 : PSpec fn_expr_parser_two [I 0] (D + 1) (twoM (oneM d) 5) := two_sp i1 (oneM_short d) 5 (Nat.le_refl _)
    exact atom_sp (within_sp (group_sp i2) (by omega)) (within_sp (minus_sp i1) (by omega))
theorem parse_sp (l : Str) {h : AHeap} {Q : QT} (k1 : ∀ x, parseE l = some x → ∀ h', Fr [] h h' → Q (.tup [.agg (encE x), B true]) h') (k0 : parseE l = none → ∀ h', Fr [] h h' → Q (.tup [.agg zE, B false]) h') : C fn_expr_Parse [T l] h Q := by
  refine expr_Parse_ok _ _ _ ?_
  unfold expr_Parse
  refine st_new (St.start h) fun q h1 s1 => ?_
  (repeat refine st_build rfl ?_)
  refine st_box s1 rfl fun i h2 s2 => ?_
  have s2 : St h [] h2 [(i, true, pO l 0 false), (q, true, .cells zE)] := s2
  refine two_sp (one_sp 12 0 rfl) (oneM_short 12) 5 (Nat.le_refl _) l h2 _ i (s2.get (.head _)) ⟨fun x l' h3 hm f3 e3 => ?_, fun cs l' h3 hm f3 e3 hc ho => ?_⟩
  · have s3 := s2.call1 f3 e3 .head
    refine st_put4 s3 zE_len (encE_len _) (encE_one _) (.tail .head) fun h4 s4 => ?_
    refine blanks_sp (s4.get (.head _)) fun h5 f5 e5 => ?_
    have s5 := s4.call1 f5 e5 .head
    have hp : parseE l = if blk l' = [] then some x else none := by unfold parseE; rw [hm]
    (repeat (first | refine st_nil ?_ | refine st_fa ?_ | refine st_sne ?_ | refine st_load1 ‹_› (.head _) rfl ?_))
    refine st_if (fun hb => ?_) (fun hb => ?_)
    · rw [if_neg (by simpa using hb)] at hp
      (repeat refine st_build rfl ?_)
      refine st_put4 s5 (encE_len _) rfl rfl (.tail .head) fun h6 s6 => ?_
      refine st_get4 s6 rfl (.tail _ (.head _)) ?_
      exact k0 hp _ s6.fr
    · rw [if_pos (by simpa using hb)] at hp
      refine st_get4 s5 (encE_len _) (.tail _ (.head _)) ?_
      refine st_put4 s5 (encE_len _) (encE_len _) (encE_one _) (.tail .head) fun h6 s6 => ?_
      refine st_get4 s6 (encE_len _) (.tail _ (.head _)) ?_
      exact k1 x hp _ s6.fr
  · have s3 := s2.call1 f3 e3 .head
    refine st_put4 s3 zE_len hc ho (.tail .head) fun h4 s4 => ?_
    refine blanks_sp (s4.get (.head _)) fun h5 f5 e5 => ?_
    have s5 := s4.call1 f5 e5 .head
    have hp : parseE l = none := by unfold parseE; rw [hm]
    (repeat (first | refine st_nil ?_ | refine st_fa ?_ | refine st_load1 ‹_› (.head _) rfl ?_ | refine st_build rfl ?_))
    refine st_put4 s5 hc rfl rfl (.tail .head) fun h6 s6 => ?_
    refine st_get4 s6 rfl (.tail _ (.head _)) ?_
    exact k0 hp _ s6.fr
def mostI : Int := 1099511627776
abbrev Ev := Int × Int
def evV (e : Ev) : AV := .tup [I e.1, I e.2]
def boundM (n : Int) : Ev := if n < -1099511627776 ∨ 1099511627776 < n then (0, 6) else (n, 0)
section
variable {h : AHeap} {Q : QT}
theorem bound_sp (n : Int) (k : Q (evV (boundM n)) h) : C fn_expr_bound [I n] h Q := by
  refine expr_bound_ok _ _ _ ?_
  unfold expr_bound
  unfold boundM at k
  (repeat refine st_lss ?_)
  refine st_if (fun h1 => ?_) (fun h1 => ?_) <;> simp only [za, zb, zc, zd, ze, zf, zg, zh, zi, u8i, zj, zk, zl] at h1
  · rw [if_pos (.inl h1)] at k; exact k
  (repeat refine st_gtr ?_)
  refine st_if (fun h2 => ?_) (fun h2 => ?_) <;> simp only [za, zb, zc, zd, ze, zf, zg, zh, zi, u8i, zj, zk, zl] at h2
  · rw [if_pos (.inr h2)] at k; exact k
  · rw [if_neg (by omega)] at k; exact k
def timesM (a b : Int) : Ev := if a = 0 ∨ b = 0 then (0, 0) else if (mostI.tdiv (max b (-b))) < max a (-a) then (0, 6) else boundM (a * b)
theorem times_sp (a b : Int) (ha : -1099511627776 ≤ a ∧ a ≤ 1099511627776) (hb : -1099511627776 ≤ b ∧ b ≤ 1099511627776) (k : Q (evV (timesM a b)) h) : C fn_expr_times [I a, I b] h Q := by
  refine expr_times_ok _ _ _ _ ?_
  unfold expr_times
  unfold timesM mostI at k
  (repeat refine st_eql ?_)
  refine st_if (fun h1 => ?_) (fun h1 => ?_) <;> simp only [za, zb, zc, zd, ze, zf, zg, zh, zi, u8i, zj, zk, zl] at h1
  · rw [if_pos (.inl h1)] at k; exact k
  (repeat refine st_eql ?_)
  refine st_if (fun h2 => ?_) (fun h2 => ?_) <;> simp only [za, zb, zc, zd, ze, zf, zg, zh, zi, u8i, zj, zk, zl] at h2
  · rw [if_pos (.inr h2)] at k; exact k
  rw [if_neg (by omega)] at k
  refine st_mulw ?_
  refine st_neg (by omega) ?_
  (repeat refine st_max ?_)
  refine st_neg (by omega) ?_
  (repeat refine st_max ?_)
  have hm : 1 ≤ max b (-b) := by omega
  have hq0 : 0 ≤ Int.tdiv 1099511627776 (max b (-b)) := Int.tdiv_nonneg (by omega) (by omega)
  have hq1 : Int.tdiv 1099511627776 (max b (-b)) ≤ 1099511627776 := by
    rw [Int.tdiv_eq_ediv_of_nonneg (by omega)]; exact Int.ediv_le_self _ (by omega)
  refine st_quo (by omega) (by omega) ?_
  refine st_gtr ?_
  refine st_if (fun h3 => ?_) (fun h3 => ?_) <;> simp only [za, zb, zc, zd, ze, zf, zg, zh, zi, u8i, zj, zk, zl] at h3
  · rw [if_pos h3] at k; exact k
  · rw [if_neg (by omega)] at k
    have hmul : max a (-a) * max b (-b) ≤ 1099511627776 := by
      have h4 : max a (-a) ≤ Int.tdiv 1099511627776 (max b (-b)) := by omega
      have h5 : max a (-a) * max b (-b) ≤ Int.tdiv 1099511627776 (max b (-b)) * max b (-b) := Int.mul_le_mul_of_nonneg_right h4 (by omega)
      rw [Int.tdiv_eq_ediv_of_nonneg (by omega)] at h5
      have h6 := Int.ediv_mul_le 1099511627776 (show max b (-b) ≠ 0 by omega)
      omega
    have hab : -1099511627776 ≤ a * b ∧ a * b ≤ 1099511627776 := by
      have e1 : (a * b).natAbs = (max a (-a) * max b (-b)).natAbs := by
        rw [Int.natAbs_mul, Int.natAbs_mul]
        congr 1 <;> omega
      have h7 : 0 ≤ max a (-a) * max b (-b) := Int.mul_nonneg (by omega) (by omega)
      omega
    rw [wrapI (by omega)]
    refine bound_sp _ ?_
    (repeat refine st_ext rfl ?_)
    exact k
def bothM (kd : Nat) (a b : Int) : Ev :=
  if kd = 5 then boundM (a + b) else if kd = 6 then boundM (a - b) else if kd = 7 then timesM a b else if kd = 8 then boundM (andI .i64 a b) else if kd = 9 then boundM (orI .i64 a b)
  else if b < 0 ∨ 40 < b then (0, 6) else if kd = 11 then boundM (shrI .i64 a b.toNat) else timesM a (2 ^ b.toNat)
theorem both_sp (kd : Nat) (a b : Int) (ha : -1099511627776 ≤ a ∧ a ≤ 1099511627776) (hb : -1099511627776 ≤ b ∧ b ≤ 1099511627776) (k : Q (evV (bothM kd a b)) h) : C fn_expr_both [I (kd : Nat), I a, I b] h Q := by
  refine expr_both_ok _ _ _ _ _ ?_
  unfold expr_both
  unfold bothM at k
  (repeat refine st_eql ?_)
  refine st_if (fun h5 => ?_) (fun h5 => ?_) <;> simp only [za, zb, zc, zd, ze, zf, zg, zh, zi, u8i, zj, zk, zl] at h5
  · rw [if_pos (by omega)] at k
    (repeat refine st_add (by omega) ?_)
    refine bound_sp _ ?_
    (repeat refine st_ext rfl ?_); exact k
  rw [if_neg (by omega)] at k
  (repeat refine st_eql ?_)
  refine st_if (fun h6 => ?_) (fun h6 => ?_) <;> simp only [za, zb, zc, zd, ze, zf, zg, zh, zi, u8i, zj, zk, zl] at h6
  · rw [if_pos (by omega)] at k
    (repeat refine st_sub (by omega) ?_)
    refine bound_sp _ ?_
    (repeat refine st_ext rfl ?_); exact k
  rw [if_neg (by omega)] at k
  (repeat refine st_eql ?_)
  refine st_if (fun h7 => ?_) (fun h7 => ?_) <;> simp only [za, zb, zc, zd, ze, zf, zg, zh, zi, u8i, zj, zk, zl] at h7
  · rw [if_pos (by omega)] at k
    refine times_sp a b ha hb ?_
    (repeat refine st_ext rfl ?_); exact k
  rw [if_neg (by omega)] at k
  (repeat refine st_eql ?_)
  refine st_if (fun h8 => ?_) (fun h8 => ?_) <;> simp only [za, zb, zc, zd, ze, zf, zg, zh, zi, u8i, zj, zk, zl] at h8
  · rw [if_pos (by omega)] at k
    refine st_andw ?_
    refine bound_sp _ ?_
    (repeat refine st_ext rfl ?_); exact k
  rw [if_neg (by omega)] at k
  (repeat refine st_eql ?_)
  refine st_if (fun h9 => ?_) (fun h9 => ?_) <;> simp only [za, zb, zc, zd, ze, zf, zg, zh, zi, u8i, zj, zk, zl] at h9
  · rw [if_pos (by omega)] at k
    refine st_orw ?_
    refine bound_sp _ ?_
    (repeat refine st_ext rfl ?_); exact k
  rw [if_neg (by omega)] at k
  (repeat refine st_lss ?_)
  refine st_if (fun hn => ?_) (fun hn => ?_) <;> simp only [za, zb, zc, zd, ze, zf, zg, zh, zi, u8i, zj, zk, zl] at hn
  · rw [if_pos (.inl hn)] at k; exact k
  (repeat refine st_gtr ?_)
  refine st_if (fun hg => ?_) (fun hg => ?_) <;> simp only [za, zb, zc, zd, ze, zf, zg, zh, zi, u8i, zj, zk, zl] at hg
  · rw [if_pos (.inr hg)] at k; exact k
  rw [if_neg (by omega)] at k
  (repeat refine st_eql ?_)
  refine st_if (fun h11 => ?_) (fun h11 => ?_) <;> simp only [za, zb, zc, zd, ze, zf, zg, zh, zi, u8i, zj, zk, zl] at h11
  · rw [if_pos (by omega)] at k
    refine st_shr (by omega) ?_
    refine bound_sp _ ?_
    (repeat refine st_ext rfl ?_); exact k
  · rw [if_neg (by omega)] at k
    refine st_shl (by omega) ?_
    obtain ⟨n, rfl⟩ : ∃ n : Nat, b = n := ⟨b.toNat, by omega⟩
    have hn40 : n ≤ 40 := by omega
    have hp : 2 ^ n ≤ 2 ^ 40 := Nat.pow_le_pow_right (by omega) hn40
    have hpi : ((2 : Int) ^ n) = ((2 ^ n : Nat) : Int) := by simp
    have hp0 : 0 < 2 ^ n := Nat.two_pow_pos n
    have e1 : min (n : Int).toNat IntKind.i64.bits = n := by
      show min (n : Int).toNat 64 = n
      omega
    rw [e1, Int.one_mul, wrapI (by rw [hpi]; omega)]
    rw [Int.toNat_natCast] at k
    refine times_sp a _ ha (by rw [hpi]; omega) ?_
    (repeat refine st_ext rfl ?_); exact k
abbrev Sy := Str × Int
def syE (y : Sy) : List AV := [T y.1, I y.2]
def evalM (here : Int) (syms : List Sy) : Ex → Ev
  | .none => (0, 6)
  | .num n => boundM n
  | .name s => match syms.find? fun y => decide (y.1 = s) with
    | some y => boundM y.2
    | none => (0, 4)
  | .here => boundM here
  | .neg e => if (evalM here syms e).2 ≠ 0 then (0, (evalM here syms e).2) else boundM (-(evalM here syms e).1)
  | .bin k a b => if (evalM here syms a).2 ≠ 0 then (0, (evalM here syms a).2) else if (evalM here syms b).2 ≠ 0 then (0, (evalM here syms b).2) else bothM k (evalM here syms a).1 (evalM here syms b).1
theorem boundM_in (n : Int) : -1099511627776 ≤ (boundM n).1 ∧ (boundM n).1 ≤ 1099511627776 := by unfold boundM; split <;> simp <;> omega
theorem timesM_in (a b : Int) : -1099511627776 ≤ (timesM a b).1 ∧ (timesM a b).1 ≤ 1099511627776 := by
  unfold timesM; split
  · simp
  · split
    · simp
    · exact boundM_in _
theorem bothM_in (k : Nat) (a b : Int) : -1099511627776 ≤ (bothM k a b).1 ∧ (bothM k a b).1 ≤ 1099511627776 := by
  unfold bothM
  repeat' split
  all_goals first | exact boundM_in _ | exact timesM_in _ _ | simp
theorem evalM_in (here : Int) (syms : List Sy) : ∀ e : Ex, -1099511627776 ≤ (evalM here syms e).1 ∧ (evalM here syms e).1 ≤ 1099511627776
  | .none => by simp [evalM]
  | .num n => boundM_in _
  | .name s => by
    unfold evalM; split
    · exact boundM_in _
    · simp
  | .here => boundM_in _
  | .neg e => by
    unfold evalM; split
    · simp
    · exact boundM_in _
  | .bin k a b => by
    unfold evalM; split
    · simp
    · split
      · simp
      · exact bothM_in _ _ _
def okE : Ex → Prop
  | .neg e => okE e
  | .bin k a b => (5 ≤ k ∧ k ≤ 11) ∧ okE a ∧ okE b
  | _ => True
theorem findI_find {α : Type} (p : α → Bool) : ∀ l : List α, (findI p l = -1 ∧ l.find? p = none) ∨ ∃ (i : Nat) (hi : i < l.length), findI p l = (i : Nat) ∧ l.find? p = some l[i] := fun l => by
  unfold findI
  cases h : l.findIdx? p with
  | none =>
    rw [List.findIdx?_eq_none_iff] at h
    exact .inl ⟨rfl, by rw [List.find?_eq_none]; intro x hx; simp [h x hx]⟩
  | some i =>
    rw [List.findIdx?_eq_some_iff_getElem] at h
    obtain ⟨hi, hp, hn⟩ := h
    refine .inr ⟨i, hi, rfl, ?_⟩
    rw [List.find?_eq_some_iff_getElem]
    exact ⟨hp, i, hi, rfl, fun j hj => by simpa using hn j hj⟩
theorem eval_sp (here : Int) (syms : List Sy) (hl : syms.length < 1000000) : ∀ (e : Ex), okE e → ∀ (h : AHeap) (Q : QT) {v : AV}, Row syE 2 h v syms → (∀ h', Fr [] h h' → Q (evV (evalM here syms e)) h') → C fn_expr_Eval [.agg (encE e), I here, v] h Q
  | .none, hk, h, Q, v, r, k => by
    refine expr_Eval_ok _ _ _ _ _ ?_
    unfold expr_Eval
    refine st_box (St.start h) rfl fun i h1 s1 => ?_
    have s1 : St h [] h1 [(i, true, .cells (encE .none))] := s1
    (repeat (first | refine st_fa ?_ | refine st_lenL2 ?_ | refine st_eql ?_ | refine st_load1 ‹_› (.head _) rfl ?_))
    exact k _ s1.fr
  | .num n, hk, h, Q, v, r, k => by
    refine expr_Eval_ok _ _ _ _ _ ?_
    unfold expr_Eval
    refine st_box (St.start h) rfl fun i h1 s1 => ?_
    have s1 : St h [] h1 [(i, true, .cells (encE (.num n)))] := s1
    (repeat (first | refine st_fa ?_ | refine st_eql ?_ | refine st_load1 ‹_› (.head _) rfl ?_))
    refine bound_sp _ ?_
    (repeat refine st_ext rfl ?_)
    exact k _ s1.fr
  | .here, hk, h, Q, v, r, k => by
    refine expr_Eval_ok _ _ _ _ _ ?_
    unfold expr_Eval
    refine st_box (St.start h) rfl fun i h1 s1 => ?_
    have s1 : St h [] h1 [(i, true, .cells (encE .here))] := s1
    (repeat (first | refine st_fa ?_ | refine st_eql ?_ | refine st_load1 ‹_› (.head _) rfl ?_))
    refine bound_sp _ ?_
    (repeat refine st_ext rfl ?_)
    exact k _ s1.fr
  | .name s, hk, h, Q, v, r, k => by
    refine expr_Eval_ok _ _ _ _ _ ?_
    unfold expr_Eval
    refine st_box (St.start h) rfl fun i h1 s1 => ?_
    have s1 : St h [] h1 [(i, true, .cells (encE (.name s)))] := s1
    (repeat (first | refine st_fa ?_ | refine st_eql ?_ | refine st_load1 ‹_› (.head _) rfl ?_))
    refine indexFunc_api_Sym_sp (enc := syE) (fun _ => rfl) _ (fun y => decide (y.1 = s)) syms (by omega) (r.fr s1.fr) (fun x hx h2 Q f2 kq => ?_) fun h2 f2 => ?_
    · show ACall Pg fn_expr_Eval_1 _ _ _
      refine expr_Eval_1_ok _ _ _ _ ?_
      unfold expr_Eval_1
      have s2 := St.startr (f2.get (s1.get (.head _)) (by simp))
      refine st_box s2 rfl fun j h3 s3 => ?_
      (repeat (first | refine st_fa ?_ | refine st_seq ?_ | refine st_load1 ‹_› (by first | exact .head _ | exact .tail _ (.head _)) rfl ?_))
      exact kq _ s3.fr
    · have s2 := s1.call f2
      unfold evalM at k
      rcases findI_find (fun y : Sy => decide (y.1 = s)) syms with ⟨e1, e2⟩ | ⟨j, hj, e1, e2⟩
      · rw [e1]
        rw [e2] at k
        (repeat refine st_lss ?_)
        exact k _ s2.fr
      · rw [e1]
        rw [e2] at k
        (repeat refine st_lss ?_)
        refine (r.fr s2.fr).idx (fun _ => rfl) hj fun p t => ?_
        refine st_pfa t (nle rfl) fun q t2 => ?_
        refine st_pload1 t2 ?_
        refine bound_sp _ ?_
        (repeat refine st_ext rfl ?_)
        exact k _ s2.fr
  | .neg e, hk, h, Q, v, r, k => by
    refine expr_Eval_ok _ _ _ _ _ ?_
    unfold expr_Eval
    refine st_box (St.start h) rfl fun i h1 s1 => ?_
    have s1 : St h [] h1 [(i, true, .cells (encE (.neg e)))] := s1
    (repeat (first | refine st_fa ?_ | refine st_lenL2 ?_ | refine st_eql ?_ | refine st_load1 ‹_› (.head _) rfl ?_))
    have R1 : ∀ h, Row encE 4 h (.full 1 (encE e)) [e] := fun h => by
      have := Row.full (h := h) (enc := encE) encE_len [e]
      simpa using this
    refine (R1 h1).idx encE_len (j := 0) (by simp) fun p t => ?_
    refine st_ploadAll t (encE_len e).symm ?_
    refine eval_sp here syms hl e hk h1 _ (r.fr s1.fr) fun h2 f2 => ?_
    have s2 := s1.call f2
    have hin := evalM_in here syms e
    unfold evalM at k
    (repeat (first | refine st_ext rfl ?_ | refine st_neq ?_))
    refine st_if (fun h1 => ?_) (fun h1 => ?_) <;> simp only [za, zb, zc, zd, ze, zf, zg, zh, zi, u8i, zj, zk, zl] at h1
    · rw [if_pos h1] at k
      exact k _ s2.fr
    · rw [if_neg (by omega)] at k
      (repeat (first | refine st_fa ?_ | refine st_lenL2 ?_ | refine st_eql ?_ | refine st_load1 ‹_› (.head _) rfl ?_))
      refine st_neg (by simp [evV]; omega) ?_
      refine bound_sp _ ?_
      (repeat refine st_ext rfl ?_)
      exact k _ s2.fr
  | .bin kd a b, hk, h, Q, v, r, k => by
    obtain ⟨hkd, hka, hkb⟩ := hk
    refine expr_Eval_ok _ _ _ _ _ ?_
    unfold expr_Eval
    refine st_box (St.start h) rfl fun i h1 s1 => ?_
    have s1 : St h [] h1 [(i, true, .cells (encE (.bin kd a b)))] := s1
    have R2 : ∀ h, Row encE 4 h (.full 2 (encE a ++ encE b)) [a, b] := fun h => by
      have := Row.full (h := h) (enc := encE) encE_len [a, b]
      simpa using this
    (repeat (first | refine st_fa ?_ | refine st_eql ?_ | refine st_load1 ‹_› (.head _) rfl ?_))
    refine st_if (fun hb => absurd hb (by simp; omega)) (fun _ => ?_)
    (repeat (first | refine st_fa ?_ | refine st_eql ?_ | refine st_load1 ‹_› (.head _) rfl ?_))
    refine st_if (fun hb => absurd hb (by simp; omega)) (fun _ => ?_)
    (repeat (first | refine st_fa ?_ | refine st_eql ?_ | refine st_load1 ‹_› (.head _) rfl ?_))
    refine st_if (fun hb => absurd hb (by simp; omega)) (fun _ => ?_)
    (repeat (first | refine st_fa ?_ | refine st_lenL2 ?_ | refine st_eql ?_ | refine st_load1 ‹_› (.head _) rfl ?_))
    refine (R2 h1).idx encE_len (j := 0) (by simp) fun p t => ?_
    refine st_ploadAll t (encE_len a).symm ?_
    refine eval_sp here syms hl a hka h1 _ (r.fr s1.fr) fun h2 f2 => ?_
    have s2 := s1.call f2
    have hin := evalM_in here syms a
    have hin2 := evalM_in here syms b
    unfold evalM at k
    (repeat (first | refine st_ext rfl ?_ | refine st_neq ?_))
    refine st_if (fun ha => ?_) (fun ha => ?_) <;> simp only [za, zb, zc, zd, ze, zf, zg, zh, zi, u8i, zj, zk, zl] at ha
    · rw [if_pos ha] at k
      exact k _ s2.fr
    rw [if_neg (by omega)] at k
    (repeat (first | refine st_fa ?_ | refine st_lenL2 ?_ | refine st_eql ?_ | refine st_load1 ‹_› (.head _) rfl ?_))
    refine (R2 h2).idx encE_len (j := 1) (by simp) fun p t => ?_
    refine st_ploadAll t (encE_len b).symm ?_
    refine eval_sp here syms hl b hkb h2 _ (r.fr s2.fr) fun h3 f3 => ?_
    have s3 := s2.call f3
    (repeat (first | refine st_ext rfl ?_ | refine st_neq ?_))
    refine st_if (fun hb => ?_) (fun hb => ?_) <;> simp only [za, zb, zc, zd, ze, zf, zg, zh, zi, u8i, zj, zk, zl] at hb
    · rw [if_pos hb] at k
      exact k _ s3.fr
    rw [if_neg (by omega)] at k
    (repeat (first | refine st_fa ?_ | refine st_load1 ‹_› (.head _) rfl ?_))
    refine both_sp kd _ _ hin hin2 ?_
    (repeat refine st_ext rfl ?_)
    exact k _ s3.fr
end
end
end
section
noncomputable section
variable [Tabs]
def addN (out : List Str) (n : Str) : List Str := if out.any (fun y => decide (n = y)) = true then out else out ++ [n]
def namesM : Ex → List Str
  | .name s => [s]
  | .neg e => (namesM e).foldl addN []
  | .bin _ a b => (namesM b).foldl addN ((namesM a).foldl addN [])
  | _ => []
def sizeE : Ex → Nat
  | .neg e => 1 + sizeE e
  | .bin _ a b => 1 + sizeE a + sizeE b
  | _ => 1
theorem addN_len (out : List Str) (n : Str) : (addN out n).length ≤ out.length + 1 := by unfold addN; split <;> simp
theorem foldN_len : ∀ (l out : List Str), (l.foldl addN out).length ≤ out.length + l.length
  | [], out => by simp
  | n :: l, out => by
    have h1 := foldN_len l (addN out n)
    have h2 := addN_len out n
    simp only [List.foldl_cons, List.length_cons]; omega
theorem namesM_len : ∀ e : Ex, (namesM e).length ≤ sizeE e
  | .none => by simp [namesM]
  | .num _ => by simp [namesM]
  | .here => by simp [namesM]
  | .name _ => by simp [namesM, sizeE]
  | .neg e => by
    have h1 := foldN_len (namesM e) []
    have h2 := namesM_len e
    simp only [namesM, sizeE, List.length_nil] at *; omega
  | .bin k a b => by
    have h1 := foldN_len (namesM a) []
    have h2 := foldN_len (namesM b) ((namesM a).foldl addN [])
    have h3 := namesM_len a
    have h4 := namesM_len b
    simp only [namesM, sizeE, List.length_nil] at *; omega
def childs : Ex → List Ex
  | .neg e => [e]
  | .bin _ a b => [a, b]
  | _ => []
def own0 : Ex → List Str
  | .name s => [s]
  | _ => []
theorem namesM_eq (e : Ex) : namesM e = (childs e).foldl (fun out c => (namesM c).foldl addN out) (own0 e) := by cases e <;> rfl
theorem childs_small {e c : Ex} (h : c ∈ childs e) : sizeE c < sizeE e := by
  cases e <;> simp [childs] at h
  · subst h; simp [sizeE]
  · rcases h with rfl | rfl <;> simp [sizeE] <;> omega
theorem okE_childs {e c : Ex} (hk : okE e) (h : c ∈ childs e) : okE c := by
  cases e <;> simp [childs] at h
  · subst h; exact hk
  · rcases h with rfl | rfl
    · exact hk.2.1
    · exact hk.2.2
abbrev sE : Str → List AV := fun x => [T x]
theorem row_childs (e : Ex) (h : AHeap) : Row encE 4 h ((encE e)[3]'(by rw [encE_len]; omega)) (childs e) := by
  cases e with
  | none => exact .nil
  | num n => exact .nil
  | name s => exact .nil
  | here => exact .nil
  | neg e => simpa [encE, childs] using Row.full (h := h) (enc := encE) encE_len [e]
  | bin k a b => simpa [encE, childs] using Row.full (h := h) (enc := encE) encE_len [a, b]
theorem names_sp : ∀ (n : Nat) (e : Ex), okE e → sizeE e ≤ n → n < 100000000 → ∀ (h : AHeap) (Q : QT), (∀ h', Fr [] h h' → Q (.snap (namesM e).length ((namesM e).flatMap sE)) h') → C fn_expr_Names [.agg (encE e)] h Q
  | 0, e, _, hn, _, h, Q, k => by cases e <;> simp [sizeE] at hn
  | n + 1, e, hok, hn, hn2, h, Q, k => by
    refine expr_Names_ok _ _ _ ?_
    unfold expr_Names
    refine st_box (St.start h) rfl fun i h1 s1 => ?_
    have s1 : St h [] h1 [(i, true, .cells (encE e))] := s1
    have RC := row_childs e
    have rest : ∀ (v : AV) (E : Own) (h2 : AHeap), AccE 1 v (own0 e).length ((own0 e).flatMap sE) E → St h [] h2 (E ++ [(i, true, .cells (encE e))]) → expr_Names_j14 v (.ptr i 0) h2 Q := by
      intro v E h2 a s2
      unfold expr_Names_j14
      (repeat refine st_fa ?_)
      refine st_load1 (a.rest s2) (.head _) (List.getElem?_eq_getElem (by rw [encE_len]; decide)) ?_
      refine (RC h2).len ?_
      refine st_loop (fun m vs h' => ∃ (j : Nat) (v : AV) (out : List Str) (E : Own), vs = [v, I (j : Nat)] ∧ m + j = (childs e).length ∧ AccE 1 v out.length (out.flatMap sE) E ∧ St h [] h' (E ++ [(i, true, .cells (encE e))]) ∧
        out = ((childs e).take j).foldl (fun out c => (namesM c).foldl addN out) (own0 e) ∧ out.length ≤ 1 + j * n) (childs e).length ⟨0, v, own0 e, E, rfl, by omega, a, s2, rfl, by cases e <;> simp [own0]⟩ ?_
      rintro m vs h3 ⟨j, v, out, E, rfl, hm, a, s3, hout, hol⟩
      unfold expr_Names_l13
      (repeat refine st_lss ?_)
      have hcl : (childs e).length ≤ 2 := by cases e <;> simp [childs]
      refine st_if (fun hb => ?_) (fun hb => ?_) <;> simp only [za, zb, zc, zd, ze, zf, zg, zh, zi, u8i, zj, zk, zl] at hb
      · have hj : j < (childs e).length := hb
        have hc := childs_small (List.getElem_mem hj)
        refine (RC h3).idx encE_len hj fun p t => ?_
        refine st_ploadAll t (encE_len _).symm ?_
        refine st_new s3 fun q h4 s4 => ?_
        refine st_put4 s4 rfl (encE_len _) (encE_one _) .head fun h5 s5 => ?_
        refine st_get4 s5 (encE_len _) (.head _) ?_
        refine names_sp n (childs e)[j] (okE_childs hok (List.getElem_mem hj)) (by omega) (by omega) h5 _ fun h6 f6 => ?_
        have s6 := (s5.call f6).drop1
        have hnl := namesM_len (childs e)[j]
        (repeat refine st_lenL1 ?_)
        have RN6 : ∀ h, Row sE 1 h (.snap (namesM (childs e)[j]).length ((namesM (childs e)[j]).flatMap sE)) (namesM (childs e)[j]) := fun h => Row.snap (enc := sE) (fun _ => rfl) _
        generalize hns : namesM (childs e)[j] = ns at RN6 hnl ⊢
        have hb2 : j * n ≤ 2 * n := Nat.mul_le_mul_right _ (by omega)
        refine st_loop (fun m2 vs h' => ∃ (q : Nat) (v : AV) (o : List Str) (E : Own), vs = [v, I (q : Nat)] ∧ m2 + q = ns.length ∧ AccE 1 v o.length (o.flatMap sE) E ∧ St h [] h' (E ++ [(i, true, .cells (encE e))]) ∧
          o = (ns.take q).foldl addN out ∧ o.length ≤ out.length + q) ns.length ⟨0, v, out, E, rfl, by omega, a, s6, rfl, by omega⟩ ?_
        rintro m2 vs h7 ⟨q2, v2, o, E2, rfl, hm2, a2, s7, ho, hoo⟩
        unfold expr_Names_l11
        (repeat refine st_lss ?_)
        refine st_if (fun hb3 => ?_) (fun hb3 => ?_) <;> simp only [za, zb, zc, zd, ze, zf, zg, zh, zi, u8i, zj, zk, zl] at hb3
        · have hq : q2 < ns.length := hb3
          refine (RN6 h7).idx (fun _ => rfl) hq fun p t => ?_
          refine st_pload1 t ?_
          have RO : Row sE 1 h7 v2 o := a2.rd s7
          refine contains_string_sp ns[q2] o (by omega) RO ?_
          have hnext : (ns.take (q2 + 1)).foldl addN out = addN o ns[q2] := by
            rw [List.take_succ_eq_append_getElem hq, List.foldl_append, ← ho]; rfl
          refine st_not ?_
          cases hc2 : o.any fun y => decide (ns[q2] = y) with
          | true =>
            refine st_if (fun h => by cases h) (fun _ => ?_)
            unfold expr_Names_b10 expr_Names_j9
            refine st_add (by omega) ?_
            refine ⟨m2 - 1, by omega, q2 + 1, v2, o, E2, rfl, by omega, a2, s7, ?_, by omega⟩
            rw [hnext, addN, if_pos hc2]
          | false =>
            refine st_if (fun _ => ?_) (fun h => by cases h)
            refine st_buildS rfl rfl ?_
            refine a2.app s7 (xs := [T ns[q2]]) (m := 1) (Rd.full rfl) rfl (by omega) fun v3 E3 h8 a3 s8 => ?_
            unfold expr_Names_b10 expr_Names_j9
            refine st_add (by omega) ?_
            refine ⟨m2 - 1, by omega, q2 + 1, v3, o ++ [ns[q2]], E3, rfl, by omega, by simpa using a3, s8, ?_, by simp; omega⟩
            rw [hnext, addN, if_neg (by simp [hc2])]
        · have hq : ns.length ≤ q2 := by omega
          rw [List.take_of_length_le hq] at ho
          refine st_add (by omega) ?_
          have hj1 : (j + 1) * n = j * n + n := by rw [Nat.add_mul]; omega
          refine ⟨m - 1, by omega, j + 1, v2, o, E2, rfl, by omega, a2, s7, ?_, by omega⟩
          rw [List.take_succ_eq_append_getElem hj, List.foldl_append, ← hout, ho, ← hns]; rfl
      · have hj : (childs e).length ≤ j := by omega
        rw [List.take_of_length_le hj, ← namesM_eq] at hout
        have hnl := namesM_len e
        have hol2 : out.length = (namesM e).length := by rw [hout]
        refine clone_string_sp (by omega) (a.rd s3) fun h4 f4 => ?_
        rw [hout]
        exact k h4 (s3.call f4).fr
    cases e with
    | name s =>
      (repeat (first | refine st_fa ?_ | refine st_eql ?_ | refine st_load1 ‹_› (.head _) rfl ?_ | refine st_buildS rfl rfl ?_))
      refine st_app0 s1 (Rd.full (n := 1) (cs := [T s]) rfl) (by decide) (fun h => by omega) fun j h2 _ s2 => ?_
      exact rest _ [(j, true, .cells [T s])] h2 (.inr ⟨rfl, j, rfl, rfl⟩) s2
    | none =>
      refine st_fa (st_load1 s1 (.head _) rfl (st_eql (st_if (fun h => absurd h (by decide)) (fun _ => ?_))))
      exact rest _ [] _ (.none _) s1
    | num n =>
      refine st_fa (st_load1 s1 (.head _) rfl (st_eql (st_if (fun h => absurd h (by decide)) (fun _ => ?_))))
      exact rest _ [] _ (.none _) s1
    | here =>
      refine st_fa (st_load1 s1 (.head _) rfl (st_eql (st_if (fun h => absurd h (by decide)) (fun _ => ?_))))
      exact rest _ [] _ (.none _) s1
    | neg e =>
      refine st_fa (st_load1 s1 (.head _) rfl (st_eql (st_if (fun h => absurd h (by decide)) (fun _ => ?_))))
      exact rest _ [] _ (.none _) s1
    | bin k a b =>
      have hk2 := hok.1
      refine st_fa (st_load1 s1 (.head _) rfl (st_eql (st_if (fun h => absurd h (by simp; omega)) (fun _ => ?_))))
      exact rest _ [] _ (.none _) s1
end
end
section
noncomputable section
variable [Tabs]
def TestsB (fv : AV) (p : UInt8 → Bool) : Prop := ∀ (c : UInt8) (h : AHeap) (Q : QT), Q (B (p c)) h → CV fv [U8 c] h Q
section
variable {h : AHeap} {Q : QT}
def frontN (p : UInt8 → Bool) (l : Str) : Nat := (l.takeWhile p).length
theorem frontN_le (p : UInt8 → Bool) (l : Str) : frontN p l ≤ l.length := (List.takeWhile_sublist _).length_le
theorem frontN_eq {p : UInt8 → Bool} {l : Str} : frontN p l = l.length ↔ l.all p = true := by
  unfold frontN
  constructor
  · intro h
    have : l.takeWhile p = l := (List.takeWhile_sublist p).eq_of_length h
    rw [List.all_eq_true]
    exact takeWhile_self.1 this
  · intro h
    rw [List.all_eq_true] at h
    rw [takeWhile_self.2 h]
theorem front_sp {fv : AV} {p : UInt8 → Bool} (ht : TestsB fv p) (l : Str) (hl : l.length < 4611686018427387904) (k : Q (I (frontN p l : Nat)) h) : C fn_line_front [T l, fv] h Q := by
  refine line_front_ok _ _ _ _ ?_
  unfold line_front
  refine st_loop (fun n vs h' => h' = h ∧ ∃ i : Nat, vs = [I (i : Nat)] ∧ n + i = l.length ∧ ∀ j (hj : j < l.length), j < i → p l[j] = true) l.length ⟨rfl, 0, rfl, by omega, fun j _ hj => by omega⟩ ?_
  rintro n vs h' ⟨rfl, i, rfl, hn, ha⟩
  unfold line_front_l2
  (repeat (first | refine st_lenS ?_ | refine st_lss ?_))
  refine st_if (fun hb => ?_) (fun hb => ?_) <;> simp only [za, zb, zc, zd, ze, zf, zg, zh, zi, u8i, zj, zk, zl] at hb
  · have hi : i < l.length := hb
    refine st_indexN hi ?_
    refine ht l[i] _ _ ?_
    cases hp : p l[i] with
    | true =>
      refine st_if (fun _ => ?_) (fun h => by cases h)
      (repeat refine st_add (by omega) ?_)
      refine ⟨n - 1, by omega, rfl, i + 1, rfl, by omega, fun j hj hj2 => ?_⟩
      rcases Nat.lt_or_eq_of_le (Nat.le_of_lt_succ hj2) with h1 | h1
      · exact ha j hj h1
      · subst h1; exact hp
    | false =>
      refine st_if (fun h => by cases h) (fun _ => ?_)
      have : frontN p l = i := by
        unfold frontN
        rw [takeWhile_cut hi (fun j hj => ha j (by omega) hj) hp]; simp; omega
      rw [this] at k; exact k
  · have : frontN p l = i := by
      unfold frontN
      rw [takeWhile_all fun j hj => ha j hj (by omega)]; omega
    rw [this] at k; exact k
abbrev bDigit (c : UInt8) : Bool := pDigit c.toNat
abbrev bInner (c : UInt8) : Bool := pInner c.toNat
theorem ldigit_sp (c : UInt8) (k : Q (B (bDigit c)) h) : C fn_line_digit [U8 c] h Q := by
  refine line_digit_ok _ _ _ ?_
  unfold line_digit
  have e1 : decide ((48 : Int) ≤ c.toNat) = decide (48 ≤ c.toNat) := dcast (a := 48)
  have e2 : decide ((c.toNat : Int) ≤ 57) = decide (c.toNat ≤ 57) := dcast (b := 57)
  unfold bDigit pDigit at k
  refine st_geq ?_
  rw [e1]
  cases h1 : decide (48 ≤ c.toNat) with
  | true =>
    refine st_if (fun _ => ?_) (fun h => by cases h)
    refine st_leq ?_
    rw [h1, Bool.true_and] at k
    rw [e2]; exact k
  | false =>
    refine st_if (fun h => by cases h) (fun _ => ?_)
    rw [h1, Bool.false_and] at k; exact k
theorem linner_sp (c : UInt8) (k : Q (B (bInner c)) h) : C fn_line_inner [U8 c] h Q := by
  refine line_inner_ok _ _ _ ?_
  unfold line_inner
  have e1 : decide ((97 : Int) ≤ c.toNat) = decide (97 ≤ c.toNat) := dcast (a := 97)
  have e2 : decide ((c.toNat : Int) ≤ 122) = decide (c.toNat ≤ 122) := dcast (b := 122)
  have e3 : decide ((c.toNat : Int) = 95) = decide (c.toNat = 95) := deqc (b := 95)
  unfold bInner pInner pSmall at k
  have tail : ∀ (h' : h = h), (Q (B (decide (c.toNat = 95) || pDigit c.toNat)) h) → qBin .eql (U8 c) (.lit (.int .u8 95)) fun t11 => ifB t11 (Q (B true) h) (C fn_line_digit [U8 c] h fun t15 h0 => Q t15 h0) := by
    intro _ k
    refine st_eql ?_
    rw [e3]
    cases h3 : decide (c.toNat = 95) with
    | true =>
      refine st_if (fun _ => ?_) (fun h => by cases h)
      rw [h3, Bool.true_or] at k; exact k
    | false =>
      refine st_if (fun h => by cases h) (fun _ => ?_)
      rw [h3, Bool.false_or] at k
      exact ldigit_sp c k
  refine st_geq ?_
  rw [e1]
  cases h1 : decide (97 ≤ c.toNat) with
  | true =>
    refine st_if (fun _ => ?_) (fun h => by cases h)
    rw [h1, Bool.true_and] at k
    refine st_leq ?_
    rw [e2]
    cases h2 : decide (c.toNat ≤ 122) with
    | true =>
      refine st_if (fun _ => ?_) (fun h => by cases h)
      rw [h2, Bool.true_or, Bool.true_or] at k; exact k
    | false =>
      refine st_if (fun h => by cases h) (fun _ => ?_)
      rw [h2, Bool.false_or] at k
      exact tail rfl k
  | false =>
    refine st_if (fun h => by cases h) (fun _ => ?_)
    rw [h1, Bool.false_and, Bool.false_or] at k
    exact tail rfl k
theorem tInner : TestsB (.fn (.func fn_line_inner) [] []) bInner := fun c h Q k => linner_sp c k
theorem tDigit : TestsB (.fn (.func fn_line_digit) [] []) bDigit := fun c h Q k => ldigit_sp c k
theorem bneq_front {p : UInt8 → Bool} {l : Str} : decide (((frontN p l : Nat) : Int) ≠ ((l.length : Nat) : Int)) = !(l.all p) := by
  rw [Bool.eq_iff_iff, decide_eq_true_eq, Bool.not_eq_true', ← Bool.not_eq_true, ← frontN_eq]; omega
theorem Word_sp (s : Str) (hs : s.length < 4611686018427387904) (k : Q (B (isWord s)) h) : C fn_line_Word [T s] h Q := by
  refine line_Word_ok _ _ _ ?_
  unfold line_Word
  cases s with
  | nil => (repeat refine st_seq ?_); exact k
  | cons c t =>
  dsimp only [isWord] at k
  (repeat (first | refine st_lenS ?_ | refine st_gtr ?_ | refine st_seq ?_))
  refine st_if (fun hl => ?_) (fun hl => ?_) <;> simp only [za, zb, zc, zd, ze, zf, zg, zh, zi, u8i, zj, zk, zl] at hl
  · have e : decide ((c :: t).length ≤ 12) = false := by simp at hl ⊢; omega
    rw [e, Bool.false_and] at k
    exact k
  have e : decide ((c :: t).length ≤ 12) = true := by simp at hl ⊢; omega
  rw [e, Bool.true_and] at k
  refine st_index (by omega) (by simp) ?_
  refine ldigit_sp c ?_
  cases h2 : bDigit c with
  | true =>
    refine st_if (fun _ => ?_) (fun h => by cases h)
    rw [show pDigit c.toNat = true from h2] at k
    exact k
  | false =>
  refine st_if (fun h => by cases h) (fun _ => ?_)
  rw [show pDigit c.toNat = false from h2] at k
  simp only [Bool.not_false, Bool.true_and] at k
  refine front_sp tInner _ hs ?_
  refine st_lenS ?_
  refine st_neq ?_
  rw [bneq_front]
  cases h3 : (c :: t).all bInner with
  | false =>
    refine st_if (fun _ => ?_) (fun h => by cases h)
    rw [show ((c :: t).all fun c => pInner c.toNat) = false from h3, Bool.false_and] at k
    exact k
  | true =>
  refine st_if (fun h => by cases h) (fun _ => ?_)
  rw [show ((c :: t).all fun c => pInner c.toNat) = true from h3, Bool.true_and] at k
  refine st_index (by omega) (by simp) ?_
  refine st_neq ?_
  have e4 : decide ((((c :: t)[Int.toNat 0].toNat : Nat) : Int) ≠ 114) = decide (c ≠ 114) := by
    rw [Bool.eq_iff_iff]; simp [← UInt8.toNat_inj]; omega
  rw [e4]
  cases h4 : decide (c ≠ 114) with
  | true =>
    refine st_if (fun _ => ?_) (fun h => by cases h)
    rw [h4, Bool.true_or] at k
    exact k
  | false =>
  refine st_if (fun h => by cases h) (fun _ => ?_)
  rw [h4, Bool.false_or] at k
  (repeat (first | refine st_lenS ?_ | refine st_eql ?_))
  cases t with
  | nil => refine st_if (fun _ => ?_) (fun hb => (by exfalso; first | (simp at hb; done) | (simp at hb; omega) | (revert hb; decide) | omega)); exact k
  | cons d t =>
  refine st_if (fun h => by simp at h; omega) (fun _ => ?_)
  refine st_cutr (by omega) (by simp; omega) ?_
  rw [show ((c :: d :: t).drop (Int.toNat 1)) = d :: t from rfl]
  refine front_sp tDigit (d :: t) (by simp at hs ⊢; omega) ?_
  refine st_lenS ?_
  refine st_sub (by simp at hs ⊢; omega) ?_
  refine st_neq ?_
  rw [show (((c :: d :: t).length : Nat) : Int) - 1 = (((d :: t).length : Nat) : Int) by simp, bneq_front]
  exact k
def AtoiOk : Prop := ∀ (s : Str), 1 ≤ s.length → s.length ≤ 2 → s.all bDigit = true → ∀ (h : AHeap) (Q : QT), Q (.tup [I (s.foldl (fun n c => n * 10 + (c.toNat - 48)) 0 : Nat), .lit .nilIface]) h → C fn_strconv_Atoi [T s] h Q
def decV (s : Str) : Nat := s.foldl (fun n c => n * 10 + (c.toNat - 48)) 0
def regM (s : Str) : Nat × Bool := match s with
  | c :: t => if decide (c = 114) && (decide (t.length = 1 ∨ t.length = 2) && (t.all bDigit && !(decide (t.length = 2) && decide (t.head? = some 48)))) then (decV t, decide (decV t < 32)) else (0, false)
  | [] => (0, false)
theorem register_sp (hA : AtoiOk) (s : Str) (hs : s.length < 4611686018427387904) (k : Q (.tup [I ((regM s).1 : Nat), B (regM s).2]) h) : C fn_line_register [T s] h Q := by
  refine line_register_ok _ _ _ ?_
  unfold line_register
  (repeat (first | refine st_lenS ?_ | refine st_lss ?_))
  cases s with
  | nil => refine st_if (fun _ => ?_) (fun hb => (by exfalso; first | (simp at hb; done) | (simp at hb; omega) | (revert hb; decide) | omega)); exact k
  | cons c t =>
  dsimp only [regM] at k
  refine st_if (fun h1 => ?_) (fun h1 => ?_) <;> simp only [za, zb, zc, zd, ze, zf, zg, zh, zi, u8i, zj, zk, zl] at h1
  · have : t.length = 0 := by simp at h1; omega
    rw [if_neg (by simp; omega)] at k
    exact k
  (repeat (first | refine st_lenS ?_ | refine st_gtr ?_))
  refine st_if (fun h2 => ?_) (fun h2 => ?_) <;> simp only [za, zb, zc, zd, ze, zf, zg, zh, zi, u8i, zj, zk, zl] at h2
  · rw [if_neg (by simp at h2 ⊢; omega)] at k
    exact k
  have ht : t.length = 1 ∨ t.length = 2 := by simp at h1 h2; omega
  refine st_index (by omega) (by simp) ?_
  (repeat refine st_neq ?_)
  have e4 : decide ((((c :: t)[Int.toNat 0].toNat : Nat) : Int) ≠ 114) = decide (c ≠ 114) := by
    rw [Bool.eq_iff_iff]; simp [← UInt8.toNat_inj]; omega
  rw [e4]
  refine st_if (fun h3 => ?_) (fun h3 => ?_) <;> simp only [za, zb, zc, zd, ze, zf, zg, zh, zi, u8i, zj, zk, zl] at h3
  · rw [if_neg (by simp [h3])] at k
    exact k
  have h3 : c = 114 := by simpa using h3
  refine st_cutr (by omega) (by simp; omega) ?_
  rw [show ((c :: t).drop (Int.toNat 1)) = t from rfl]
  refine front_sp tDigit t (by omega) ?_
  (repeat (first | refine st_lenS ?_ | refine st_neq ?_ | refine st_sub (by omega) ?_))
  rw [show (((c :: t).length : Nat) : Int) - 1 = ((t.length : Nat) : Int) by simp, bneq_front]
  cases h5 : t.all bDigit with
  | false =>
    refine st_if (fun _ => ?_) (fun h => by cases h)
    rw [if_neg (by simp [h5])] at k
    exact k
  | true =>
  refine st_if (fun h => by cases h) (fun _ => ?_)
  (repeat (first | refine st_lenS ?_ | refine st_eql ?_))
  have fin : (!(decide (t.length = 2) && decide (t.head? = some 48))) = true → qSliceS (T (c :: t)) (some (I 1)) none fun t40 => C fn_strconv_Atoi [t40] h fun t41 h1 => qExtract 0 t41 fun t42 => qExtract 1 t41 fun t43 => qBin .lss t42 (I 32) fun t46 => Q (.tup [t42, t46]) h1 := by
    intro hz
    refine st_cutr (by omega) (by simp; omega) ?_
    rw [show ((c :: t).drop (Int.toNat 1)) = t from rfl]
    refine hA t (by omega) (by omega) h5 _ _ ?_
    (repeat (first | refine st_ext rfl ?_ | refine st_lss ?_))
    rw [if_pos (by simp only [h3, h5, hz, decide_true, Bool.true_and, Bool.and_true, decide_eq_true_eq]; exact ht)] at k
    have e5 : decide (((t.foldl (fun n c => n * 10 + (c.toNat - 48)) 0 : Nat) : Int) < 32) = decide (decV t < 32) := by
      unfold decV; rw [Bool.eq_iff_iff, decide_eq_true_eq, decide_eq_true_eq]; omega
    rw [e5]
    exact k
  cases h6 : decide (t.length = 2) with
  | true =>
    simp only [decide_eq_true_eq] at h6
    obtain ⟨a, b, rfl⟩ : ∃ a b, t = [a, b] := by
      match t, h6 with
      | [a, b], _ => exact ⟨a, b, rfl⟩
    have e6 : decide ((([c, a, b].length : Nat) : Int) = 3) = true := by simp
    rw [e6]
    refine st_ifT (st_if (fun _ => ?_) (fun h => by cases h)) ⟨_, rfl⟩
    refine st_index (by omega) (by simp) ?_
    refine st_eql ?_
    have e7 : decide ((([c, a, b][Int.toNat 1].toNat : Nat) : Int) = 48) = decide (a = 48) := by
      rw [Bool.eq_iff_iff]; simp [← UInt8.toNat_inj]; omega
    rw [e7]
    refine st_if (fun h8 => ?_) (fun h8 => ?_) <;> simp only [za, zb, zc, zd, ze, zf, zg, zh, zi, u8i, zj, zk, zl] at h8
    · rw [if_neg (by simp [h8])] at k; exact k
    · exact fin (by simp [h8])
  | false =>
    simp only [decide_eq_false_iff_not] at h6
    have e6 : decide ((((c :: t).length : Nat) : Int) = 3) = false := by simp; omega
    rw [e6]
    refine st_ifT (st_if (fun h => by cases h) (fun _ => ?_)) ⟨_, rfl⟩
    exact fin (by simp [h6])
def operandsM (s : Str) : List Str := if s = [] then [] else (splitB 44 s).map trim
theorem splitB_sum (c : UInt8) : ∀ (l x : Str), x ∈ splitB c l → x.length ≤ l.length
  | [], x, h => by simp [splitB] at h; subst h; simp
  | a :: l, x, h => by
    unfold splitB at h
    split at h
    · rcases List.mem_cons.1 h with rfl | h
      · simp
      · have := splitB_sum c l x h; simp; omega
    · cases hs : splitB c l with
      | nil => rw [hs] at h; simp at h; subst h; simp
      | cons p ps =>
        rw [hs] at h
        rcases List.mem_cons.1 h with rfl | h
        · have := splitB_sum c l p (by rw [hs]; simp); simp; omega
        · have := splitB_sum c l x (by rw [hs]; simp [h]); simp; omega
theorem operands_sp' (hI : IndexOk) (s : Str) (hs : s.length < 4000000000) (k : ∀ h', Fr [] h h' → Q (.snap (operandsM s).length ((operandsM s).flatMap sE)) h') : C fn_line_operands [T s] h Q := by
  refine ACall.conv ?_
  refine line_operands_ok _ _ _ ?_
  unfold line_operands
  unfold operandsM at k
  (repeat refine st_seq ?_)
  refine st_if (fun hb => ?_) (fun hb => ?_) <;> simp only [za, zb, zc, zd, ze, zf, zg, zh, zi, u8i, zj, zk, zl] at hb
  · rw [if_pos hb] at k
    exact conv_full (k _ (Fr.refl _ _))
  rw [if_neg hb] at k
  refine splitO_sp hI 44 s hs fun i h1 s1 => ?_
  have hsum := splitB_sum 44 s
  have hlen := splitB_len 44 s
  have hcnt := List.count_le_length (a := 44) (l := s)
  generalize splitB 44 s = ps at s1 k hsum hlen ⊢
  (repeat refine st_lenL3 ?_)
  refine st_loop (fun n vs h' => ∃ j : Nat, vs = [I (j : Nat)] ∧ n + j = ps.length ∧ St h [] h' [(i, true, .cells (((ps.take j).map trim ++ ps.drop j).flatMap fun x => [T x]))]) ps.length ⟨0, rfl, by omega, by simpa using s1⟩ ?_
  rintro n vs h2 ⟨j, rfl, hn, s2⟩
  unfold line_operands_l4
  (repeat refine st_lss ?_)
  have hll : ((ps.take j).map trim ++ ps.drop j).length = ps.length := by simp; omega
  refine st_if (fun hb2 => ?_) (fun hb2 => ?_) <;> simp only [za, zb, zc, zd, ze, zf, zg, zh, zi, u8i, zj, zk, zl] at hb2
  · have hj : j < ps.length := hb2
    refine st_ixSl hj ?_
    rw [Nat.mul_one]
    have hx : ((ps.take j).map trim ++ ps.drop j)[j]? = some ps[j] := by
      rw [List.getElem?_append_right (by simp; omega), List.getElem?_drop]
      have : j + (j - ((ps.take j).map trim).length) = j := by simp; omega
      rw [this]; simp [hj]
    refine st_load1 (a := T ps[j]) s2 (.head _) (by rw [flatT, List.getElem?_map, hx]; rfl) ?_
    refine trim_sp _ (by have := hsum _ (List.getElem_mem hj); omega) fun h3 f3 => ?_
    have s3 := s2.call f3
    refine st_ixSl hj ?_
    rw [Nat.mul_one]
    refine st_store s3 .head rfl rfl rfl (by rw [flat_len _ 1 (fun _ => rfl), hll]; omega) fun h4 s4 => ?_
    rw [show (T (trim ps[j])).cells = [T (trim ps[j])] from rfl, splice_put (by omega)] at s4
    (repeat refine st_add (by omega) ?_)
    refine ⟨n - 1, by omega, j + 1, rfl, by omega, ?_⟩
    have e : ((ps.take j).map trim ++ ps.drop j).set j (trim ps[j]) = (ps.take (j + 1)).map trim ++ ps.drop (j + 1) := by
      rw [List.set_append_right _ _ (by simp; omega), show j - ((ps.take j).map trim).length = 0 by simp; omega, List.drop_eq_getElem_cons hj, List.set_cons_zero, List.take_succ_eq_append_getElem hj, List.map_append, List.append_assoc]; rfl
    rw [e] at s4; exact s4
  · rw [List.take_of_length_le (by omega), List.drop_of_length_le (by omega), List.append_nil] at s2
    have := conv_sl (n := ps.length) (sz := 1) (Q := Q) (s2.get (i := i) (.head _)) (by rw [flat_len _ 1 (fun _ => rfl)]; simp) (by
      have := k _ (s2.kill .head).fr
      simpa using this)
    exact this
end
end
end
section
noncomputable section
variable [Tabs]
structure Ar where
  reg : Int
  e : Ex
  deriving DecidableEq
def arE (a : Ar) : List AV := I a.reg :: encE a.e
theorem arE_len (a : Ar) : (arE a).length = 5 := by simp [arE, encE_len]
theorem arE_one (a : Ar) : (arE a).all AV.one = true := by simp only [arE, List.all_cons, encE_one]; rfl
structure RS where
  lab : Str
  kind : Nat
  op : Nat
  text : Str
  args : List Ar
abbrev rdO (rs : RS) (v : AV) : AObj := .cells [I 1, T rs.lab, I (rs.kind : Nat), I (rs.op : Nat), T rs.text, v]
def RSt (h0 h : AHeap) (i : Nat) (rs : RS) : Prop := ∃ v E, AccE 5 v rs.args.length (rs.args.flatMap arE) E ∧ St h0 [] h (E ++ [(i, true, rdO rs v)])
theorem RSt.call {h0 h h' : AHeap} {i : Nat} {rs : RS} (r : RSt h0 h i rs) (f : Fr [] h h') : RSt h0 h' i rs := by
  obtain ⟨v, E, a, s⟩ := r
  exact ⟨v, E, a, s.call f⟩
theorem AccE.mem {sz n i : Nat} {v : AV} {cs : List AV} {E : Own} {x : Nat × Bool × AObj} : x ∈ E ++ [x] := by simp
section
variable {h0 h : AHeap} {Q : QT} {i : Nat}
theorem RSt.put {rs rs' : RS} (r : RSt h0 h i rs) {o : Nat} {u : AV} {K : AHeap → Prop} (hu : u.isTup = false) (hc : u.cells.length = 1) (h1 : u.cells.all AV.one = true) (ho : o + 1 ≤ 6) (ha : rs'.args = rs.args)
    (he : ∀ v, splice [I 1, T rs.lab, I (rs.kind : Nat), I (rs.op : Nat), T rs.text, v] o u.cells = [I 1, T rs'.lab, I (rs'.kind : Nat), I (rs'.op : Nat), T rs'.text, v]) (k : ∀ h', RSt h0 h' i rs' → K h') : qStore 1 (.ptr i o) u h K := by
  obtain ⟨v, E, a, s⟩ := r
  rcases a with ⟨a1, a2, rfl, rfl⟩ | ⟨a1, j, rfl, rfl⟩
  · refine st_store s (L' := [(i, true, rdO rs' (.full 0 []))]) (cs := [I 1, T rs.lab, I (rs.kind : Nat), I (rs.op : Nat), T rs.text, .full 0 []]) (by rw [he]; exact .head) hu hc h1 ho fun h' s' => ?_
    exact k h' ⟨_, [], .inl ⟨by rw [ha]; exact a1, by rw [ha]; exact a2, rfl, rfl⟩, s'⟩
  · refine st_store s (L' := [(j, true, .cells (rs.args.flatMap arE)), (i, true, rdO rs' (.sl j 0 rs.args.length 5))]) (cs := [I 1, T rs.lab, I (rs.kind : Nat), I (rs.op : Nat), T rs.text, .sl j 0 rs.args.length 5]) (by rw [he]; exact .tail .head) hu hc h1 ho fun h' s' => ?_
    exact k h' ⟨_, _, .inr ⟨by rw [ha]; exact a1, j, by rw [ha], rfl⟩, by rw [ha]; exact s'⟩
theorem RSt.load {rs : RS} (r : RSt h0 h i rs) {o : Nat} {a : AV} {K : AV → Prop} (ho : ∀ v, [I 1, T rs.lab, I (rs.kind : Nat), I (rs.op : Nat), T rs.text, v][o]? = some a) (k : K a) : qLoad1 (.ptr i o) h K := by
  obtain ⟨v, E, a, s⟩ := r
  exact st_load1 s (List.mem_append_right _ (.head _)) (ho v) k
inductive Way where
  | value
  | reg
  | word
abbrev wayF : Way → FuncId
  | .value => fn_line_reader_value
  | .reg => fn_line_reader_register
  | .word => fn_line_reader_word
def wayE (i : Nat) (w : Way) : List AV := [.fn (.func (wayF w)) [.ptr i 0] []]
def stepW : Way → Str → RS → RS × Bool
  | .value, s, rs => match parseE s with
    | some x => ({ rs with args := rs.args ++ [⟨-1, x⟩] }, true)
    | none => ({ rs with args := rs.args ++ [⟨-1, .none⟩] }, false)
  | .reg, s, rs => ({ rs with args := rs.args ++ [⟨(regM s).1, .none⟩] }, (regM s).2)
  | .word, s, rs => ({ rs with text := s }, isWord s)
theorem stepW_len (w : Way) (s : Str) (rs : RS) : (stepW w s rs).1.args.length ≤ rs.args.length + 1 := by
  cases w <;> simp only [stepW]
  · cases parseE s <;> simp
  · simp
  · simp
theorem way_sp (hA : AtoiOk) (w : Way) (s : Str) (hs : s.length < 4000000000) {rs : RS} (hn : rs.args.length < 1000) (r : RSt h0 h i rs) (k : ∀ h', RSt h0 h' i (stepW w s rs).1 → Q (B (stepW w s rs).2) h') : C (wayF w) [.ptr i 0, T s] h Q := by
  cases w with
  | value =>
    show C fn_line_reader_value _ _ _
    refine line_reader_value_ok _ _ _ _ ?_
    unfold line_reader_value
    have fin : ∀ (x : Ex) (b : Bool) (h1 : AHeap), Fr [] h h1 → stepW .value s rs = ({ rs with args := rs.args ++ [⟨-1, x⟩] }, b) → qNew [(I 0), (I 0), (S ⟨#[]⟩), (.full 0 [])] h1 fun t5 h1 => qStore 4 t5 (.agg (encE x)) h1 fun h2 => qNil (.ptr i 0) fun t14 => qFieldAddr 0 t14 fun t15 => qFieldAddr 5 t15 fun t16 => qLoad1 t16 h2 fun t17 => qLoadA 4 t5 h2 fun t18 => qBuild [(I 0), (I 0), (I 0), (S ⟨#[]⟩), (.full 0 [])] [(0, 1, (I (-1))), (1, 4, t18)] fun t19 => qBuildSlice 1 5 [t19] fun t20 => qAppend 5 64 t17 t20 h2 fun t21 h3 => qNil (.ptr i 0) fun t22 => qFieldAddr 0 t22 fun t23 => qFieldAddr 5 t23 fun t24 => qStore 1 t24 t21 h3 fun h4 => Q (B b) h4 := by
      intro x b h1 f1 hst
      obtain ⟨v, E, a, s1⟩ := r.call f1
      refine st_new s1 fun q h2 s2 => ?_
      refine st_put4 s2 rfl (encE_len _) (encE_one _) .head fun h3 s3 => ?_
      have s4 := s3.drop1
      refine st_nil (st_fa (st_fa (st_load1 s4 (cs := [I 1, T rs.lab, I (rs.kind : Nat), I (rs.op : Nat), T rs.text, v]) (b := true) (List.mem_append_right _ (.head _)) rfl ?_)))
      refine st_get4 s3 (encE_len _) (.head _) ?_
      refine st_build (cs := arE ⟨-1, x⟩) ?_ ?_
      · obtain ⟨c1, c2, c3, c4, e4⟩ := one4 (encE_len x)
        simp only [arE, e4]
        rfl
      refine st_buildS rfl (by simp [AV.isTup, AV.cells, arE_len]) ?_
      rw [show ([AV.agg (arE ⟨-1, x⟩)].flatMap fun x => x.cells) = arE ⟨-1, x⟩ by simp [AV.cells]]
      refine a.app s4 (xs := arE ⟨-1, x⟩) (m := 1) (Rd.full (by rw [arE_len])) (arE_one _) (by omega) fun v' E' h5 a5 s5 => ?_
      refine st_nil (st_fa (st_fa ?_))
      rw [hst] at k
      rcases a5 with ⟨a1, a2, rfl, rfl⟩ | ⟨a1, j, rfl, rfl⟩
      · simp at a1
      · refine st_store s5 (L' := [(j, true, .cells (rs.args.flatMap arE ++ arE ⟨-1, x⟩)), (i, true, rdO { rs with args := rs.args ++ [⟨-1, x⟩] } (.sl j 0 (rs.args.length + 1) 5))]) (cs := [I 1, T rs.lab, I (rs.kind : Nat), I (rs.op : Nat), T rs.text, v]) (.tail .head) rfl rfl rfl (nle rfl) fun h6 s6 => ?_
        exact k h6 ⟨.sl j 0 (rs.args.length + 1) 5, [(j, true, .cells (rs.args.flatMap arE ++ arE ⟨-1, x⟩))], .inr ⟨by simpa using a1, j, by simp, by simp⟩, s6⟩
    refine parse_sp s (fun x hx h1 f1 => ?_) (fun hx h1 f1 => ?_)
    · (repeat refine st_ext rfl ?_)
      exact fin x true h1 f1 (by simp [stepW, hx])
    · (repeat refine st_ext rfl ?_)
      exact fin .none false h1 f1 (by simp [stepW, hx])
  | reg =>
    show C fn_line_reader_register _ _ _
    refine line_reader_register_ok _ _ _ _ ?_
    unfold line_reader_register
    refine register_sp hA s (by omega) ?_
    (repeat (first | refine st_nil ?_ | refine st_fa ?_ | refine st_ext rfl ?_))
    obtain ⟨v, E, a, s1⟩ := r
    refine st_load1 s1 (cs := [I 1, T rs.lab, I (rs.kind : Nat), I (rs.op : Nat), T rs.text, v]) (b := true) (List.mem_append_right _ (.head _)) rfl ?_
    refine st_build (cs := arE ⟨(regM s).1, .none⟩) rfl ?_
    refine st_buildS rfl (by simp [AV.isTup, AV.cells, arE_len]) ?_
    rw [show ([AV.agg (arE ⟨(regM s).1, .none⟩)].flatMap fun x => x.cells) = arE ⟨(regM s).1, .none⟩ by simp [AV.cells]]
    refine a.app s1 (xs := arE ⟨(regM s).1, .none⟩) (m := 1) (Rd.full (by rw [arE_len])) (arE_one _) (by omega) fun v' E' h5 a5 s5 => ?_
    refine st_nil (st_fa (st_fa ?_))
    rcases a5 with ⟨a1, a2, rfl, rfl⟩ | ⟨a1, j, rfl, rfl⟩
    · simp at a1
    · refine st_store s5 (L' := [(j, true, .cells (rs.args.flatMap arE ++ arE ⟨(regM s).1, .none⟩)), (i, true, rdO { rs with args := rs.args ++ [⟨(regM s).1, .none⟩] } (.sl j 0 (rs.args.length + 1) 5))]) (cs := [I 1, T rs.lab, I (rs.kind : Nat), I (rs.op : Nat), T rs.text, v]) (.tail .head) rfl rfl rfl (nle rfl) fun h6 s6 => ?_
      exact k h6 ⟨.sl j 0 (rs.args.length + 1) 5, [(j, true, .cells (rs.args.flatMap arE ++ arE ⟨(regM s).1, .none⟩))], .inr ⟨by simpa [stepW] using a1, j, by simp [stepW], by simp [stepW]⟩, s6⟩
  | word =>
    show C fn_line_reader_word _ _ _
    refine line_reader_word_ok _ _ _ _ ?_
    unfold line_reader_word
    (repeat (first | refine st_nil ?_ | refine st_fa ?_))
    refine r.put (rs' := { rs with text := s }) rfl rfl rfl (by omega) rfl (fun v => rfl) fun h1 r1 => ?_
    refine Word_sp s (by omega) ?_
    exact k h1 r1
def goW : List Way → List Str → RS → RS × Bool
  | w :: ws, s :: ss, rs => if (stepW w s rs).2 = true then goW ws ss (stepW w s rs).1 else ((stepW w s rs).1, false)
  | _, _, rs => (rs, true)
def allM (l : List Str) (ws : List Way) (rs : RS) : RS × Bool := if l.length = ws.length then goW ws l rs else (rs, false)
theorem all_sp (hA : AtoiOk) (l : List Str) (hl : l.length < 4000000000) (hs : ∀ s ∈ l, s.length < 4000000000) (ws : List Way) (hw : ws.length < 900) {rs : RS} (hn : rs.args.length = 0) (r : RSt h0 h i rs) {v1 v2 : AV}
    (R1 : ∀ h', Row sE 1 h' v1 l) (R2 : ∀ h', Row (wayE i) 1 h' v2 ws) (k : ∀ h', RSt h0 h' i (allM l ws rs).1 → Q (B (allM l ws rs).2) h') : C fn_line_all [v1, v2] h Q := by
  refine line_all_ok _ _ _ _ ?_
  unfold line_all
  refine (R1 h).len ?_
  refine (R2 h).len ?_
  refine st_eql ?_
  have e1 : decide (((l.length : Nat) : Int) = ((ws.length : Nat) : Int)) = decide (l.length = ws.length) := deqc
  rw [e1]
  unfold allM at k
  by_cases hlen : l.length = ws.length
  · rw [if_pos hlen] at k
    rw [decide_eq_true hlen]
    refine st_loop (fun n vs h' => ∃ (j : Nat) (b : Bool) (rs' : RS), vs = [B b, I (j : Nat)] ∧ n + j = ws.length ∧ RSt h0 h' i rs' ∧ rs'.args.length ≤ j ∧
      goW ws l rs = (if b = true then goW (ws.drop j) (l.drop j) rs' else (rs', false))) ws.length ⟨0, true, rs, rfl, by omega, r, by omega, rfl⟩ ?_
    rintro n vs h' ⟨j, b, rs', rfl, hn2, r2, ha, hg⟩
    unfold line_all_l2
    refine (R2 h').len ?_
    (repeat refine st_lss ?_)
    refine st_if (fun hb => ?_) (fun hb => ?_) <;> simp only [za, zb, zc, zd, ze, zf, zg, zh, zi, u8i, zj, zk, zl] at hb
    · have hj : j < ws.length := hb
      cases b with
      | true =>
        refine st_if (fun _ => ?_) (fun h => by cases h)
        refine (R2 h').idx (fun _ => rfl) hj fun p t => ?_
        refine st_pload1 t ?_
        refine (R1 h').idx (fun _ => rfl) (show j < l.length by omega) fun p t => ?_
        refine st_pload1 t ?_
        show ACall Pg (wayF ws[j]) [.ptr i 0, T l[j]] h' _
        rw [if_pos rfl, List.drop_eq_getElem_cons hj, List.drop_eq_getElem_cons (show j < l.length by omega), goW] at hg
        have hsl := stepW_len ws[j] l[j] rs'
        refine way_sp hA ws[j] l[j] (hs _ (by simp)) (by omega) r2 fun h3 r3 => ?_
        (repeat refine st_add (by omega) ?_)
        refine ⟨n - 1, by omega, j + 1, _, _, rfl, by omega, r3, by omega, hg⟩
      | false =>
        refine st_if (fun h => by cases h) (fun _ => ?_)
        rw [if_neg (by simp)] at hg
        rw [hg] at k
        exact k h' r2
    · have hj : ws.length ≤ j := by omega
      cases b with
      | true =>
        rw [if_pos rfl, List.drop_of_length_le hj, List.drop_of_length_le (by omega)] at hg
        rw [hg] at k
        exact k h' r2
      | false =>
        rw [if_neg (by simp)] at hg
        rw [hg] at k
        exact k h' r2
  · rw [if_neg hlen] at k
    rw [decide_eq_false hlen]
    refine st_loop (fun n vs h' => vs = [B false, I 0] ∧ h' = h) 0 ⟨rfl, rfl⟩ ?_
    rintro n vs h' ⟨rfl, rfl⟩
    unfold line_all_l2
    refine (R2 h').len ?_
    (repeat refine st_lss ?_)
    refine st_if (fun hb => ?_) (fun hb => ?_) <;> simp only [za, zb, zc, zd, ze, zf, zg, zh, zi, u8i, zj, zk, zl] at hb
    · refine st_if (fun h => by cases h) (fun _ => ?_)
      exact k h' r
    · exact k h' r
end
end
end
section
noncomputable section
variable [Tabs]
section
variable {h0 h : AHeap} {M : List Nat} {L L' : Own} {Q : QT} {i : Nat}
theorem St.join {h' : AHeap} (s : St h0 M h L) (s' : St h [] h' L') (ht : ∀ e ∈ L', e.2.1 = true) : St h0 M h' (L' ++ L) where
  fr := s.fr.trans s'.fr (by simp)
  at_ e he := by
    rcases List.mem_append.1 he with he | he
    · exact s'.at_ e he
    · exact s'.fr.get (s.at_ e he) (by simp)
  own e he hb hl := by
    rcases List.mem_append.1 he with he | he
    · have := s'.own e he hb (Nat.lt_of_lt_of_le hl s.fr.len); simp at this
    · exact s.own e he hb hl
  nd := by
    rw [List.map_append, List.nodup_append]
    refine ⟨s'.nd, s.nd, fun a ha b hb hab => ?_⟩
    subst hab
    rw [List.mem_map] at ha hb
    obtain ⟨x, hx, rfl⟩ := ha
    obtain ⟨y, hy, hxy⟩ := hb
    have h1 := lt_of_some (s.at_ y hy)
    have h2 := s'.own x hx (ht x hx) (by omega)
    simp at h2
theorem AccE.own {sz n : Nat} {v : AV} {cs : List AV} {E : Own} (a : AccE sz v n cs E) : ∀ e ∈ E, e.2.1 = true := by
  rcases a with ⟨_, _, _, rfl⟩ | ⟨_, j, _, rfl⟩ <;> simp
theorem same_sp (fv : AV) (h1 : fv.one = true) (hc : fv.cells = [fv]) (ht : fv.isTup = false) (n : Nat) (hn : n < 1000) (k : ∀ v E h', AccE 1 v n (List.replicate n fv) E → St h [] h' E → Q v h') : C fn_line_same [fv, I (n : Nat)] h Q := by
  refine line_same_ok _ _ _ _ ?_
  unfold line_same
  refine st_loop (fun m vs h' => ∃ (j : Nat) (v : AV) (E : Own), vs = [v, I (j : Nat)] ∧ m + j = n ∧ AccE 1 v j (List.replicate j fv) E ∧ St h [] h' (E ++ [])) n ⟨0, .full 0 [], [], rfl, by omega, .none 1, St.start h⟩ ?_
  rintro m vs h' ⟨j, v, E, rfl, hm, a, s⟩
  unfold line_same_l2
  (repeat refine st_lss ?_)
  refine st_if (fun hb => ?_) (fun hb => ?_) <;> simp only [za, zb, zc, zd, ze, zf, zg, zh, zi, u8i, zj, zk, zl] at hb
  · have hj : j < n := hb
    refine st_buildS rfl (by simp [ht, hc]) ?_
    rw [show ([fv].flatMap fun x => x.cells) = [fv] by simp [hc]]
    refine a.app s (xs := [fv]) (m := 1) (Rd.full rfl) (by simp [h1]) (by omega) fun v' E' h3 a3 s3 => ?_
    (repeat refine st_add (by omega) ?_)
    refine ⟨m - 1, by omega, j + 1, v', E', rfl, by omega, ?_, s3⟩
    rw [List.replicate_succ']; exact a3
  · have hj : j = n := by omega
    subst hj
    exact k v E h' a (by simpa using s)
theorem fzL_strs (k : Nat) (cs : List AV) : ∀ l : List Str, fzL k cs (l.flatMap sE) = l.flatMap sE
  | [] => rfl
  | x :: l => by
    rw [List.flatMap_cons]
    show fz k cs (T x) :: fzL k cs (l.flatMap sE) = _
    rw [fzL_strs k cs l]; rfl
theorem allOwn_sp (hA : AtoiOk) (l : List Str) (hl : l.length < 4000000000) (hs : ∀ s ∈ l, s.length < 4000000000) (ws : List Way) (hw : ws.length < 900) {rs : RS} (hn : rs.args.length = 0) {v : AV} {E : Own} (a : AccE 1 v ws.length (ws.flatMap (wayE i)) E)
    {v0 : AV} {E0 : Own} (a0 : AccE 5 v0 rs.args.length (rs.args.flatMap arE) E0) (s : St h0 [] h (E ++ (E0 ++ [(i, true, rdO rs v0)]))) (k : ∀ h', RSt h0 h' i (allM l ws rs).1 → Q (B (allM l ws rs).2) h') : C fn_line_all [.snap l.length (l.flatMap sE), v] h Q := by
  rcases a with ⟨a1, a2, rfl, rfl⟩ | ⟨a1, j, rfl, rfl⟩
  · have : ws = [] := List.length_eq_zero_iff.1 a1
    subst this
    exact all_sp hA l hl hs [] hw hn ⟨v0, E0, a0, s⟩ (fun h' => Row.snap (enc := sE) (fun _ => rfl) l) (fun h' => .nil) k
  · refine ACall.frzArg (s.get (.head _)) ?_
    simp only [fzL, fz]
    rw [if_pos ⟨trivial, by omega⟩, fzL_strs, List.drop_zero, List.take_of_length_le (by omega)]
    exact all_sp hA l hl hs ws hw hn ⟨v0, E0, a0, s.kill .head⟩ (fun h' => Row.snap (enc := sE) (fun _ => rfl) l) (fun h' => Row.snap (enc := wayE i) (fun _ => rfl) ws) k
theorem contains_str_sp (hI : IndexOk) (s sub : Str) (hs : s.length < 4294967281) (k : Q (B (decide (0 ≤ Lib.index s sub))) h) : C fn_strings_Contains [T s, T sub] h Q := by
  refine strings_Contains_ok _ _ _ _ ?_
  unfold strings_Contains
  refine hI s sub _ _ hs ?_
  (repeat refine st_geq ?_)
  exact k
def wayOf (k : Str) : Way := if decide (0 ≤ Lib.index [32, 88, 32, 89, 32, 68, 32, 65, 32, 66, 32] ([32] ++ k ++ [32])) = true then .reg else .value
theorem kinds_len : ∀ r ∈ tbl, ∀ k ∈ flds r.kinds, k.length < 10 := by decide
theorem instruction_sp (hF : FieldsOk) (hI : IndexOk) (hA : AtoiOk) {rs : RS} (ho : rs.op < tbl.length) (hn : rs.args.length = 0) (r : RSt h0 h i rs) (l : List Str) (hl : l.length < 4000000000) (hs : ∀ s ∈ l, s.length < 4000000000)
    (k : ∀ h', RSt h0 h' i (allM l ((flds (opKinds rs.op)).map wayOf) rs).1 → Q (B (allM l ((flds (opKinds rs.op)).map wayOf) rs).2) h') : C fn_line_reader_instruction [.ptr i 0, .snap l.length (l.flatMap sE)] h Q := by
  refine line_reader_instruction_ok _ _ _ _ ?_
  unfold line_reader_instruction
  (repeat (first | refine st_nil ?_ | refine st_fa ?_))
  refine r.load (a := I (rs.op : Nat)) (fun v => rfl) ?_
  refine kinds_sp ho fun h1 f1 => ?_
  rw [opKinds_eq ho]
  have hmem : tbl[rs.op] ∈ tbl := by simp
  refine fields_sp hF hmem ?_
  have hk1 := tbl_three _ hmem
  have hk2 := kinds_len _ hmem
  rw [← opKinds_eq ho] at hk1 hk2 ⊢
  have r1 := r.call f1
  generalize flds (opKinds rs.op) = ks at k hk1 hk2 ⊢
  have RK : ∀ h, Row sE 1 h (.snap ks.length (ks.flatMap fun x => [T x])) ks := fun h => Row.snap (enc := sE) (fun _ => rfl) ks
  obtain ⟨v0, E0, a0, s0⟩ := r1
  (repeat refine st_lenL1 ?_)
  refine st_loop (fun m vs h' => ∃ (j : Nat) (v : AV) (E : Own), vs = [v, I (j : Nat)] ∧ m + j = ks.length ∧ AccE 1 v j (((ks.take j).map wayOf).flatMap (wayE i)) E ∧ St h0 [] h' (E ++ (E0 ++ [(i, true, rdO rs v0)]))) ks.length ⟨0, .full 0 [], [], rfl, by omega, .none 1, s0⟩ ?_
  rintro m vs h' ⟨j, v, E, rfl, hm, a, s⟩
  unfold line_reader_instruction_l9
  (repeat refine st_lss ?_)
  refine st_if (fun hb => ?_) (fun hb => ?_) <;> simp only [za, zb, zc, zd, ze, zf, zg, zh, zi, u8i, zj, zk, zl] at hb
  · have hj : j < ks.length := hb
    refine (RK h').idx (fun _ => rfl) hj fun p t => ?_
    refine st_pload1 t ?_
    have hkl := hk2 ks[j] (by simp)
    refine st_cat (by simp; omega) ?_
    refine st_cat (by simp; omega) ?_
    refine contains_str_sp hI _ _ (by decide) ?_
    have hnext : ((ks.take (j + 1)).map wayOf).flatMap (wayE i) = ((ks.take j).map wayOf).flatMap (wayE i) ++ wayE i (wayOf ks[j]) := by
      rw [List.take_succ_eq_append_getElem hj, List.map_append, List.flatMap_append]; simp [List.flatMap_cons]
    refine st_if (fun hc => ?_) (fun hc => ?_)
    · refine st_buildS rfl rfl ?_
      refine a.app s (xs := wayE i .reg) (m := 1) (Rd.full rfl) rfl (by omega) fun v' E' h3 a3 s3 => ?_
      unfold line_reader_instruction_b6 line_reader_instruction_j5
      refine st_add (by omega) ?_
      refine ⟨m - 1, by omega, j + 1, v', E', rfl, by omega, ?_, s3⟩
      rw [hnext, show wayOf ks[j] = .reg by unfold wayOf; rw [if_pos hc]]; exact a3
    · refine st_buildS rfl rfl ?_
      refine a.app s (xs := wayE i .value) (m := 1) (Rd.full rfl) rfl (by omega) fun v' E' h3 a3 s3 => ?_
      unfold line_reader_instruction_b6 line_reader_instruction_j5
      refine st_add (by omega) ?_
      refine ⟨m - 1, by omega, j + 1, v', E', rfl, by omega, ?_, s3⟩
      rw [hnext, show wayOf ks[j] = .value by unfold wayOf; rw [if_neg (by rw [hc]; simp)]]; exact a3
  · have hj : j = ks.length := by omega
    subst hj
    rw [List.take_length] at a
    refine allOwn_sp hA l hl hs (ks.map wayOf) (by simp; omega) hn (v := v) (E := E) (by simpa using a) a0 s k
def okC (c : UInt8) : Bool := decide (32 ≤ c.toNat) && (decide (c.toNat ≤ 126) && decide (c ≠ 34))
theorem okC_sp : TestsB (.fn (.func fn_line_reader_ascii_1) [] []) okC := fun c h Q k => by
  show ACall Pg fn_line_reader_ascii_1 [U8 c] h Q
  refine line_reader_ascii_1_ok _ _ _ ?_
  unfold line_reader_ascii_1
  have e1 : decide ((32 : Int) ≤ c.toNat) = decide (32 ≤ c.toNat) := dcast (a := 32)
  have e2 : decide ((c.toNat : Int) ≤ 126) = decide (c.toNat ≤ 126) := dcast (b := 126)
  have e3 : decide ((c.toNat : Int) ≠ 34) = decide (c ≠ 34) := by rw [Bool.eq_iff_iff]; simp [← UInt8.toNat_inj]; omega
  unfold okC at k
  refine st_geq ?_
  rw [e1]
  cases h1 : decide (32 ≤ c.toNat) with
  | true =>
    refine st_if (fun _ => ?_) (fun h => by cases h)
    rw [h1, Bool.true_and] at k
    refine st_leq ?_
    rw [e2]
    cases h2 : decide (c.toNat ≤ 126) with
    | true =>
      refine st_if (fun _ => ?_) (fun h => by cases h)
      rw [h2, Bool.true_and] at k
      refine st_neq ?_
      rw [e3]; exact k
    | false =>
      refine st_if (fun h => by cases h) (fun _ => ?_)
      rw [h2, Bool.false_and] at k; exact k
  | false =>
    refine st_if (fun h => by cases h) (fun _ => ?_)
    rw [h1, Bool.false_and] at k; exact k
def asciiM (s : Str) (rs : RS) : RS × Bool :=
  if s.length < 2 ∨ 62 < s.length ∨ s[0]? ≠ some 34 ∨ s[s.length - 1]? ≠ some 34 then (rs, false)
  else ({ rs with text := (s.drop 1).take (s.length - 2) }, ((s.drop 1).take (s.length - 2)).all okC)
theorem ascii_sp (s : Str) {rs : RS} (r : RSt h0 h i rs) (k : ∀ h', RSt h0 h' i (asciiM s rs).1 → Q (B (asciiM s rs).2) h') : C fn_line_reader_ascii [.ptr i 0, T s] h Q := by
  refine line_reader_ascii_ok _ _ _ _ ?_
  unfold line_reader_ascii
  unfold asciiM at k
  (repeat (first | refine st_lenS ?_ | refine st_lss ?_))
  refine st_if (fun h1 => ?_) (fun h1 => ?_) <;> simp only [za, zb, zc, zd, ze, zf, zg, zh, zi, u8i, zj, zk, zl] at h1
  · rw [if_pos (.inl (by omega))] at k; exact k h r
  (repeat (first | refine st_lenS ?_ | refine st_gtr ?_))
  refine st_if (fun h2 => ?_) (fun h2 => ?_) <;> simp only [za, zb, zc, zd, ze, zf, zg, zh, zi, u8i, zj, zk, zl] at h2
  · rw [if_pos (.inr (.inl (by omega)))] at k; exact k h r
  have hl1 : 2 ≤ s.length := by omega
  have hl2 : s.length ≤ 62 := by omega
  refine st_index (by omega) (by simp; omega) ?_
  refine st_neq ?_
  have c34 : ∀ c : UInt8, decide ((c.toNat : Int) ≠ 34) = decide (c ≠ 34) := fun c => by rw [Bool.eq_iff_iff]; simp [← UInt8.toNat_inj]; omega
  rw [c34]
  refine st_if (fun h3 => ?_) (fun h3 => ?_) <;> simp only [za, zb, zc, zd, ze, zf, zg, zh, zi, u8i, zj, zk, zl] at h3
  · rw [if_pos (.inr (.inr (.inl (by rw [List.getElem?_eq_getElem (by omega)]; simpa using h3))))] at k; exact k h r
  have h3 : s[0]? = some 34 := by rw [List.getElem?_eq_getElem (by omega)]; simpa using h3
  (repeat (first | refine st_lenS ?_ | refine st_sub (by omega) ?_))
  refine st_index (by omega) (by omega) ?_
  refine st_neq ?_
  rw [c34]
  have e1 : ((s.length : Int) - 1).toNat = s.length - 1 := by omega
  refine st_if (fun h4 => ?_) (fun h4 => ?_) <;> simp only [za, zb, zc, zd, ze, zf, zg, zh, zi, u8i, zj, zk, zl] at h4
  · rw [if_pos (.inr (.inr (.inr (by rw [List.getElem?_eq_getElem (by omega)]; simp only [e1] at h4; simpa using h4))))] at k; exact k h r
  have h4 : s[s.length - 1]? = some 34 := by rw [List.getElem?_eq_getElem (by omega)]; simp only [e1] at h4; simpa using h4
  rw [if_neg (by rintro (h | h | h | h) <;> first | omega | exact h h3 | exact h h4)] at k
  (repeat (first | refine st_lenS ?_ | refine st_sub (by omega) ?_))
  refine st_cut (by omega) (by omega) (by omega) ?_
  rw [e1, show s.length - 1 - Int.toNat 1 = s.length - 2 by simp; omega, show Int.toNat 1 = 1 from rfl]
  (repeat (first | refine st_nil ?_ | refine st_fa ?_))
  refine r.put (rs' := { rs with text := (s.drop 1).take (s.length - 2) }) rfl rfl rfl (by omega) rfl (fun v => rfl) fun h5 r5 => ?_
  (repeat (first | refine st_nil ?_ | refine st_fa ?_))
  refine r5.load (a := T ((s.drop 1).take (s.length - 2))) (fun v => rfl) ?_
  (repeat (first | refine st_nil ?_ | refine st_fa ?_))
  refine r5.load (a := T ((s.drop 1).take (s.length - 2))) (fun v => rfl) ?_
  (repeat refine st_lenS ?_)
  refine front_sp okC_sp _ (by simp; omega) ?_
  refine ⟨r5.load (fun v => rfl) rfl, ?_⟩
  refine st_eql ?_
  have e2 : decide (((frontN okC ((s.drop 1).take (s.length - 2)) : Nat) : Int) = ((((s.drop 1).take (s.length - 2)).length : Nat) : Int)) = ((s.drop 1).take (s.length - 2)).all okC := by
    rw [Bool.eq_iff_iff, decide_eq_true_eq, ← frontN_eq]; omega
  rw [e2]
  exact k h5 r5
end
end
end
section
noncomputable section
variable [Tabs]
section
variable {h0 h : AHeap} {Q : QT} {i : Nat}
def growsL : List Str := [[98], [98, 108], [98, 99]]
def datasL : List Str := [[46, 98, 121, 116, 101], [46, 104, 97, 108, 102], [46, 108, 111, 110, 103]]
def spacesL : List Str := [[46, 97, 108, 105, 103, 110], [46, 115, 112, 97, 99, 101]]
def idxS (s : Str) (l : List Str) : Int := findI (fun y => decide (s = y)) l
theorem grows_sp (k : Q (.full growsL.length (growsL.flatMap sE)) h) : C fn_line_grows [] h Q := by
  refine line_grows_ok _ _ ?_
  unfold line_grows
  (repeat refine st_buildS rfl rfl ?_)
  exact k
def stmtM (name rest : Str) (rs : RS) : RS × Bool :=
  match findOp name with
  | some op => allM (operandsM rest) ((flds (opKinds op)).map wayOf) { rs with kind := 1, op := op }
  | none =>
    if 0 ≤ idxS name growsL then allM (operandsM rest) (List.replicate (1 + (idxS name growsL).toNat / 2 * 2) .value) { rs with kind := 2, op := (idxS name growsL).toNat }
    else if 0 ≤ idxS name datasL then (if 1 ≤ (operandsM rest).length ∧ (operandsM rest).length ≤ 16 then allM (operandsM rest) (List.replicate (operandsM rest).length .value) { rs with kind := 3 + (idxS name datasL).toNat } else ({ rs with kind := 3 + (idxS name datasL).toNat }, false))
    else if name = [46, 97, 115, 99, 105, 105] then asciiM rest { rs with kind := 6 }
    else if 0 ≤ idxS name spacesL then allM (operandsM rest) [.value] { rs with kind := 7 + (idxS name spacesL).toNat }
    else if name = [46, 101, 113, 117] then allM (operandsM rest) [.word, .value] { rs with kind := 9 }
    else (rs, false)
theorem operands_small (s : Str) (hs : s.length < 3000000000) : (operandsM s).length < 4000000000 ∧ ∀ x ∈ operandsM s, x.length < 4000000000 := by
  unfold operandsM
  split
  · simp
  · have h1 := splitB_len 44 s
    have h2 := List.count_le_length (a := (44 : UInt8)) (l := s)
    refine ⟨by simp; omega, fun x hx => ?_⟩
    rw [List.mem_map] at hx
    obtain ⟨y, hy, rfl⟩ := hx
    have h3 := splitB_sum 44 s y hy
    have h4 := trim_len y
    omega
theorem findOp_lt {s : Str} {op : Nat} (h : findOp s = some op) : op < tbl.length := by
  unfold findOp at h
  rw [List.findIdx?_eq_some_iff_getElem] at h
  exact h.1
theorem idxS_lt (s : Str) (l : List Str) : -1 ≤ idxS s l ∧ (idxS s l).toNat ≤ l.length ∧ (0 ≤ idxS s l → (idxS s l).toNat < l.length) := by
  unfold idxS findI
  cases h : l.findIdx? fun y => decide (s = y) with
  | none => simp
  | some j =>
    rw [List.findIdx?_eq_some_iff_getElem] at h
    have := h.1
    simp; omega
theorem row_replicate (n : Nat) : List.replicate n (AV.fn (.func fn_line_reader_value) [.ptr i 0] []) = (List.replicate n Way.value).flatMap (wayE i) := by
  induction n with
  | zero => rfl
  | succ n ih => rw [List.replicate_succ, List.replicate_succ, List.flatMap_cons, ih]; rfl
theorem values_sp (hA : AtoiOk) (l : List Str) (hl : l.length < 4000000000) (hs : ∀ s ∈ l, s.length < 4000000000) (n : Nat) (hn : n < 100) {rs : RS} (ha : rs.args.length = 0) (r : RSt h0 h i rs)
    (k : ∀ h', RSt h0 h' i (allM l (List.replicate n .value) rs).1 → Q (B (allM l (List.replicate n .value) rs).2) h') :
    C fn_line_same [(.fn (.func fn_line_reader_value) [.ptr i 0] []), I (n : Nat)] h fun t h9 => C fn_line_all [.snap l.length (l.flatMap sE), t] h9 Q := by
  refine same_sp _ rfl rfl rfl n (by omega) fun v E h' a s => ?_
  obtain ⟨v0, E0, a0, s0⟩ := r
  have sj := s0.join s a.own
  exact allOwn_sp hA l hl hs (List.replicate n .value) (by simp; omega) ha (v := v) (E := E) (by rw [← row_replicate]; simpa using a) a0 sj k
theorem statement_sp (hF : FieldsOk) (hI : IndexOk) (hA : AtoiOk) (name rest : Str) (hr : rest.length < 3000000000) {rs : RS} (ha : rs.args = []) (r : RSt h0 h i rs) (k : ∀ h', RSt h0 h' i (stmtM name rest rs).1 → Q (B (stmtM name rest rs).2) h') :
    C fn_line_reader_statement [.ptr i 0, T name, T rest] h Q := by
  refine line_reader_statement_ok _ _ _ _ _ ?_
  unfold line_reader_statement
  refine operands_sp' hI rest (by omega) fun h1 f1 => ?_
  have r1 := r.call f1
  obtain ⟨hol, hos⟩ := operands_small rest hr
  refine find_sp name fun h2 f2 => ?_
  have r2 := r1.call f2
  have ha0 : rs.args.length = 0 := by rw [ha]; rfl
  unfold stmtM at k
  (repeat refine st_ext rfl ?_)
  cases hf : findOp name with
  | some op =>
    rw [hf] at k
    refine st_if (fun _ => ?_) (fun h => by cases h)
    (repeat (first | refine st_nil ?_ | refine st_fa ?_))
    refine r2.put (rs' := { rs with kind := 1 }) rfl rfl rfl (by omega) rfl (fun v => rfl) fun h3 r3 => ?_
    (repeat (first | refine st_nil ?_ | refine st_fa ?_))
    refine r3.put (rs' := { rs with kind := 1, op := op }) rfl rfl rfl (by omega) rfl (fun v => rfl) fun h4 r4 => ?_
    exact instruction_sp hF hI hA (rs := { rs with kind := 1, op := op }) (findOp_lt hf) ha0 r4 _ hol hos k
  | none =>
  rw [hf] at k
  simp only at k
  refine st_if (fun h => by cases h) (fun _ => ?_)
  refine grows_sp ?_
  refine index_string_sp name growsL (by decide) (Row.full (enc := sE) (fun _ => rfl) growsL) ?_
  obtain ⟨g1, g2, g3⟩ := idxS_lt name growsL
  rw [show findI (fun y => decide (name = y)) growsL = idxS name growsL from rfl]
  generalize hgi : idxS name growsL = gi at k g1 g2 g3 ⊢
  (repeat refine st_geq ?_)
  refine st_if (fun hg => ?_) (fun hg => ?_) <;> simp only [za, zb, zc, zd, ze, zf, zg, zh, zi, u8i, zj, zk, zl] at hg
  · rw [if_pos hg] at k
    have g3 := g3 hg
    have : growsL.length = 3 := rfl
    (repeat (first | refine st_nil ?_ | refine st_fa ?_))
    refine r2.put (rs' := { rs with kind := 2 }) rfl rfl rfl (by omega) rfl (fun v => rfl) fun h3 r3 => ?_
    (repeat (first | refine st_nil ?_ | refine st_fa ?_))
    obtain ⟨n, rfl⟩ : ∃ n : Nat, gi = n := ⟨gi.toNat, by omega⟩
    rw [Int.toNat_natCast] at k g3
    refine r3.put (rs' := { rs with kind := 2, op := n }) rfl rfl rfl (by omega) rfl (fun v => rfl) fun h4 r4 => ?_
    have hq : (n : Int).tdiv 2 = ((n / 2 : Nat) : Int) := by rw [Int.tdiv_eq_ediv_of_nonneg (by omega)]; omega
    refine st_quo (by decide) (by rw [hq]; omega) ?_
    rw [hq]
    refine st_mul (by omega) ?_
    refine st_add (by omega) ?_
    have e1 : (1 : Int) + ((n / 2 : Nat) : Int) * 2 = ((1 + n / 2 * 2 : Nat) : Int) := by omega
    rw [e1]
    exact values_sp hA _ hol hos _ (by omega) (rs := { rs with kind := 2, op := n }) ha0 r4 k
  rw [if_neg (by omega)] at k
  have hdat : ∀ d : Nat, idxS name datasL = d → line_reader_statement_j24 (B true) (T name) (.snap (operandsM rest).length ((operandsM rest).flatMap sE)) (.ptr i 0) (T name) (T rest) h2 Q := by
    intro d hd
    have hd3 : d < 3 := by
      have := idxS_lt name datasL
      have h3 : datasL.length = 3 := rfl
      omega
    rw [hd, if_pos (by omega), Int.toNat_natCast] at k
    unfold line_reader_statement_j24
    refine st_if (fun _ => ?_) (fun h => by cases h)
    refine st_buildS rfl rfl ?_
    refine index_string_sp name datasL (by decide) (Row.full (enc := sE) (fun _ => rfl) datasL) ?_
    rw [show findI (fun y => decide (name = y)) datasL = idxS name datasL from rfl, hd]
    refine st_add (by omega) ?_
    have e1 : (3 : Int) + (d : Int) = ((3 + d : Nat) : Int) := by omega
    rw [e1]
    (repeat (first | refine st_nil ?_ | refine st_fa ?_))
    refine r2.put (rs' := { rs with kind := 3 + d }) rfl rfl rfl (by omega) rfl (fun v => rfl) fun h3 r3 => ?_
    (repeat (first | refine st_lenL1 ?_ | refine st_geq ?_))
    refine st_if (fun hn1 => ?_) (fun hn1 => ?_) <;> simp only [za, zb, zc, zd, ze, zf, zg, zh, zi, u8i, zj, zk, zl] at hn1
    · (repeat (first | refine st_lenL1 ?_ | refine st_leq ?_))
      refine st_if (fun hn2 => ?_) (fun hn2 => ?_) <;> simp only [za, zb, zc, zd, ze, zf, zg, zh, zi, u8i, zj, zk, zl] at hn2
      · rw [if_pos ⟨by omega, by omega⟩] at k
        (repeat refine st_lenL1 ?_)
        exact values_sp hA _ hol hos _ (by omega) (rs := { rs with kind := 3 + d }) ha0 r3 k
      · rw [if_neg (by omega)] at k
        exact k h3 r3
    · rw [if_neg (by omega)] at k
      exact k h3 r3
  refine st_seq ?_
  refine st_if (fun hb1 => ?_) (fun hb1 => ?_) <;> simp only [za, zb, zc, zd, ze, zf, zg, zh, zi, u8i, zj, zk, zl] at hb1
  · rw [decide_eq_true hb1]; exact hdat 0 (by rw [hb1]; decide)
  refine st_seq ?_
  refine st_if (fun hb2 => ?_) (fun hb2 => ?_) <;> simp only [za, zb, zc, zd, ze, zf, zg, zh, zi, u8i, zj, zk, zl] at hb2
  · rw [decide_eq_true hb2]; exact hdat 1 (by rw [hb2]; decide)
  refine st_seq ?_
  cases hb3 : decide (name = [46, 108, 111, 110, 103]) with
  | true => exact hdat 2 (by simp only [decide_eq_true_eq] at hb3; rw [hb3]; decide)
  | false =>
  simp only [decide_eq_false_iff_not] at hb3
  have hnd : idxS name datasL = -1 := by
    unfold idxS
    refine findI_none fun j hj => ?_
    have h3 : datasL.length = 3 := rfl
    have : j = 0 ∨ j = 1 ∨ j = 2 := by omega
    rcases this with rfl | rfl | rfl
    · exact decide_eq_false hb1
    · exact decide_eq_false hb2
    · exact decide_eq_false hb3
  rw [hnd, if_neg (by omega)] at k
  unfold line_reader_statement_j24
  refine st_if (fun h => by cases h) (fun _ => ?_)
  refine st_seq ?_
  refine st_if (fun hasc => ?_) (fun hasc => ?_) <;> simp only [za, zb, zc, zd, ze, zf, zg, zh, zi, u8i, zj, zk, zl] at hasc
  · rw [if_pos hasc] at k
    (repeat (first | refine st_nil ?_ | refine st_fa ?_))
    refine r2.put (rs' := { rs with kind := 6 }) rfl rfl rfl (by omega) rfl (fun v => rfl) fun h3 r3 => ?_
    exact ascii_sp rest r3 k
  rw [if_neg hasc] at k
  have hspc : ∀ d : Nat, idxS name spacesL = d → line_reader_statement_j23 (B true) (T name) (.snap (operandsM rest).length ((operandsM rest).flatMap sE)) (.ptr i 0) (T name) h2 Q := by
    intro d hd
    have hd3 : d < 2 := by
      have := idxS_lt name spacesL
      have h3 : spacesL.length = 2 := rfl
      omega
    rw [hd, if_pos (by omega), Int.toNat_natCast] at k
    unfold line_reader_statement_j23
    refine st_if (fun _ => ?_) (fun h => by cases h)
    refine st_buildS rfl rfl ?_
    refine index_string_sp name spacesL (by decide) (Row.full (enc := sE) (fun _ => rfl) spacesL) ?_
    rw [show findI (fun y => decide (name = y)) spacesL = idxS name spacesL from rfl, hd]
    refine st_add (by omega) ?_
    have e1 : (7 : Int) + (d : Int) = ((7 + d : Nat) : Int) := by omega
    rw [e1]
    (repeat (first | refine st_nil ?_ | refine st_fa ?_))
    refine r2.put (rs' := { rs with kind := 7 + d }) rfl rfl rfl (by omega) rfl (fun v => rfl) fun h3 r3 => ?_
    exact values_sp hA _ hol hos 1 (by omega) (rs := { rs with kind := 7 + d }) ha0 r3 k
  refine st_seq ?_
  refine st_if (fun ha1 => ?_) (fun ha1 => ?_) <;> simp only [za, zb, zc, zd, ze, zf, zg, zh, zi, u8i, zj, zk, zl] at ha1
  · rw [show decide (name = [46, 97, 108, 105, 103, 110]) = true by rw [ha1]; rfl]
    exact hspc 0 (by rw [ha1]; decide)
  refine st_seq ?_
  cases ha2 : decide (name = [46, 115, 112, 97, 99, 101]) with
  | true => exact hspc 1 (by simp only [decide_eq_true_eq] at ha2; rw [ha2]; decide)
  | false =>
  simp only [decide_eq_false_iff_not] at ha2
  have hns : idxS name spacesL = -1 := by
    unfold idxS
    refine findI_none fun j hj => ?_
    have h3 : spacesL.length = 2 := rfl
    have : j = 0 ∨ j = 1 := by omega
    rcases this with rfl | rfl
    · exact decide_eq_false ha1
    · exact decide_eq_false ha2
  rw [hns, if_neg (by omega)] at k
  unfold line_reader_statement_j23
  refine st_if (fun h => by cases h) (fun _ => ?_)
  refine st_seq ?_
  refine st_if (fun heq => ?_) (fun heq => ?_) <;> simp only [za, zb, zc, zd, ze, zf, zg, zh, zi, u8i, zj, zk, zl] at heq
  · rw [if_pos heq] at k
    (repeat (first | refine st_nil ?_ | refine st_fa ?_))
    refine r2.put (rs' := { rs with kind := 9 }) rfl rfl rfl (by omega) rfl (fun v => rfl) fun h3 r3 => ?_
    refine st_buildS rfl rfl ?_
    exact all_sp hA _ hol hos [.word, .value] (by decide) (rs := { rs with kind := 9 }) ha0 r3 (fun h' => Row.snap (enc := sE) (fun _ => rfl) _) (fun h' => Row.full (enc := wayE i) (fun _ => rfl) [.word, .value]) k
  · rw [if_neg heq] at k
    exact k h2 r2
def cutC : Bool → Str → Str
  | _, [] => []
  | q, c :: l => if c = 35 ∧ q = false then [] else c :: cutC (if c = 34 then !q else q) l
def bareM (s : Str) : Str := trim (cutC false s)
theorem cutC_len : ∀ (q : Bool) (l : Str), (cutC q l).length ≤ l.length
  | _, [] => by simp [cutC]
  | q, c :: l => by
    unfold cutC
    split
    · simp
    · have := cutC_len (if c = 34 then !q else q) l; simp; omega
theorem bareStep {s : Str} (hs : s.length < 4000000000) (q : Bool) (j : Nat) (hj : j ≤ s.length) {next : NT}
    (k0 : cutC q (s.drop j) = [] → ∀ h', Fr [] h h' → Q (T (trim (s.take j))) h') (k1 : ∀ (hj : j < s.length), cutC q (s.drop j) = s[j] :: cutC (if s[j] = 34 then !q else q) (s.drop (j + 1)) → next [B (if s[j] = 34 then !q else q), I ((j + 1 : Nat) : Int)] h) :
    line_bare_l (T s) (B q) (I (j : Nat)) h Q next := by
  unfold line_bare_l
  have fin : cutC q (s.drop j) = [] → line_bare_s (T s) (I (j : Nat)) h Q := by
    intro hc
    unfold line_bare_s
    refine st_cutl (by omega) (by omega) ?_
    rw [Int.toNat_natCast]
    exact trim_sp _ (by simp; omega) (k0 hc)
  (repeat (first | refine st_lenS ?_ | refine st_eql ?_))
  refine st_if (fun hb => ?_) (fun hb => ?_) <;> simp only [za, zb, zc, zd, ze, zf, zg, zh, zi, u8i, zj, zk, zl] at hb
  · have : j = s.length := by omega
    subst this
    exact fin (by rw [List.drop_length]; rfl)
  have hj2 : j < s.length := by omega
  have hcut := List.drop_eq_getElem_cons hj2
  have go : ¬(s[j] = 35 ∧ q = false) → line_bare_g (T s) (B q) (I (j : Nat)) h next := by
    intro hn
    have k1 := k1 hj2 (by rw [hcut, cutC, if_neg hn])
    unfold line_bare_g
    refine st_indexN hj2 ?_
    refine st_eql ?_
    have e : decide ((s[j].toNat : Int) = 34) = decide (s[j] = 34) := by rw [Bool.eq_iff_iff]; simp [← UInt8.toNat_inj]; omega
    rw [e]
    refine st_if (fun h34 => ?_) (fun h34 => ?_) <;> simp only [za, zb, zc, zd, ze, zf, zg, zh, zi, u8i, zj, zk, zl] at h34
    · refine st_not ?_
      unfold line_bare_n
      refine st_add (by omega) ?_
      rw [if_pos h34] at k1; exact k1
    · unfold line_bare_n
      refine st_add (by omega) ?_
      rw [if_neg h34] at k1; exact k1
  refine st_indexN hj2 ?_
  refine st_eql ?_
  have e : decide ((s[j].toNat : Int) = 35) = decide (s[j] = 35) := by rw [Bool.eq_iff_iff]; simp [← UInt8.toNat_inj]; omega
  rw [e]
  cases h35 : decide (s[j] = 35) with
  | true =>
    simp only [decide_eq_true_eq] at h35
    refine st_ifT (st_if (fun _ => ?_) (fun h => by cases h)) ⟨_, rfl⟩
    refine st_not ?_
    cases q with
    | true => exact st_if (fun h => by cases h) (fun _ => go (by simp))
    | false => exact st_if (fun _ => fin (by rw [hcut, cutC, if_pos ⟨h35, rfl⟩])) (fun h => by cases h)
  | false =>
    simp only [decide_eq_false_iff_not] at h35
    exact st_ifT (st_if (fun h => by cases h) (fun _ => go (by simp [h35]))) ⟨_, rfl⟩
theorem bare_sp (s : Str) (hs : s.length < 4000000000) (k : ∀ h', Fr [] h h' → Q (T (bareM s)) h') : C fn_line_bare [T s] h Q := by
  refine line_bare_ok _ _ _ ?_
  unfold line_bare
  refine bareStep hs false 0 (by omega) (fun hc => by
    have : bareM s = trim (s.take 0) := by unfold bareM; rw [List.drop_zero] at hc; rw [hc]; rfl
    rw [this] at k; exact k) (fun hj hc => ?_)
  refine st_loop (fun n vs h' => h' = h ∧ ∃ (q : Bool) (j : Nat), vs = [B q, I (j : Nat)] ∧ j ≤ s.length ∧ n + j = s.length ∧ cutC false s = s.take j ++ cutC q (s.drop j)) (s.length - 1) ⟨rfl, _, 1, rfl, by omega, by omega, by
    rw [List.drop_zero] at hc; rw [hc]
    cases s with
    | nil => simp at hj
    | cons c t => rfl⟩ ?_
  rintro n vs h' ⟨rfl, q, j, rfl, hj2, hn, hcut⟩
  refine bareStep hs q j hj2 (fun hc => by
    have : bareM s = trim (s.take j) := by unfold bareM; rw [hcut, hc, List.append_nil]
    rw [this] at k; exact k) (fun hj3 hc => ?_)
  refine ⟨n - 1, by omega, rfl, _, j + 1, rfl, by omega, by omega, ?_⟩
  rw [hcut, hc, List.take_succ_eq_append_getElem hj3, List.append_assoc]; rfl
end
end
end
end Go.Proofs.YtiddcelpooenfaaGreatDoor.AL
