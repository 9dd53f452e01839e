import Derived.Test.YtlhidlhmochanaaGreatDoorF5
import Derived.Test.YtlhidlhmochanaaGreatDoorAA11toAA16
import Derived.KernelRfl
set_option linter.all false
set_option autoImplicit true
set_option relaxedAutoImplicit true
set_option maxRecDepth 100000
namespace Go.Proofs.YtlhidlhmochanaaGreatDoor.AL
section
noncomputable section
open Go.Proofs
variable [Tabs]
abbrev fn_law5_AsmEdge : Nat := 3
abbrev fn_law5_known : Nat := 16
abbrev fn_law5_within : Nat := 17
abbrev fn_ref3_Digits : Nat := 18
def law5_AsmEdge_j6 (s13 s12 s11 : AV) (h : AHeap) (Q : QT) : Prop :=
  ifB s12 (qLenL s11 fun t58 =>
  qBin .eql t58 (I 1) fun t59 =>
  ifB t59 (qIndexAddr 1 s11 (I 0) fun t63 =>
  qLoad1 t63 h fun t64 =>
  qBin .eql t64 s13 fun t66 =>
  Q t66 h) (
  Q (B false) h)) (
  Q (B false) h)
def law5_AsmEdge_j7 (s10 s9 : AV) (h : AHeap) (Q : QT) : Prop :=
  qBuild [(S ⟨#[]⟩), (S ⟨#[]⟩)] [(0, 1, (S ⟨#[97]⟩)), (1, 1, s9)] fun t44 =>
  qBuildSlice 1 2 [t44] fun t45 =>
  C fn_asm_Grown [t45, (.full 0 [])] h fun t46 h5 =>
  qExtract 0 t46 fun t47 =>
  qExtract 1 t46 fun t48 =>
  qBin .geq s10 (I (-256)) fun t50 =>
  ifB t50 (qBin .leq s10 (I 254) fun t53 =>
  ifB t53 (
  law5_AsmEdge_j6 (I 2) t48 t47 h5 Q) (
  law5_AsmEdge_j6 (I 4) t48 t47 h5 Q)) (
  law5_AsmEdge_j6 (I 4) t48 t47 h5 Q)
def law5_AsmEdge (a0 a1 a2 : AV) (h : AHeap) (Q : QT) : Prop :=
  C fn_law5_known [] h fun t14 h0 =>
  qUn .not t14 fun t15 =>
  ifB t15 (
  Q (B false) h0) (
  C fn_law5_within [a0, (I 300)] h0 fun t17 h1 =>
  qBin .mul (I 2) t17 fun t18 =>
  qBuildSlice 3 1 [(S ⟨#[98, 32]⟩), (S ⟨#[98, 108, 32]⟩), (S ⟨#[98, 99, 32, 48, 44, 32, 51, 44, 32]⟩)] fun t19 =>
  C fn_law5_within [a2, (I 3)] h1 fun t21 h2 =>
  qIndexAddr 1 t19 t21 fun t22 =>
  qLoad1 t22 h2 fun t23 =>
  qBin .add t23 (S ⟨#[120, 10, 46, 115, 112, 97, 99, 101, 32]⟩) fun t25 =>
  C fn_ref3_Digits [t18] h2 fun t27 h3 =>
  qBin .add t25 t27 fun t28 =>
  qBin .add t28 (S ⟨#[10, 120, 58, 32, 115, 101, 95, 98, 108, 114, 10]⟩) fun t29 =>
  qBin .add (I 2) t18 fun t31 =>
  ifB a1 (
  C fn_ref3_Digits [t18] h3 fun t34 h4 =>
  qBin .add (S ⟨#[120, 58, 10, 46, 115, 112, 97, 99, 101, 32]⟩) t34 fun t35 =>
  qBin .add t35 (S ⟨#[10]⟩) fun t36 =>
  qBin .add t36 t23 fun t38 =>
  qBin .add t38 (S ⟨#[120, 10]⟩) fun t39 =>
  qBin .sub (I 0) t18 fun t41 =>
  law5_AsmEdge_j7 t41 t39 h4 Q) (
  law5_AsmEdge_j7 t31 t29 h3 Q))
theorem law5_AsmEdge_ok (a0 a1 a2 : AV) (h : AHeap) (Q : QT) (k : law5_AsmEdge a0 a1 a2 h Q) : C fn_law5_AsmEdge [a0, a1, a2] h Q :=
  okF (pl := []) Tryz.func3 Tryz.ntmps3 (by kernel_rfl) (by kernel_rfl) rfl (by kernel_rfl) k
def law5_known (h : AHeap) (Q : QT) : Prop :=
  C fn_asm_Assemble [(.full 0 []), (.full 0 [])] h fun t10 h0 =>
  qExtract 0 t10 fun t11 =>
  qExtract 1 t10 fun t12 =>
  qBuild [(S ⟨#[]⟩), (S ⟨#[]⟩)] [(0, 1, (S ⟨#[97]⟩)), (1, 1, (S ⟨#[103, 111, 58, 32, 98, 32, 103, 111, 10, 46, 98, 121, 116, 101, 32, 107]⟩))] fun t14 =>
  qBuildSlice 1 2 [t14] fun t15 =>
  qBuild [(S ⟨#[]⟩), (I 0)] [(0, 1, (S ⟨#[107]⟩)), (1, 1, (I 7))] fun t16 =>
  qBuildSlice 1 2 [t16] fun t17 =>
  C fn_asm_Assemble [t15, t17] h0 fun t18 h1 =>
  qExtract 0 t18 fun t19 =>
  qExtract 1 t18 fun t20 =>
  qBuild [(S ⟨#[]⟩), (S ⟨#[]⟩)] [(0, 1, (S ⟨#[97]⟩)), (1, 1, (S ⟨#[110, 111, 112]⟩))] fun t22 =>
  qBuildSlice 1 2 [t22] fun t23 =>
  C fn_asm_Assemble [t23, (.full 0 [])] h1 fun t24 h2 =>
  qExtract 0 t24 fun t25 =>
  qExtract 1 t24 fun t26 =>
  qBuild [(S ⟨#[]⟩), (S ⟨#[]⟩)] [(0, 1, (S ⟨#[97]⟩)), (1, 1, (S ⟨#[103, 111, 58, 32, 98, 32, 103, 111]⟩))] fun t28 =>
  qBuildSlice 1 2 [t28] fun t29 =>
  C fn_asm_Grown [t29, (.full 0 [])] h2 fun t30 h3 =>
  qExtract 0 t30 fun t31 =>
  qExtract 1 t30 fun t32 =>
  qLenL t11 fun t34 =>
  qBin .eql t34 (I 0) fun t35 =>
  ifB t35 (qLenL t12 fun t38 =>
  qBin .eql t38 (I 0) fun t39 =>
  ifB t39 (qLenL t20 fun t43 =>
  qBin .eql t43 (I 0) fun t44 =>
  ifB t44 (qLenL t19 fun t48 =>
  qBin .eql t48 (I 3) fun t49 =>
  ifB t49 (qIndexAddr 1 t19 (I 0) fun t53 =>
  qLoad1 t53 h3 fun t54 =>
  qBin .eql t54 (.lit (.int .u8 232)) fun t55 =>
  ifB t55 (qIndexAddr 1 t19 (I 2) fun t59 =>
  qLoad1 t59 h3 fun t60 =>
  qBin .eql t60 (.lit (.int .u8 7)) fun t61 =>
  ifB t61 (qLenL t26 fun t65 =>
  qBin .eql t65 (I 1) fun t66 =>
  ifB t66 (qIndexAddr 3 t26 (I 0) fun t70 =>
  qFieldAddr 2 t70 fun t71 =>
  qLoad1 t71 h3 fun t72 =>
  qBin .eql t72 (I 1) fun t73 =>
  ifB t73 (ifB t32 (qLenL t31 fun t80 =>
  qBin .eql t80 (I 1) fun t81 =>
  ifB t81 (qIndexAddr 1 t31 (I 0) fun t85 =>
  qLoad1 t85 h3 fun t86 =>
  qBin .eql t86 (I 2) fun t87 =>
  Q t87 h3) (
  Q (B false) h3)) (
  Q (B false) h3)) (
  Q (B false) h3)) (
  Q (B false) h3)) (
  Q (B false) h3)) (
  Q (B false) h3)) (
  Q (B false) h3)) (
  Q (B false) h3)) (
  Q (B false) h3)) (
  Q (B false) h3)
theorem law5_known_ok (h : AHeap) (Q : QT) (k : law5_known  h Q) : C fn_law5_known [] h Q :=
  okF (pl := []) Tryz.func16 Tryz.ntmps16 (by kernel_rfl) (by kernel_rfl) rfl (by kernel_rfl) k
def law5_within_j0 (s5 : AV) (h : AHeap) (Q : QT) : Prop :=
  Q s5 h
def law5_within (a0 a1 : AV) (h : AHeap) (Q : QT) : Prop :=
  qBin .rem a0 a1 fun t8 =>
  qBin .lss t8 (I 0) fun t10 =>
  ifB t10 (
  qBin .add t8 a1 fun t13 =>
  law5_within_j0 t13 h Q) (
  law5_within_j0 t8 h Q)
theorem law5_within_ok (a0 a1 : AV) (h : AHeap) (Q : QT) (k : law5_within a0 a1 h Q) : C fn_law5_within [a0, a1] h Q :=
  okF (pl := []) Tryz.func17 Tryz.ntmps17 (by kernel_rfl) (by kernel_rfl) rfl (by kernel_rfl) k
def ref3_Digits (a0 : AV) (h : AHeap) (Q : QT) : Prop :=
  qBin .lss a0 (I 0) fun t4 =>
  ifB t4 (
  qBin .sub (I 0) a0 fun t6 =>
  C fn_ref3_Digits [t6] h fun t7 h0 =>
  qBin .add (S ⟨#[45]⟩) t7 fun t8 =>
  Q t8 h0) (
  qBin .geq a0 (I 10) fun t10 =>
  ifB t10 (
  qBin .quo a0 (I 10) fun t12 =>
  C fn_ref3_Digits [t12] h fun t13 h1 =>
  qBin .rem a0 (I 10) fun t15 =>
  C fn_ref3_Digits [t15] h1 fun t16 h2 =>
  qBin .add t13 t16 fun t17 =>
  Q t17 h2) (
  qBin .add (I 48) a0 fun t19 =>
  qConvII .u8 t19 fun t20 =>
  qBuildSlice 1 1 [t20] fun t21 =>
  qBytesStr t21 h fun t22 =>
  Q t22 h))
theorem ref3_Digits_ok (a0 : AV) (h : AHeap) (Q : QT) (k : ref3_Digits a0 h Q) : C fn_ref3_Digits [a0] h Q :=
  okF (pl := []) Tryz.func18 Tryz.ntmps18 (by kernel_rfl) (by kernel_rfl) rfl (by kernel_rfl) k
end
end
section
noncomputable section
def digM : Nat → Nat → Str
  | 0, _ => []
  | f + 1, n => if n < 10 then [UInt8.ofNat (48 + n)] else digM f (n / 10) ++ digM f (n % 10)
theorem digM_len : ∀ f n, (digM f n).length ≤ 2 ^ f
  | 0, _ => by simp [digM]
  | f + 1, n => by
    have h1 := digM_len f (n / 10)
    have h2 := digM_len f (n % 10)
    have : 1 ≤ 2 ^ f := Nat.one_le_two_pow
    unfold digM
    split
    · simp [Nat.pow_succ]; omega
    · rw [List.length_append, Nat.pow_succ]; omega
section
variable [Tabs]
variable {h : AHeap} {Q : QT} {K : AV → Prop}
theorem st_bytes1 {c : Int} (k : K (T [UInt8.ofNat c.toNat])) : qBytesStr (.full 1 [.lit (.int .u8 c)]) h K := ⟨k⟩
theorem law5_within_sp {a n : Int} (hn : 0 < n) (hn2 : n ≤ 1000000000000000000) (ha : -9223372036854775808 ≤ a ∧ a ≤ 9223372036854775807) (k : Q (I (a % n)) h) : C fn_law5_within [I a, I n] h Q := by
  refine law5_within_ok _ _ _ _ ?_
  unfold law5_within
  refine st_rem (by omega) ?_
  have h1 := Int.tmod_lt_of_pos a hn
  have h0 := Int.emod_nonneg a (show n ≠ 0 by omega)
  have h4 := Int.emod_lt_of_pos a hn
  have h3 : (a.tmod n = a % n ∧ 0 ≤ a.tmod n) ∨ (a.tmod n = a % n - n ∧ a.tmod n < 0) := by
    rw [Int.tmod_eq_emod]
    have hab : (n.natAbs : Int) = n := by omega
    split
    · exact .inl ⟨by omega, by omega⟩
    · right; rw [hab]; exact ⟨rfl, by omega⟩
  refine st_lss ?_
  refine st_if (fun hb => ?_) (fun hb => ?_) <;> simp only [za, zb, zc, zd, ze, zf, zg, zh, zi, u8i, zj, zk, zl] at hb
  · refine st_add (by omega) ?_
    rw [show a.tmod n + n = a % n by omega]
    exact k
  · rw [← show a.tmod n = a % n by omega] at k
    exact k
theorem digits_sp : ∀ (f n : Nat), n < 10 ^ (f + 1) → f ≤ 9 → ∀ (h : AHeap) (Q : QT), (∀ h', Fr [] h h' → Q (T (digM (f + 1) n)) h') → C fn_ref3_Digits [I (n : Nat)] h Q
  | f, n, hn, hf, h, Q, k => by
    refine ref3_Digits_ok _ _ _ ?_
    unfold ref3_Digits
    have hp : (10 : Nat) ^ (f + 1) ≤ 10 ^ 10 := Nat.pow_le_pow_right (by decide) (by omega)
    have hpw : (10 : Nat) ^ (f + 1) = 10 ^ f * 10 := Nat.pow_succ ..
    unfold digM at k
    refine st_lss ?_
    refine st_if (fun hb => (by exfalso; first | (simp at hb; done) | (simp at hb; omega) | (revert hb; decide) | omega)) (fun _ => ?_)
    refine st_geq ?_
    refine st_if (fun hb => ?_) (fun hb => ?_) <;> simp only [za, zb, zc, zd, ze, zf, zg, zh, zi, u8i, zj, zk, zl] at hb
    · have hb : 10 ≤ n := by omega
      rw [if_neg (by omega)] at k
      obtain ⟨f, rfl⟩ : ∃ g, f = g + 1 := by
        cases f with
        | zero => simp at hn; omega
        | succ g => exact ⟨g, rfl⟩
      refine st_quo (by decide) ?_ ?_
      · rw [Int.tdiv_eq_ediv_of_nonneg (by omega)]; omega
      rw [Int.tdiv_eq_ediv_of_nonneg (by omega), show ((n : Nat) : Int) / 10 = ((n / 10 : Nat) : Int) by omega]
      refine digits_sp f (n / 10) (by omega) (by omega) h _ fun h1 f1 => ?_
      refine st_rem (by decide) ?_
      rw [Int.tmod_eq_emod_of_nonneg (by omega), show ((n : Nat) : Int) % 10 = ((n % 10 : Nat) : Int) by omega]
      have h10 : 10 ≤ 10 ^ (f + 1) := by rw [Nat.pow_succ]; have := Nat.one_le_pow f 10 (by decide); omega
      refine digits_sp f (n % 10) (by omega) (by omega) h1 _ fun h2 f2 => ?_
      have l1 := digM_len (f + 1) (n / 10)
      have l2 := digM_len (f + 1) (n % 10)
      have l3 : 2 ^ (f + 1) ≤ 2 ^ 10 := Nat.pow_le_pow_right (by decide) (by omega)
      refine st_cat (by omega) ?_
      exact k h2 (f1.trans f2 (by simp))
    · have hb : n < 10 := by omega
      rw [if_pos hb] at k
      refine st_add (by omega) ?_
      refine st_conv ?_
      refine st_buildS rfl rfl ?_
      have hw : IntKind.u8.wrap (48 + (n : Nat)) = ((48 + n : Nat) : Int) := by
        have : n = 0 ∨ n = 1 ∨ n = 2 ∨ n = 3 ∨ n = 4 ∨ n = 5 ∨ n = 6 ∨ n = 7 ∨ n = 8 ∨ n = 9 := by omega
        rcases this with h | h | h | h | h | h | h | h | h | h <;> subst h <;> decide
      rw [hw]
      refine st_bytes1 ?_
      exact k h (Fr.refl _ _)
end
end
end
section
noncomputable section
def okEB : Ex → Bool
  | .neg e => okEB e
  | .bin k a b => (Nat.ble 5 k && Nat.ble k 11) && (okEB a && okEB b)
  | _ => true
theorem okEB_ok : ∀ {e : Ex}, okEB e = true → okE e
  | .none, _ => trivial
  | .num _, _ => trivial
  | .name _, _ => trivial
  | .here, _ => trivial
  | .neg e, h => okEB_ok (e := e) h
  | .bin k a b, h => by
    simp only [okEB, Bool.and_eq_true] at h
    exact ⟨⟨Nat.le_of_ble_eq_true h.1.1, Nat.le_of_ble_eq_true h.1.2⟩, okEB_ok h.2.1, okEB_ok h.2.2⟩
def impB (a b : Bool) : Bool := match a with | true => b | false => true
theorem impB_ok {a b : Bool} (h : impB a b = true) (ha : a = true) : b = true := by subst ha; exact h
def wfSB (x : RS) : Bool :=
  impB (Nat.beq x.kind 1) (Nat.ble (x.op + 1) tbl.length && Nat.ble (flds (opKinds x.op)).length x.args.length) &&
  (impB (Nat.beq x.kind 2) (Nat.ble (x.op + 1) 3 && (Nat.ble (flds (opKinds (shortOp x.op))).length x.args.length && Nat.ble (flds (opKinds (greatOp x.op))).length x.args.length)) &&
  (impB (Nat.ble 3 x.kind) (impB (!Nat.beq x.kind 6) (!x.args.isEmpty)) &&
  (Nat.ble x.kind 9 && (Nat.ble x.args.length 999999999 && (Nat.ble x.text.length 999999999 &&
  x.args.all fun a => okEB a.e && (Nat.ble (sizeE a.e) 999999 && decide (a.reg < 1000)))))))
theorem wfSB_ok {x : RS} (h : wfSB x = true) : WfS x := by
  unfold wfSB at h
  simp only [Bool.and_eq_true] at h
  obtain ⟨h1, h2, h3, h4, h5, h6, h7⟩ := h
  refine ⟨fun hk => ?_, fun hk => ?_, fun hk hn => ?_, Nat.le_of_ble_eq_true h4, by have := Nat.le_of_ble_eq_true h5; omega, by have := Nat.le_of_ble_eq_true h6; omega, fun a ha => ?_⟩
  · have := impB_ok h1 (by rw [hk]; rfl)
    simp only [Bool.and_eq_true] at this
    exact ⟨Nat.le_of_ble_eq_true this.1, Nat.le_of_ble_eq_true this.2⟩
  · have := impB_ok h2 (by rw [hk]; rfl)
    simp only [Bool.and_eq_true] at this
    exact ⟨Nat.le_of_ble_eq_true this.1, Nat.le_of_ble_eq_true this.2.1, Nat.le_of_ble_eq_true this.2.2⟩
  · have := impB_ok (impB_ok h3 (Nat.ble_eq_true_of_le hk)) (by
      cases hb : Nat.beq x.kind 6 with
      | true => exact (hn (Nat.eq_of_beq_eq_true hb)).elim
      | false => rfl)
    intro he; rw [he] at this; cases this
  · have := List.all_eq_true.1 h7 a ha
    simp only [Bool.and_eq_true, decide_eq_true_eq] at this
    exact ⟨okEB_ok this.1, by have := Nat.le_of_ble_eq_true this.2.1; omega, this.2.2⟩
section
variable [Tabs]
def fewB (frags : List Fg) (syms : List Sy) : Bool :=
  Nat.ble frags.length 999 && (Nat.ble syms.length 999 && (Nat.ble (readE frags).length 99999 && (Nat.ble (readD frags).length 999999 && ((frags.all fun x => Nat.ble x.2.length 999999) && (readE frags).all fun e => wfSB e.x.2))))
theorem fewB_ok {frags : List Fg} {syms : List Sy} (h : fewB frags syms = true) : Few frags syms := by
  unfold fewB at h
  simp only [Bool.and_eq_true] at h
  obtain ⟨h1, h2, h3, h4, h5, h6⟩ := h
  refine ⟨by have := Nat.le_of_ble_eq_true h1; omega, by have := Nat.le_of_ble_eq_true h2; omega, by have := Nat.le_of_ble_eq_true h3; omega, by have := Nat.le_of_ble_eq_true h4; omega, fun x hx => ?_, fun e he => wfSB_ok (List.all_eq_true.1 h6 e he)⟩
  have := Nat.le_of_ble_eq_true (List.all_eq_true.1 h5 x hx); omega
variable {h : AHeap} {Q : QT} {K : AV → Prop}
abbrev s_go : Str := [103, 111, 58, 32, 98, 32, 103, 111]
abbrev s_gok : Str := [103, 111, 58, 32, 98, 32, 103, 111, 10, 46, 98, 121, 116, 101, 32, 107]
theorem known1 : (fewB [] [] && (madeD [] []).isEmpty && (imageM [] []).isEmpty) = true := by kernel_rfl
theorem known2a : fewB [([97], s_gok)] [([107], 7)] = true := by kernel_rfl
theorem known2b : madeD [([97], s_gok)] [([107], 7)] = [] := by kernel_rfl
theorem known2c : imageM [([97], s_gok)] [([107], 7)] = [232, 0, 7] := by kernel_rfl
theorem known3a : fewB [([97], [110, 111, 112])] [] = true := by kernel_rfl
theorem known3b : madeD [([97], [110, 111, 112])] [] = [([97], 1, 1)] := by kernel_rfl
theorem known4a : fewB [([97], s_go)] [] = true := by kernel_rfl
theorem known4b : madeD [([97], s_go)] [] = [] := by kernel_rfl
theorem known4c : grownM [([97], s_go)] [] = [2] := by kernel_rfl
theorem law5_known_sp (hF : FieldsOk) (hI : IndexOk) (hA : AtoiOk) (hL : LdexpOk) (k : ∀ h', Fr [] h h' → Q (B true) h') : C fn_law5_known [] h Q := by
  refine law5_known_ok _ _ ?_
  unfold law5_known
  have k1 := known1
  simp only [Bool.and_eq_true, List.isEmpty_iff] at k1
  refine assemble_sp hF hI hA hL (frags := []) (syms := []) .nil .nil (fewB_ok k1.1.1) (fun hn => (hn k1.1.2).elim) fun _ h1 f1 => ?_
  rw [k1.2]
  refine st_ext rfl (st_ext rfl (st_build rfl (st_buildS rfl rfl (st_build rfl (st_buildS rfl rfl ?_)))))
  refine assemble_sp hF hI hA hL (frags := [([97], s_gok)]) (syms := [([107], 7)]) (Row.full (enc := frE) (fun _ => rfl) [([97], s_gok)]) (Row.full (enc := syE) (fun _ => rfl) [([107], 7)]) (fewB_ok known2a) (fun hn => (hn known2b).elim) fun _ h2 f2 => ?_
  rw [known2c]
  refine st_ext rfl (st_ext rfl (st_build rfl (st_buildS rfl rfl ?_)))
  refine assemble_sp hF hI hA hL (frags := [([97], [110, 111, 112])]) (syms := []) (Row.full (enc := frE) (fun _ => rfl) [([97], [110, 111, 112])]) .nil (fewB_ok known3a) (fun _ h3 f3 => ?_) (fun hn => by rw [known3b] at hn; cases hn)
  rw [known3b]
  refine st_ext rfl (st_ext rfl (st_build rfl (st_buildS rfl rfl ?_)))
  refine grown_sp hF hI hA hL (frags := [([97], s_go)]) (syms := []) (Row.full (enc := frE) (fun _ => rfl) [([97], s_go)]) .nil (fewB_ok known4a) (fun hn => (hn known4b).elim) fun _ h4 f4 => ?_
  rw [known4c]
  refine st_ext rfl (st_ext rfl ?_)
  refine st_lenL1 (st_eql (st_if (fun _ => ?_) (fun h => by cases h)))
  refine st_lenL2 (st_eql (st_if (fun _ => ?_) (fun h => by cases h)))
  refine st_lenL2 (st_eql (st_if (fun _ => ?_) (fun h => by cases h)))
  refine st_lenL1 (st_eql (st_if (fun _ => ?_) (fun h => by cases h)))
  have rb : Row bE 1 h4 (.snap ([232, 0, 7] : List Int).length (([232, 0, 7] : List Int).flatMap bE)) [232, 0, 7] := Row.snap (enc := bE) (fun _ => rfl) _
  refine rb.idx (j := 0) (fun _ => rfl) (by decide) fun p t => ?_
  refine st_pload1 t (st_eql (st_if (fun _ => ?_) (fun h => by cases h)))
  refine rb.idx (j := 2) (fun _ => rfl) (by decide) fun p t => ?_
  refine st_pload1 t (st_eql (st_if (fun _ => ?_) (fun h => by cases h)))
  have rd : Row dE 3 h4 (.snap ([([97], 1, 1)] : List Dg).length (([([97], 1, 1)] : List Dg).flatMap dE)) [([97], 1, 1)] := Row.snap (enc := dE) (fun _ => rfl) _
  refine st_lenL1 (st_eql (st_if (fun _ => ?_) (fun h => by cases h)))
  refine rd.idx (j := 0) (fun _ => rfl) (by decide) fun p t => ?_
  refine st_pfa t (by decide) fun p2 t2 => ?_
  refine st_pload1 t2 (st_eql (st_if (fun _ => ?_) (fun h => by cases h)))
  refine st_if (fun _ => ?_) (fun h => by cases h)
  refine st_lenL1 (st_eql (st_if (fun _ => ?_) (fun h => by cases h)))
  have rg : Row iE 1 h4 (.snap ([2] : List Int).length (([2] : List Int).flatMap iE)) [2] := Row.snap (enc := iE) (fun _ => rfl) _
  refine rg.idx (j := 0) (fun _ => rfl) (by decide) fun p t => ?_
  refine st_pload1 t (st_eql ?_)
  exact k h4 (((f1.trans f2 (by simp)).trans f3 (by simp)).trans f4 (by simp))
end
end
end
section
noncomputable section
abbrev edgeOps : List Str := [[98, 32], [98, 108, 32], [98, 99, 32, 48, 44, 32, 51, 44, 32]]
section
variable [Tabs]
def edgeSrc (k : Nat) (back : Bool) (op : Str) : Str :=
  if back = true then (((([120, 58, 10, 46, 115, 112, 97, 99, 101, 32] ++ digM 3 k) ++ [10]) ++ op) ++ [120, 10])
  else ((op ++ [120, 10, 46, 115, 112, 97, 99, 101, 32]) ++ digM 3 k) ++ [10, 120, 58, 32, 115, 101, 95, 98, 108, 114, 10]
def edgeTo (k : Nat) (back : Bool) : Int := if back = true then 0 - (k : Int) else 2 + (k : Int)
def edgeWant (k : Nat) (back : Bool) : Int := if -256 ≤ edgeTo k back ∧ edgeTo k back ≤ 254 then 2 else 4
def edgeB (k : Nat) (back : Bool) (op : Str) : Bool :=
  fewB [([97], edgeSrc k back op)] [] && ((madeD [([97], edgeSrc k back op)] []).isEmpty && decide (grownM [([97], edgeSrc k back op)] [] = [edgeWant k back]))
def edgeAll (a n : Nat) (back : Bool) (op : Str) : Bool := (List.range n).all fun i => edgeB (2 * (a + i)) back op
end
end
end
end Go.Proofs.YtlhidlhmochanaaGreatDoor.AL
