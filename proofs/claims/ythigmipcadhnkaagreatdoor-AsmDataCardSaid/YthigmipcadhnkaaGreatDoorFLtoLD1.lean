import Derived.Test.YthigmipcadhnkaaGreatDoorF9
import Derived.Test.YthigmipcadhnkaaGreatDoorAA11toAA16
import Derived.KernelRfl
set_option linter.all false
set_option autoImplicit true
set_option relaxedAutoImplicit true
set_option maxRecDepth 100000

namespace Go.Proofs.YthigmipcadhnkaaGreatDoor.AL
noncomputable section
section
variable [Tabs]
variable {h : AHeap} {Q : QT} {K : AV → Prop}
theorem law5_within_sp {a n : Int} (hn : 0 < n) (hn2 : n ≤ 1000000000000000000) (ha : -9223372036854775808 ≤ a ∧ a ≤ 9223372036854775807) (k : Q (I (a % n)) h) : C fn_law5_within [I a, I n] h Q := by
  refine law5_within_ok _ _ _ _ ?_
  unfold law5_within
  refine st_rem (by omega) ?_
  have h1 := Int.tmod_lt_of_pos a hn
  have h0 := Int.emod_nonneg a (show n ≠ 0 by omega)
  have h4 := Int.emod_lt_of_pos a hn
  have h3 : (a.tmod n = a % n ∧ 0 ≤ a.tmod n) ∨ (a.tmod n = a % n - n ∧ a.tmod n < 0) := by
    rw [Int.tmod_eq_emod]
    have hab : (n.natAbs : Int) = n := by omega
    split
    · exact .inl ⟨by omega, by omega⟩
    · right; rw [hab]; exact ⟨rfl, by omega⟩
  refine st_lss ?_
  refine st_if (fun hb => ?_) (fun hb => ?_) <;> simp only [za, zb, zc, zd, ze, zf, zg, zh, zi, u8i, zj, zk, zl] at hb
  · refine st_add (by omega) ?_
    rw [show a.tmod n + n = a % n by omega]
    exact k
  · rw [← show a.tmod n = a % n by omega] at k
    exact k
end
end
end Go.Proofs.YthigmipcadhnkaaGreatDoor.AL
namespace Go.Proofs.YthigmipcadhnkaaGreatDoor.AL
noncomputable section
def okEB : Ex → Bool
  | .neg e => okEB e
  | .bin k a b => (Nat.ble 5 k && Nat.ble k 11) && (okEB a && okEB b)
  | _ => true
theorem okEB_ok : ∀ {e : Ex}, okEB e = true → okE e
  | .none, _ => trivial
  | .num _, _ => trivial
  | .name _, _ => trivial
  | .here, _ => trivial
  | .neg e, h => okEB_ok (e := e) h
  | .bin k a b, h => by
    simp only [okEB, Bool.and_eq_true] at h
    exact ⟨⟨Nat.le_of_ble_eq_true h.1.1, Nat.le_of_ble_eq_true h.1.2⟩, okEB_ok h.2.1, okEB_ok h.2.2⟩
def impB (a b : Bool) : Bool := match a with | true => b | false => true
theorem impB_ok {a b : Bool} (h : impB a b = true) (ha : a = true) : b = true := by subst ha; exact h
def wfSB (x : RS) : Bool :=
  impB (Nat.beq x.kind 1) (Nat.ble (x.op + 1) tbl.length && Nat.ble (flds (opKinds x.op)).length x.args.length) &&
  (impB (Nat.beq x.kind 2) (Nat.ble (x.op + 1) 3 && (Nat.ble (flds (opKinds (shortOp x.op))).length x.args.length && Nat.ble (flds (opKinds (greatOp x.op))).length x.args.length)) &&
  (impB (Nat.ble 3 x.kind) (impB (!Nat.beq x.kind 6) (!x.args.isEmpty)) &&
  (Nat.ble x.kind 9 && (Nat.ble x.args.length 999999999 && (Nat.ble x.text.length 999999999 &&
  x.args.all fun a => okEB a.e && (Nat.ble (sizeE a.e) 999999 && decide (a.reg < 1000)))))))
theorem wfSB_ok {x : RS} (h : wfSB x = true) : WfS x := by
  unfold wfSB at h
  simp only [Bool.and_eq_true] at h
  obtain ⟨h1, h2, h3, h4, h5, h6, h7⟩ := h
  refine ⟨fun hk => ?_, fun hk => ?_, fun hk hn => ?_, Nat.le_of_ble_eq_true h4, by have := Nat.le_of_ble_eq_true h5; omega, by have := Nat.le_of_ble_eq_true h6; omega, fun a ha => ?_⟩
  · have := impB_ok h1 (by rw [hk]; rfl)
    simp only [Bool.and_eq_true] at this
    exact ⟨Nat.le_of_ble_eq_true this.1, Nat.le_of_ble_eq_true this.2⟩
  · have := impB_ok h2 (by rw [hk]; rfl)
    simp only [Bool.and_eq_true] at this
    exact ⟨Nat.le_of_ble_eq_true this.1, Nat.le_of_ble_eq_true this.2.1, Nat.le_of_ble_eq_true this.2.2⟩
  · have := impB_ok (impB_ok h3 (Nat.ble_eq_true_of_le hk)) (by
      cases hb : Nat.beq x.kind 6 with
      | true => exact (hn (Nat.eq_of_beq_eq_true hb)).elim
      | false => rfl)
    intro he; rw [he] at this; cases this
  · have := List.all_eq_true.1 h7 a ha
    simp only [Bool.and_eq_true, decide_eq_true_eq] at this
    exact ⟨okEB_ok this.1, by have := Nat.le_of_ble_eq_true this.2.1; omega, this.2.2⟩
section
variable [Tabs]
def fewB (frags : List Fg) (syms : List Sy) : Bool :=
  Nat.ble frags.length 999 && (Nat.ble syms.length 999 && (Nat.ble (readE frags).length 99999 && (Nat.ble (readD frags).length 999999 && ((frags.all fun x => Nat.ble x.2.length 999999) && (readE frags).all fun e => wfSB e.x.2))))
theorem fewB_ok {frags : List Fg} {syms : List Sy} (h : fewB frags syms = true) : Few frags syms := by
  unfold fewB at h
  simp only [Bool.and_eq_true] at h
  obtain ⟨h1, h2, h3, h4, h5, h6⟩ := h
  refine ⟨by have := Nat.le_of_ble_eq_true h1; omega, by have := Nat.le_of_ble_eq_true h2; omega, by have := Nat.le_of_ble_eq_true h3; omega, by have := Nat.le_of_ble_eq_true h4; omega, fun x hx => ?_, fun e he => wfSB_ok (List.all_eq_true.1 h6 e he)⟩
  have := Nat.le_of_ble_eq_true (List.all_eq_true.1 h5 x hx); omega
variable {h : AHeap} {Q : QT} {K : AV → Prop}
abbrev s_go : Str := [103, 111, 58, 32, 98, 32, 103, 111]
abbrev s_gok : Str := [103, 111, 58, 32, 98, 32, 103, 111, 10, 46, 98, 121, 116, 101, 32, 107]
theorem known1 : (fewB [] [] && (madeD [] []).isEmpty && (imageM [] []).isEmpty) = true := by kernel_rfl
theorem known2a : fewB [([97], s_gok)] [([107], 7)] = true := by kernel_rfl
theorem known2b : madeD [([97], s_gok)] [([107], 7)] = [] := by kernel_rfl
theorem known2c : imageM [([97], s_gok)] [([107], 7)] = [232, 0, 7] := by kernel_rfl
theorem known3a : fewB [([97], [110, 111, 112])] [] = true := by kernel_rfl
theorem known3b : madeD [([97], [110, 111, 112])] [] = [([97], 1, 1)] := by kernel_rfl
theorem known4a : fewB [([97], s_go)] [] = true := by kernel_rfl
theorem known4b : madeD [([97], s_go)] [] = [] := by kernel_rfl
theorem known4c : grownM [([97], s_go)] [] = [2] := by kernel_rfl
theorem law5_known_sp (hF : FieldsOk) (hI : IndexOk) (hA : AtoiOk) (hL : LdexpOk) (k : ∀ h', Fr [] h h' → Q (B true) h') : C fn_law5_known [] h Q := by
  refine law5_known_ok _ _ ?_
  unfold law5_known
  have k1 := known1
  simp only [Bool.and_eq_true, List.isEmpty_iff] at k1
  refine assemble_sp hF hI hA hL (frags := []) (syms := []) .nil .nil (fewB_ok k1.1.1) (fun hn => (hn k1.1.2).elim) fun _ h1 f1 => ?_
  rw [k1.2]
  refine st_ext rfl (st_ext rfl (st_build rfl (st_buildS rfl rfl (st_build rfl (st_buildS rfl rfl ?_)))))
  refine assemble_sp hF hI hA hL (frags := [([97], s_gok)]) (syms := [([107], 7)]) (Row.full (enc := frE) (fun _ => rfl) [([97], s_gok)]) (Row.full (enc := syE) (fun _ => rfl) [([107], 7)]) (fewB_ok known2a) (fun hn => (hn known2b).elim) fun _ h2 f2 => ?_
  rw [known2c]
  refine st_ext rfl (st_ext rfl (st_build rfl (st_buildS rfl rfl ?_)))
  refine assemble_sp hF hI hA hL (frags := [([97], [110, 111, 112])]) (syms := []) (Row.full (enc := frE) (fun _ => rfl) [([97], [110, 111, 112])]) .nil (fewB_ok known3a) (fun _ h3 f3 => ?_) (fun hn => by rw [known3b] at hn; cases hn)
  rw [known3b]
  refine st_ext rfl (st_ext rfl (st_build rfl (st_buildS rfl rfl ?_)))
  refine grown_sp hF hI hA hL (frags := [([97], s_go)]) (syms := []) (Row.full (enc := frE) (fun _ => rfl) [([97], s_go)]) .nil (fewB_ok known4a) (fun hn => (hn known4b).elim) fun _ h4 f4 => ?_
  rw [known4c]
  refine st_ext rfl (st_ext rfl ?_)
  refine st_lenL1 (st_eql (st_if (fun _ => ?_) (fun h => by cases h)))
  refine st_lenL2 (st_eql (st_if (fun _ => ?_) (fun h => by cases h)))
  refine st_lenL2 (st_eql (st_if (fun _ => ?_) (fun h => by cases h)))
  refine st_lenL1 (st_eql (st_if (fun _ => ?_) (fun h => by cases h)))
  have rb : Row bE 1 h4 (.snap ([232, 0, 7] : List Int).length (([232, 0, 7] : List Int).flatMap bE)) [232, 0, 7] := Row.snap (enc := bE) (fun _ => rfl) _
  refine rb.idx (j := 0) (fun _ => rfl) (by decide) fun p t => ?_
  refine st_pload1 t (st_eql (st_if (fun _ => ?_) (fun h => by cases h)))
  refine rb.idx (j := 2) (fun _ => rfl) (by decide) fun p t => ?_
  refine st_pload1 t (st_eql (st_if (fun _ => ?_) (fun h => by cases h)))
  have rd : Row dE 3 h4 (.snap ([([97], 1, 1)] : List Dg).length (([([97], 1, 1)] : List Dg).flatMap dE)) [([97], 1, 1)] := Row.snap (enc := dE) (fun _ => rfl) _
  refine st_lenL1 (st_eql (st_if (fun _ => ?_) (fun h => by cases h)))
  refine rd.idx (j := 0) (fun _ => rfl) (by decide) fun p t => ?_
  refine st_pfa t (by decide) fun p2 t2 => ?_
  refine st_pload1 t2 (st_eql (st_if (fun _ => ?_) (fun h => by cases h)))
  refine st_if (fun _ => ?_) (fun h => by cases h)
  refine st_lenL1 (st_eql (st_if (fun _ => ?_) (fun h => by cases h)))
  have rg : Row iE 1 h4 (.snap ([2] : List Int).length (([2] : List Int).flatMap iE)) [2] := Row.snap (enc := iE) (fun _ => rfl) _
  refine rg.idx (j := 0) (fun _ => rfl) (by decide) fun p t => ?_
  refine st_pload1 t (st_eql ?_)
  exact k h4 (((f1.trans f2 (by simp)).trans f3 (by simp)).trans f4 (by simp))
end
end
end Go.Proofs.YthigmipcadhnkaaGreatDoor.AL
namespace Go.Proofs.YthigmipcadhnkaaGreatDoor.AL
noncomputable section
section
variable [Tabs]
abbrev dataOps : List Str := [[46, 98, 121, 116, 101, 32], [46, 104, 97, 108, 102, 32], [46, 108, 111, 110, 103, 32]]
abbrev datE (k : Nat) : En := ⟨[97], (1, ⟨[], 3 + k, 0, [], [⟨-1, .name [120]⟩]⟩), 0, false⟩
abbrev datF (x : Int) : Str → Option Int := upd (fun _ => none) [120] x
abbrev datLow : List Int := [-128, -32768, -2147483648]
abbrev datHigh : List Int := [255, 65535, 4294967295]
theorem datVals {x : Int} (hx : -8589934592 ≤ x ∧ x ≤ 8589934592) : valuesM 0 (datF x) [⟨-1, .name [120]⟩] = ([x], 0) := by
  have hb : boundM x = (x, 0) := by unfold boundM; rw [if_neg (by omega)]
  have hv : argV 0 (datF x) ⟨-1, .name [120]⟩ = (x, 0) := by
    unfold argV
    rw [if_pos (by decide)]
    unfold evalF
    simp only [datF, upd, if_true]
    exact hb
  unfold valuesM
  simp only [List.find?_cons, hv, List.find?_nil, List.map_cons, List.map_nil]
  rfl
theorem datWrong {x : Int} {k : Nat} (hk : k < 3) (hx : -8589934592 ≤ x ∧ x ≤ 8589934592) (es : List En) : wrongM (datF x) es (datE k) = if x < (withinM (3 + k)).1 ∨ (withinM (3 + k)).2 < x then 6 else 0 := by
  unfold wrongM
  have hc : ¬ isCode (datE k) := by unfold isCode; simp; omega
  have hd : isData (datE k) := by unfold isData; simp; omega
  rw [if_neg (fun h => hc h.1)]
  show (if (valuesM 0 (datF x) [⟨-1, .name [120]⟩]).2 = 4 ∧ _ then _ else _) = _
  rw [datVals hx, if_neg (fun h => by cases h.1), if_neg (by simp), if_neg (fun h => hc h.1)]
  unfold dataBad
  simp only [List.any_cons, List.any_nil, Bool.or_false, Bool.or_eq_true, decide_eq_true_eq]
  by_cases h : x < (withinM (3 + k)).1 ∨ (withinM (3 + k)).2 < x
  · rw [if_pos ⟨hd, h⟩, if_pos h]
  · rw [if_neg (fun hh => h hh.2), if_neg h]
theorem datRead : ∀ k, k < 3 → readE [([97], (dataOps[k]?).getD [] ++ [120])] = [datE k] ∧ readD [([97], (dataOps[k]?).getD [] ++ [120])] = []
  | 0, _ => ⟨by kernel_rfl, by kernel_rfl⟩
  | 1, _ => ⟨by kernel_rfl, by kernel_rfl⟩
  | 2, _ => ⟨by kernel_rfl, by kernel_rfl⟩
theorem datPl {x : Int} : ∀ k, k < 3 → plFix (datF x) 1 [datE k] = ([datE k], datF x, 2 ^ k)
  | 0, _ => by kernel_rfl
  | 1, _ => by kernel_rfl
  | 2, _ => by kernel_rfl
theorem datTw {x : Int} : ∀ k, k < 3 → twiceM (datF x) [datE k] = [] ∧ [datE k].flatMap (szD (datF x)) = []
  | 0, _ => ⟨by kernel_rfl, by kernel_rfl⟩
  | 1, _ => ⟨by kernel_rfl, by kernel_rfl⟩
  | 2, _ => ⟨by kernel_rfl, by kernel_rfl⟩
theorem datMade {x : Int} {k : Nat} (hk : k < 3) (hx : -8589934592 ≤ x ∧ x ≤ 8589934592) :
    madeD [([97], (dataOps[k]?).getD [] ++ [120])] [([120], x)] = (if x < (withinM (3 + k)).1 ∨ (withinM (3 + k)).2 < x then [([97], 1, 6)] else []) ∧ imageM [([97], (dataOps[k]?).getD [] ++ [120])] [([120], x)] = beB (2 ^ k) x := by
  obtain ⟨h1, h2⟩ := datRead k hk
  have hf : symF [([120], x)] = datF x := rfl
  have hP : madeP [([97], (dataOps[k]?).getD [] ++ [120])] [([120], x)] = ([datE k], datF x, 2 ^ k) := by
    unfold madeP
    rw [h1, hf]; exact datPl k hk
  obtain ⟨h3, h4⟩ := datTw (x := x) k hk
  constructor
  · unfold madeD
    rw [h2, h1, hf, h3, h4, hP]
    rw [if_neg (by simp), if_neg (by simp), if_neg (by simp), if_neg (by
      have : (2 : Int) ^ k ≤ 4 := by
        have : k = 0 ∨ k = 1 ∨ k = 2 := by omega
        rcases this with h | h | h <;> subst h <;> decide
      show ¬ 4096 < (2 : Int) ^ k
      omega)]
    simp only [List.flatMap_cons, List.flatMap_nil, List.append_nil]
    unfold chD
    rw [datWrong hk hx]
    split <;> rfl
  · unfold imageM
    rw [hP, hf]
    simp only [List.flatMap_cons, List.flatMap_nil, List.append_nil]
    unfold bytesM
    have hc : ¬ isCode (datE k) := by unfold isCode; simp; omega
    have hd : isData (datE k) := by unfold isData; simp; omega
    rw [if_neg hc, if_pos hd]
    show (valuesM 0 (datF x) [⟨-1, .name [120]⟩]).1.flatMap (beB (2 ^ (3 + k - 3))) = _
    rw [datVals hx, show 3 + k - 3 = k by omega]
    simp
end
end
end Go.Proofs.YthigmipcadhnkaaGreatDoor.AL
namespace Go.Proofs.YthigmipcadhnkaaGreatDoor.AL
noncomputable section
theorem beB_get : ∀ (n : Nat) (v : Int) (i : Nat) (hi : i < (beB n v).length), (beB n v)[i] = IntKind.u8.wrap (v.fdiv (2 ^ (8 * (n - 1 - i))))
  | 0, v, i, hi => by simp [beB] at hi
  | n + 1, v, 0, hi => by simp [beB]
  | n + 1, v, i + 1, hi => by
    have := beB_get n v i (by simpa [beB] using hi)
    simp only [beB, List.getElem_cons_succ]
    rw [this, show n + 1 - 1 - (i + 1) = n - 1 - i by omega]
section
variable [Tabs]
variable {h : AHeap} {Q : QT} {K : AV → Prop}
theorem data_tail {x : Int} {k : Nat} (hk : k < 3) (hx : -8589934592 ≤ x ∧ x ≤ 8589934592) (q : ∀ h', Q (B true) h') : Loop [(B false), (I 0)] h fun vs6 h next6 => law5_AsmData_l7 (.snap (beB (2 ^ k) x).length ((beB (2 ^ k) x).flatMap bE)) (I x) (I ((2 ^ k : Nat) : Int)) Q vs6 h next6 := by
  have hw : 2 ^ k ≤ 4 := by
    have : k = 0 ∨ k = 1 ∨ k = 2 := by omega
    rcases this with h | h | h <;> subst h <;> decide
  have hl := beB_len (2 ^ k) x
  generalize hW : 2 ^ k = W at hw hl ⊢
  refine st_loop (fun n vs h' => ∃ (i : Nat), vs = [B false, I (i : Nat)] ∧ n + i = W) W ⟨0, rfl, by omega⟩ ?_
  rintro n vs h1 ⟨i, rfl, hn⟩
  unfold law5_AsmData_l7
  refine st_lss ?_
  refine st_if (fun hi => ?_) (fun hi => ?_) <;> simp only [za, zb, zc, zd, ze, zf, zg, zh, zi, u8i, zj, zk, zl] at hi
  · have hi : i < (beB W x).length := by omega
    refine (Row.snap (h := h1) (enc := bE) (fun _ => rfl) (beB W x)).idx (fun _ => rfl) hi fun p t => ?_
    refine st_pload1 t ?_
    refine st_sub (by omega) (st_sub (by omega) (st_mul (by omega) (st_conv ?_)))
    have h8 : (8 : Int) * ((W : Nat) - 1 - (i : Nat)) = ((8 * (W - 1 - i) : Nat) : Int) := by omega
    have hu : IntKind.u64.wrap ((8 * (W - 1 - i) : Nat) : Int) = ((8 * (W - 1 - i) : Nat) : Int) := by
      have h0 : 8 * (W - 1 - i) = 0 ∨ 8 * (W - 1 - i) = 8 ∨ 8 * (W - 1 - i) = 16 ∨ 8 * (W - 1 - i) = 24 := by omega
      rcases h0 with h | h | h | h <;> rw [h] <;> decide
    rw [h8, hu]
    refine st_shr (by omega) (st_conv (st_neq ?_))
    have hmin : min ((8 * (W - 1 - i) : Nat) : Int).toNat IntKind.i64.bits = 8 * (W - 1 - i) := by
      have hb : IntKind.i64.bits = 64 := rfl
      rw [hb]; omega
    rw [hmin, ← beB_get W x i hi]
    refine st_if (fun h => by simp at h) (fun _ => ?_)
    refine st_add (by omega) ?_
    exact ⟨n - 1, by omega, i + 1, rfl, by omega⟩
  · exact q h1
theorem datFew (x : Int) : ∀ k, k < 3 → fewB [([97], (dataOps[k]?).getD [] ++ [120])] [([120], x)] = true
  | 0, _ => by kernel_rfl
  | 1, _ => by kernel_rfl
  | 2, _ => by kernel_rfl
theorem data_law (hF : FieldsOk) (hI : IndexOk) (hA : AtoiOk) (hL : LdexpOk) {v kd : Int} (hv : -9223372036854775808 ≤ v ∧ v ≤ 9223372036854775807) (hkd : -9223372036854775808 ≤ kd ∧ kd ≤ 9223372036854775807) (k : ∀ h', Q (B true) h') : C fn_law5_AsmData [I v, I kd] h Q := by
  refine law5_AsmData_ok _ _ _ _ ?_
  unfold law5_AsmData
  refine law5_known_sp hF hI hA hL fun h1 f1 => ?_
  refine st_not (st_if (fun h => by cases h) (fun _ => ?_))
  refine law5_within_sp (by decide) (by decide) hkd ?_
  obtain ⟨m, hm⟩ := Int.eq_ofNat_of_zero_le (Int.emod_nonneg kd (show (3 : Int) ≠ 0 by decide))
  have hm3 : m < 3 := by have := Int.emod_lt_of_pos kd (show (0 : Int) < 3 by decide); omega
  rw [hm]
  refine st_buildS rfl rfl ?_
  refine (Row.full (h := h1) (enc := iE) (fun _ => rfl) [1, 2, 4]).idx (fun _ => rfl) hm3 fun p t => ?_
  refine st_pload1 t (st_buildS rfl rfl ?_)
  refine (Row.full (h := h1) (enc := iE) (fun _ => rfl) datLow).idx (fun _ => rfl) hm3 fun p t => ?_
  refine st_pload1 t (st_buildS rfl rfl ?_)
  refine (Row.full (h := h1) (enc := iE) (fun _ => rfl) datHigh).idx (fun _ => rfl) hm3 fun p t => ?_
  refine st_pload1 t ?_
  have hnn : ([1, 2, 4] : List Int)[m]'hm3 = ((2 ^ m : Nat) : Int) := by
    have : m = 0 ∨ m = 1 ∨ m = 2 := by omega
    rcases this with h | h | h <;> subst h <;> rfl
  have hlow : datLow[m]'hm3 = (withinM (3 + m)).1 ∧ datHigh[m]'hm3 = (withinM (3 + m)).2 := by
    have : m = 0 ∨ m = 1 ∨ m = 2 := by omega
    rcases this with h | h | h <;> subst h <;> exact ⟨rfl, rfl⟩
  have hbd : -2147483648 ≤ (withinM (3 + m)).1 ∧ (withinM (3 + m)).1 ≤ 0 ∧ 0 ≤ (withinM (3 + m)).2 ∧ (withinM (3 + m)).2 ≤ 4294967295 := by
    have : m = 0 ∨ m = 1 ∨ m = 2 := by omega
    rcases this with h | h | h <;> subst h <;> decide
  rw [hnn, hlow.1, hlow.2]
  have hmade := fun x (hx : -8589934592 ≤ x ∧ x ≤ 8589934592) => datMade hm3 hx
  generalize (withinM (3 + m)).1 = lo at hbd hmade ⊢
  generalize (withinM (3 + m)).2 = hi at hbd hmade ⊢
  refine law5_within_sp (by decide) (by decide) hv ?_
  have e1 := Int.emod_nonneg v (show (17179869184 : Int) ≠ 0 by decide)
  have e2 := Int.emod_lt_of_pos v (show (0 : Int) < 17179869184 by decide)
  have e3 := Int.emod_nonneg v (show (600 : Int) ≠ 0 by decide)
  have e4 := Int.emod_lt_of_pos v (show (0 : Int) < 600 by decide)
  refine st_sub (by omega) ?_
  refine law5_within_sp (by decide) (by decide) hv ?_
  refine st_sub (by omega) (st_sub (by omega) (st_add (by omega) (st_buildS rfl rfl ?_)))
  have e5 : -9223372036854775808 ≤ v.tdiv 7 ∧ v.tdiv 7 ≤ 9223372036854775807 := by
    have := Int.tdiv_mul_add_tmod v 7
    have h1 := Int.tmod_lt_of_pos v (show (0 : Int) < 7 by decide)
    have h2 := Int.lt_tmod_of_pos v (show (0 : Int) < 7 by decide)
    omega
  refine st_quo (by decide) e5 ?_
  refine law5_within_sp (by decide) (by decide) e5 ?_
  obtain ⟨j, hj⟩ := Int.eq_ofNat_of_zero_le (Int.emod_nonneg (v.tdiv 7) (show (6 : Int) ≠ 0 by decide))
  have hj6 : j < 6 := by have := Int.emod_lt_of_pos (v.tdiv 7) (show (0 : Int) < 6 by decide); omega
  rw [hj]
  refine (Row.full (h := h1) (enc := iE) (fun _ => rfl) [v % 17179869184 - 8589934592, v % 600 - 300, lo, hi, lo - 1, hi + 1]).idx (fun _ => rfl) hj6 fun p t => ?_
  refine st_pload1 t ?_
  have hx : -8589934592 ≤ ([v % 17179869184 - 8589934592, v % 600 - 300, lo, hi, lo - 1, hi + 1] : List Int)[j]'hj6 ∧ ([v % 17179869184 - 8589934592, v % 600 - 300, lo, hi, lo - 1, hi + 1] : List Int)[j]'hj6 ≤ 8589934592 := by
    have hall : ∀ y ∈ ([v % 17179869184 - 8589934592, v % 600 - 300, lo, hi, lo - 1, hi + 1] : List Int), -8589934592 ≤ y ∧ y ≤ 8589934592 := by
      intro y hy
      simp only [List.mem_cons, List.not_mem_nil, or_false] at hy
      omega
    exact hall _ (List.getElem_mem _)
  generalize ([v % 17179869184 - 8589934592, v % 600 - 300, lo, hi, lo - 1, hi + 1] : List Int)[j]'hj6 = x at hx ⊢
  refine st_buildS rfl rfl ?_
  have hm3' : m < dataOps.length := hm3
  refine (Row.full (h := h1) (enc := sE) (fun _ => rfl) dataOps).idx (fun _ => rfl) hm3' fun p t => ?_
  refine st_pload1 t ?_
  have hol : (dataOps[m]'hm3').length ≤ 9 := by
    have : ∀ x ∈ dataOps, x.length ≤ 9 := by decide
    exact this _ (List.getElem_mem _)
  refine st_cat (by simp only [List.length_cons, List.length_nil]; omega) ?_
  obtain ⟨hd, him⟩ := hmade x hx
  have hget : (dataOps[m]?).getD [] = dataOps[m]'hm3' := by rw [List.getElem?_eq_getElem hm3']; rfl
  rw [hget] at hd him
  have hfew := datFew x m hm3
  rw [hget] at hfew
  refine st_build rfl (st_buildS rfl rfl (st_build rfl (st_buildS rfl rfl ?_)))
  generalize dataOps[m]'hm3' ++ [120] = src at hd him hfew ⊢
  refine assemble_sp hF hI hA hL (frags := [([97], src)]) (syms := [([120], x)]) (Row.full (enc := frE) (fun _ => rfl) [([97], src)]) (Row.full (enc := syE) (fun _ => rfl) [([120], x)]) (fewB_ok hfew) (fun hn h2 f2 => ?_) (fun hn h2 f2 => ?_)
  · rw [hd] at hn ⊢
    have hbad : x < lo ∨ hi < x := by
      by_cases hb : x < lo ∨ hi < x
      · exact hb
      · rw [if_neg hb] at hn; exact (hn rfl).elim
    rw [if_pos hbad]
    have rd : Row dE 3 h2 (.snap ([([97], 1, 6)] : List Dg).length (([([97], 1, 6)] : List Dg).flatMap dE)) [([97], 1, 6)] := Row.snap (enc := dE) (fun _ => rfl) _
    refine st_ext rfl (st_ext rfl (st_lss ?_))
    refine st_if (fun hlo => ?_) (fun hlo => ?_) <;> simp only [za, zb, zc, zd, ze, zf, zg, zh, zi, u8i, zj, zk, zl] at hlo
    · refine st_lenL2 (st_eql (st_if (fun _ => ?_) (fun h => by cases h)))
      refine st_lenL1 (st_eql (st_if (fun _ => ?_) (fun h => by cases h)))
      refine rd.idx (j := 0) (fun _ => rfl) (by decide) fun p t => ?_
      refine st_pfa t (by decide) fun p2 t2 => ?_
      refine st_pload1 t2 (st_eql ?_)
      exact k h2
    · refine st_gtr ?_
      refine st_if (fun hhi => ?_) (fun hhi => ?_) <;> simp only [za, zb, zc, zd, ze, zf, zg, zh, zi, u8i, zj, zk, zl] at hhi
      · refine st_lenL2 (st_eql (st_if (fun _ => ?_) (fun h => by cases h)))
        refine st_lenL1 (st_eql (st_if (fun _ => ?_) (fun h => by cases h)))
        refine rd.idx (j := 0) (fun _ => rfl) (by decide) fun p t => ?_
        refine st_pfa t (by decide) fun p2 t2 => ?_
        refine st_pload1 t2 (st_eql ?_)
        exact k h2
      · omega
  · rw [hd] at hn
    have hgood : ¬ (x < lo ∨ hi < x) := by
      intro hb
      rw [if_pos hb] at hn; cases hn
    rw [him]
    refine st_ext rfl (st_ext rfl (st_lss ?_))
    refine st_if (fun hlo => ?_) (fun hlo => ?_) <;> simp only [za, zb, zc, zd, ze, zf, zg, zh, zi, u8i, zj, zk, zl] at hlo
    · omega
    · refine st_gtr ?_
      refine st_if (fun hhi => ?_) (fun hhi => ?_) <;> simp only [za, zb, zc, zd, ze, zf, zg, zh, zi, u8i, zj, zk, zl] at hhi
      · omega
      · refine st_lenL2 (st_neq (st_if (fun h => by cases h) (fun _ => ?_)))
        refine st_lenL1 (st_neq (st_if (fun h => ?_) (fun _ => ?_)))
        · rw [beB_len] at h; simp at h
        · exact data_tail hm3 hx k
end
end
end Go.Proofs.YthigmipcadhnkaaGreatDoor.AL
