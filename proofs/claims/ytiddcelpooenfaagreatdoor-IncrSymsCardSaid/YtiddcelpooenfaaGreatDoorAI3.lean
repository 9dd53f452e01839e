import Derived.Test.YtiddcelpooenfaaGreatDoorSBtoAI2
set_option linter.all false
set_option autoImplicit true
set_option relaxedAutoImplicit true
set_option maxRecDepth 100000
namespace Go.Proofs.YtiddcelpooenfaaGreatDoor.AL
noncomputable section
variable [Tabs]
abbrev U32 (n : Int) : AV := .lit (.int .u32 n)
def putP (at_ bits : Nat) (step less v : Int) : Option Int :=
  if v < less then none else if shlI .i64 step bits ≤ v - less then none else if (v - less).tmod step ≠ 0 then none else some (shlI .u32 (IntKind.u32.wrap ((v - less).tdiv step)) at_)
def Small (v : Int) : Prop := -4503599627370496 ≤ v ∧ v ≤ 4503599627370496
def PutK (m : Option Int) (h : AHeap) (Q : QT) : Prop := ∀ b h', Fr [] h h' → (∀ n, m = some n → b = n) → Q (.tup [U32 b, B m.isSome]) h'
theorem PutK.none {h h' : AHeap} {Q : QT} {m : Option Int} (k : PutK m h Q) (f : Fr [] h h') (b : Int) (e : m = .none) : Q (.tup [U32 b, B false]) h' := by
  subst e; exact k b h' f (fun n h => by cases h)
theorem PutK.some {h h' : AHeap} {Q : QT} {m : Option Int} (k : PutK m h Q) (f : Fr [] h h') {b : Int} (e : m = .some b) : Q (.tup [U32 b, B true]) h' := by
  subst e; exact k b h' f (fun n h => by cases h; rfl)
theorem PutK.is {h h' : AHeap} {Q : QT} {m : Option Int} (k : PutK m h Q) (f : Fr [] h h') {b : Int} {p : Bool} (e : m = if p = true then .some b else .none) : Q (.tup [U32 b, B p]) h' := by
  cases p with
  | true => exact k.some f (by simpa using e)
  | false => exact k.none f b (by simpa using e)
theorem plainPut_sp (at_ bits : Nat) (step less v : Int) (hv : Small v) (hs : 0 < step ∧ step ≤ 4) (hl : 0 ≤ less ∧ less ≤ 1) {h : AHeap} {Q : QT} (k : PutK (putP at_ bits step less v) h Q) : C fn_isa_plain_put [.agg [.lit (.int .u64 at_), .lit (.int .u64 bits), I step, I less], I v] h Q := by
  unfold Small at hv
  refine isa_plain_put_ok _ _ _ _ ?_
  unfold isa_plain_put
  refine st_box (St.start h) rfl fun i h1 s1 => ?_
  (repeat (first | refine st_fa ?_ | refine st_lss ?_ | refine st_load1 ‹_› (.head _) rfl ?_))
  refine st_if (fun hb => ?_) (fun hb => ?_) <;> simp only [za, zb, zc, zd, ze, zf, zg, zh, zi, u8i, zj, zk, zl] at hb
  · exact k.none s1.fr _ (by unfold putP; rw [if_pos hb])
  (repeat (first | refine st_fa ?_ | refine st_sub (by omega) ?_ | refine st_load1 ‹_› (.head _) rfl ?_))
  refine st_shl (by omega) ?_
  (repeat refine st_geq ?_)
  refine st_if (fun hb2 => ?_) (fun hb2 => ?_) <;> simp only [za, zb, zc, zd, ze, zf, zg, zh, zi, u8i, zj, zk, zl] at hb2
  · exact k.none s1.fr _ (by unfold putP; rw [if_neg (by omega)]; exact if_pos hb2)
  (repeat (first | refine st_fa ?_ | refine st_sub (by omega) ?_ | refine st_load1 ‹_› (.head _) rfl ?_))
  refine st_rem (by omega) ?_
  (repeat refine st_neq ?_)
  refine st_if (fun hb3 => ?_) (fun hb3 => ?_) <;> simp only [za, zb, zc, zd, ze, zf, zg, zh, zi, u8i, zj, zk, zl] at hb3
  · exact k.none s1.fr _ (by unfold putP; rw [if_neg (by omega)]; exact (if_neg (Int.not_le.2 hb2)).trans (if_pos hb3))
  (repeat (first | refine st_fa ?_ | refine st_sub (by omega) ?_ | refine st_load1 ‹_› (.head _) rfl ?_))
  have ht : 0 ≤ (v - less).tdiv step := Int.tdiv_nonneg (by omega) (by omega)
  have ht2 : (v - less).tdiv step ≤ v - less := by
    rw [Int.tdiv_eq_ediv_of_nonneg (by omega)]
    exact Int.ediv_le_self _ (by omega)
  refine st_quo (by omega) (by omega) ?_
  refine st_conv ?_
  (repeat (first | refine st_fa ?_ | refine st_load1 ‹_› (.head _) rfl ?_))
  refine st_shl (by omega) ?_
  refine k.some s1.fr ?_
  unfold putP
  rw [if_neg (by omega)]
  exact (if_neg (Int.not_le.2 hb2)).trans (if_neg (by simpa using hb3))
def fits (v : Int) (b : Nat) : Bool := decide (-(2 ^ b : Nat) ≤ v) && decide (v < (2 ^ b : Nat))
theorem neg_nearest : ∀ b ∈ [8, 15, 19, 24], Op.negFloat .f64 (FloatKind.f64.nearest (2 ^ b : Nat)) = FloatKind.f64.nearest (-(2 ^ b : Nat)) := by decide
theorem fits_sp (hL : LdexpOk) (v : Int) (hv : Small v) (b : Nat) (hb : b ∈ [8, 15, 19, 24]) {h : AHeap} {Q : QT} (k : Q (B (fits v b)) h) : C fn_imm_Fits [I v, I ((b + 1 : Nat) : Int)] h Q := by
  unfold Small at hv
  have hb2 : b ≤ 24 := by simp at hb; omega
  have hpow : 2 ^ b ≤ 2 ^ 24 := Nat.pow_le_pow_right (by omega) hb2
  have hn := neg_nearest b hb
  have hL' := hL b hb
  unfold fits at k
  generalize 2 ^ b = X at hpow hn hL' k
  refine imm_Fits_ok _ _ _ _ ?_
  unfold imm_Fits
  refine st_sub (by omega) ?_
  rw [show (((b + 1 : Nat) : Int) - 1) = (b : Nat) by omega]
  refine hL' _ _ ?_
  refine ⟨?_⟩
  refine ⟨?_⟩
  refine st_bin (r := .bool (decide (-(X : Int) ≤ v))) ?_ ?_
  · simp only [binLit, floatBin, if_true]
    rw [hn, order_nearest v _ (by omega) (by omega)]
    congr 2
    rw [Bool.eq_iff_iff]
    simp only [Bool.or_eq_true, beq_iff_eq, Option.some.injEq, decide_eq_true_eq, compare, compareOfLessAndEq]
    split
    · simp; omega
    · split
      · simp; omega
      · simp; omega
  · cases hc : decide (-(X : Int) ≤ v) with
    | false =>
      refine st_if (fun h => by cases h) (fun _ => ?_)
      rw [hc] at k; exact k
    | true =>
      refine st_if (fun _ => ?_) (fun h => by cases h)
      refine ⟨?_⟩
      refine st_bin (r := .bool (decide (v < (X : Int)))) ?_ ?_
      · simp only [binLit, floatBin, if_true]
        rw [order_nearest v _ (by omega) (by omega)]
        congr 2
        rw [Bool.eq_iff_iff]
        simp only [beq_iff_eq, Option.some.injEq, decide_eq_true_eq, compare, compareOfLessAndEq]
        split
        · simp; omega
        · split
          · simp; omega
          · simp; omega
      · rw [hc] at k; exact k
theorem place_sp (k : Str) {h : AHeap} {Q : QT} (q : Q (.lit (.int .u64 (if k = [89] then 4 else 0))) h) : C fn_isa_place [T k] h Q := by
  refine isa_place_ok _ _ _ ?_
  unfold isa_place
  (repeat refine st_seq ?_)
  refine st_if (fun hb => ?_) (fun hb => ?_) <;> simp only [za, zb, zc, zd, ze, zf, zg, zh, zi, u8i, zj, zk, zl] at hb
  · rw [if_pos hb] at q; exact q
  · rw [if_neg hb] at q; exact q
def regP (sh : Nat) (v : Int) : Option Int := if v < 0 ∨ (7 < v ∧ v < 24) ∨ 31 < v then none else some (shlI .u32 (IntKind.u32.wrap (v - v.tdiv 24 * 16)) sh)
theorem regTail (k : Str) (sh : Nat) (hsh : ((if k = [89] then 4 else 0 : Nat)) = sh) {v : Int} (hv : -4503599627370496 ≤ v ∧ v ≤ 4503599627370496) {h h1 : AHeap} {Q : QT} (q : PutK (regP sh v) h Q) (f : Fr [] h h1) (h4 : ¬(v < 0 ∨ (7 < v ∧ v < 24) ∨ 31 < v)) :
    qBin .quo (I v) (I 24) (fun t46 => qBin .mul t46 (I 16) fun t47 => qBin .sub (I v) t47 fun t48 => qConvII .u32 t48 fun t49 => C fn_isa_place [T k] h1 fun t51 h4 => qBin .shl t49 t51 fun t52 => Q (.tup [t52, (B true)]) h4) := by
  refine st_quo (by omega) (by rw [Int.tdiv_eq_ediv_of_nonneg (by omega)]; omega) ?_
  have hq : 0 ≤ v.tdiv 24 ∧ v.tdiv 24 ≤ 1 := by rw [Int.tdiv_eq_ediv_of_nonneg (by omega)]; omega
  refine st_mul (by omega) ?_
  refine st_sub (by omega) ?_
  refine st_conv ?_
  refine place_sp _ ?_
  refine st_shl (by split <;> omega) ?_
  refine q.some f ?_
  unfold regP
  rw [if_neg h4, ← hsh]
  split <;> rfl
def l20P (v : Int) : Option Int := if fits v 19 = true then some (IntKind.u32.wrap (orI .i64 (orI .i64 (shlI .i64 (andI .i64 (shrI .i64 v 16) 15) 11) (shlI .i64 (andI .i64 (shrI .i64 v 11) 31) 16)) (andI .i64 v 2047))) else none
def c8P (v : Int) : Option Int := (sci8 v).map fun x => IntKind.u32.wrap (orI .i64 (orI .i64 (shlI .i64 x.1 10) (shlI .i64 x.2.1 8)) x.2.2)
def s16P (v : Int) : Option Int := if fits v 15 = true then some (IntKind.u32.wrap (andI .i64 v 65535)) else none
def t8P (v : Int) : Option Int := if v.tmod 2 = 0 then (if fits v 8 = true then some (IntKind.u32.wrap (andI .i64 (v.tdiv 2) 255)) else none) else none
def tP (b : Nat) (v : Int) : Option Int := if v.tmod 2 = 0 then (if fits v b = true then some (IntKind.u32.wrap (andI .i64 v (2 ^ (b + 1) - 1 : Nat))) else none) else none
def plainTab : List (Str × Nat × Nat × Int × Int) := [([85, 53], 4, 5, 1, 0), ([85, 55], 4, 7, 1, 0), ([79, 53], 4, 5, 1, 1), ([77, 49], 8, 4, 1, 0), ([77, 50], 8, 4, 2, 0), ([77, 52], 8, 4, 4, 0), ([79, 49], 10, 1, 1, 0), ([73, 50], 8, 2, 1, 0), ([68], 21, 5, 1, 0), ([65], 16, 5, 1, 0), ([66], 11, 5, 1, 0), ([79, 50], 20, 2, 1, 0), ([73, 52], 16, 4, 1, 0)]
def putM (k : Str) (v : Int) : Option Int := match plainTab.lookup k with
  | some (a, b, s, l) => putP a b s l v
  | none => if k = [88] then regP 0 v else if k = [89] then regP 4 v else if k = [76, 50, 48] then l20P v else if k = [67, 56] then c8P v else if k = [83, 49, 54] then s16P v else if k = [84, 56] then t8P v else if k = [84, 50, 52] then tP 24 v else tP 15 v
theorem put_U5_sp (v : Int) (hv : Small v) {h : AHeap} {Q : QT} (q : PutK (putM [85, 53] v) h Q) : C fn_isa_put [T [85, 53], I v] h Q := by
  refine isa_put_ok _ _ _ _ ?_
  unfold isa_put
  refine isa_plains_ok _ _ _ ?_
  unfold isa_plains
  have s0 := St.start h
  (repeat (first | refine st_ext rfl ?_ | refine st_seq ?_ | refine st_loadA ‹_› (.head _) (nle rfl) ?_ | refine st_build rfl ?_ | refine st_new ‹_› fun _ _ _ => ?_ | refine st_store ‹_› .head rfl rfl rfl (nle rfl) fun _ _ => ?_))
  have s := (by assumption : St h [] _ _)
  refine plainPut_sp 4 5 1 0 v hv (by decide) (by decide) fun b h2 f2 hb => ?_
  (repeat refine st_ext rfl ?_)
  exact q b _ (St.call s f2).fr hb
theorem put_U7_sp (v : Int) (hv : Small v) {h : AHeap} {Q : QT} (q : PutK (putM [85, 55] v) h Q) : C fn_isa_put [T [85, 55], I v] h Q := by
  refine isa_put_ok _ _ _ _ ?_
  unfold isa_put
  refine isa_plains_ok _ _ _ ?_
  unfold isa_plains
  have s0 := St.start h
  (repeat (first | refine st_ext rfl ?_ | refine st_seq ?_ | refine st_loadA ‹_› (.head _) (nle rfl) ?_ | refine st_build rfl ?_ | refine st_new ‹_› fun _ _ _ => ?_ | refine st_store ‹_› .head rfl rfl rfl (nle rfl) fun _ _ => ?_))
  have s := (by assumption : St h [] _ _)
  refine plainPut_sp 4 7 1 0 v hv (by decide) (by decide) fun b h2 f2 hb => ?_
  (repeat refine st_ext rfl ?_)
  exact q b _ (St.call s f2).fr hb
theorem put_O5_sp (v : Int) (hv : Small v) {h : AHeap} {Q : QT} (q : PutK (putM [79, 53] v) h Q) : C fn_isa_put [T [79, 53], I v] h Q := by
  refine isa_put_ok _ _ _ _ ?_
  unfold isa_put
  refine isa_plains_ok _ _ _ ?_
  unfold isa_plains
  have s0 := St.start h
  (repeat (first | refine st_ext rfl ?_ | refine st_seq ?_ | refine st_loadA ‹_› (.head _) (nle rfl) ?_ | refine st_build rfl ?_ | refine st_new ‹_› fun _ _ _ => ?_ | refine st_store ‹_› .head rfl rfl rfl (nle rfl) fun _ _ => ?_))
  have s := (by assumption : St h [] _ _)
  refine plainPut_sp 4 5 1 1 v hv (by decide) (by decide) fun b h2 f2 hb => ?_
  (repeat refine st_ext rfl ?_)
  exact q b _ (St.call s f2).fr hb
theorem put_M1_sp (v : Int) (hv : Small v) {h : AHeap} {Q : QT} (q : PutK (putM [77, 49] v) h Q) : C fn_isa_put [T [77, 49], I v] h Q := by
  refine isa_put_ok _ _ _ _ ?_
  unfold isa_put
  refine isa_plains_ok _ _ _ ?_
  unfold isa_plains
  have s0 := St.start h
  (repeat (first | refine st_ext rfl ?_ | refine st_seq ?_ | refine st_loadA ‹_› (.head _) (nle rfl) ?_ | refine st_build rfl ?_ | refine st_new ‹_› fun _ _ _ => ?_ | refine st_store ‹_› .head rfl rfl rfl (nle rfl) fun _ _ => ?_))
  have s := (by assumption : St h [] _ _)
  refine plainPut_sp 8 4 1 0 v hv (by decide) (by decide) fun b h2 f2 hb => ?_
  (repeat refine st_ext rfl ?_)
  exact q b _ (St.call s f2).fr hb
theorem put_M2_sp (v : Int) (hv : Small v) {h : AHeap} {Q : QT} (q : PutK (putM [77, 50] v) h Q) : C fn_isa_put [T [77, 50], I v] h Q := by
  refine isa_put_ok _ _ _ _ ?_
  unfold isa_put
  refine isa_plains_ok _ _ _ ?_
  unfold isa_plains
  have s0 := St.start h
  (repeat (first | refine st_ext rfl ?_ | refine st_seq ?_ | refine st_loadA ‹_› (.head _) (nle rfl) ?_ | refine st_build rfl ?_ | refine st_new ‹_› fun _ _ _ => ?_ | refine st_store ‹_› .head rfl rfl rfl (nle rfl) fun _ _ => ?_))
  have s := (by assumption : St h [] _ _)
  refine plainPut_sp 8 4 2 0 v hv (by decide) (by decide) fun b h2 f2 hb => ?_
  (repeat refine st_ext rfl ?_)
  exact q b _ (St.call s f2).fr hb
theorem put_M4_sp (v : Int) (hv : Small v) {h : AHeap} {Q : QT} (q : PutK (putM [77, 52] v) h Q) : C fn_isa_put [T [77, 52], I v] h Q := by
  refine isa_put_ok _ _ _ _ ?_
  unfold isa_put
  refine isa_plains_ok _ _ _ ?_
  unfold isa_plains
  have s0 := St.start h
  (repeat (first | refine st_ext rfl ?_ | refine st_seq ?_ | refine st_loadA ‹_› (.head _) (nle rfl) ?_ | refine st_build rfl ?_ | refine st_new ‹_› fun _ _ _ => ?_ | refine st_store ‹_› .head rfl rfl rfl (nle rfl) fun _ _ => ?_))
  have s := (by assumption : St h [] _ _)
  refine plainPut_sp 8 4 4 0 v hv (by decide) (by decide) fun b h2 f2 hb => ?_
  (repeat refine st_ext rfl ?_)
  exact q b _ (St.call s f2).fr hb
theorem put_O1_sp (v : Int) (hv : Small v) {h : AHeap} {Q : QT} (q : PutK (putM [79, 49] v) h Q) : C fn_isa_put [T [79, 49], I v] h Q := by
  refine isa_put_ok _ _ _ _ ?_
  unfold isa_put
  refine isa_plains_ok _ _ _ ?_
  unfold isa_plains
  have s0 := St.start h
  (repeat (first | refine st_ext rfl ?_ | refine st_seq ?_ | refine st_loadA ‹_› (.head _) (nle rfl) ?_ | refine st_build rfl ?_ | refine st_new ‹_› fun _ _ _ => ?_ | refine st_store ‹_› .head rfl rfl rfl (nle rfl) fun _ _ => ?_))
  have s := (by assumption : St h [] _ _)
  refine plainPut_sp 10 1 1 0 v hv (by decide) (by decide) fun b h2 f2 hb => ?_
  (repeat refine st_ext rfl ?_)
  exact q b _ (St.call s f2).fr hb
theorem put_I2_sp (v : Int) (hv : Small v) {h : AHeap} {Q : QT} (q : PutK (putM [73, 50] v) h Q) : C fn_isa_put [T [73, 50], I v] h Q := by
  refine isa_put_ok _ _ _ _ ?_
  unfold isa_put
  refine isa_plains_ok _ _ _ ?_
  unfold isa_plains
  have s0 := St.start h
  (repeat (first | refine st_ext rfl ?_ | refine st_seq ?_ | refine st_loadA ‹_› (.head _) (nle rfl) ?_ | refine st_build rfl ?_ | refine st_new ‹_› fun _ _ _ => ?_ | refine st_store ‹_› .head rfl rfl rfl (nle rfl) fun _ _ => ?_))
  have s := (by assumption : St h [] _ _)
  refine plainPut_sp 8 2 1 0 v hv (by decide) (by decide) fun b h2 f2 hb => ?_
  (repeat refine st_ext rfl ?_)
  exact q b _ (St.call s f2).fr hb
theorem put_D_sp (v : Int) (hv : Small v) {h : AHeap} {Q : QT} (q : PutK (putM [68] v) h Q) : C fn_isa_put [T [68], I v] h Q := by
  refine isa_put_ok _ _ _ _ ?_
  unfold isa_put
  refine isa_plains_ok _ _ _ ?_
  unfold isa_plains
  have s0 := St.start h
  (repeat (first | refine st_ext rfl ?_ | refine st_seq ?_ | refine st_loadA ‹_› (.head _) (nle rfl) ?_ | refine st_build rfl ?_ | refine st_new ‹_› fun _ _ _ => ?_ | refine st_store ‹_› .head rfl rfl rfl (nle rfl) fun _ _ => ?_))
  have s := (by assumption : St h [] _ _)
  refine plainPut_sp 21 5 1 0 v hv (by decide) (by decide) fun b h2 f2 hb => ?_
  (repeat refine st_ext rfl ?_)
  exact q b _ (St.call s f2).fr hb
theorem put_A_sp (v : Int) (hv : Small v) {h : AHeap} {Q : QT} (q : PutK (putM [65] v) h Q) : C fn_isa_put [T [65], I v] h Q := by
  refine isa_put_ok _ _ _ _ ?_
  unfold isa_put
  refine isa_plains_ok _ _ _ ?_
  unfold isa_plains
  have s0 := St.start h
  (repeat (first | refine st_ext rfl ?_ | refine st_seq ?_ | refine st_loadA ‹_› (.head _) (nle rfl) ?_ | refine st_build rfl ?_ | refine st_new ‹_› fun _ _ _ => ?_ | refine st_store ‹_› .head rfl rfl rfl (nle rfl) fun _ _ => ?_))
  have s := (by assumption : St h [] _ _)
  refine plainPut_sp 16 5 1 0 v hv (by decide) (by decide) fun b h2 f2 hb => ?_
  (repeat refine st_ext rfl ?_)
  exact q b _ (St.call s f2).fr hb
theorem put_B_sp (v : Int) (hv : Small v) {h : AHeap} {Q : QT} (q : PutK (putM [66] v) h Q) : C fn_isa_put [T [66], I v] h Q := by
  refine isa_put_ok _ _ _ _ ?_
  unfold isa_put
  refine isa_plains_ok _ _ _ ?_
  unfold isa_plains
  have s0 := St.start h
  (repeat (first | refine st_ext rfl ?_ | refine st_seq ?_ | refine st_loadA ‹_› (.head _) (nle rfl) ?_ | refine st_build rfl ?_ | refine st_new ‹_› fun _ _ _ => ?_ | refine st_store ‹_› .head rfl rfl rfl (nle rfl) fun _ _ => ?_))
  have s := (by assumption : St h [] _ _)
  refine plainPut_sp 11 5 1 0 v hv (by decide) (by decide) fun b h2 f2 hb => ?_
  (repeat refine st_ext rfl ?_)
  exact q b _ (St.call s f2).fr hb
theorem put_O2_sp (v : Int) (hv : Small v) {h : AHeap} {Q : QT} (q : PutK (putM [79, 50] v) h Q) : C fn_isa_put [T [79, 50], I v] h Q := by
  refine isa_put_ok _ _ _ _ ?_
  unfold isa_put
  refine isa_plains_ok _ _ _ ?_
  unfold isa_plains
  have s0 := St.start h
  (repeat (first | refine st_ext rfl ?_ | refine st_seq ?_ | refine st_loadA ‹_› (.head _) (nle rfl) ?_ | refine st_build rfl ?_ | refine st_new ‹_› fun _ _ _ => ?_ | refine st_store ‹_› .head rfl rfl rfl (nle rfl) fun _ _ => ?_))
  have s := (by assumption : St h [] _ _)
  refine plainPut_sp 20 2 1 0 v hv (by decide) (by decide) fun b h2 f2 hb => ?_
  (repeat refine st_ext rfl ?_)
  exact q b _ (St.call s f2).fr hb
theorem put_I4_sp (v : Int) (hv : Small v) {h : AHeap} {Q : QT} (q : PutK (putM [73, 52] v) h Q) : C fn_isa_put [T [73, 52], I v] h Q := by
  refine isa_put_ok _ _ _ _ ?_
  unfold isa_put
  refine isa_plains_ok _ _ _ ?_
  unfold isa_plains
  have s0 := St.start h
  (repeat (first | refine st_ext rfl ?_ | refine st_seq ?_ | refine st_loadA ‹_› (.head _) (nle rfl) ?_ | refine st_build rfl ?_ | refine st_new ‹_› fun _ _ _ => ?_ | refine st_store ‹_› .head rfl rfl rfl (nle rfl) fun _ _ => ?_))
  have s := (by assumption : St h [] _ _)
  refine plainPut_sp 16 4 1 0 v hv (by decide) (by decide) fun b h2 f2 hb => ?_
  (repeat refine st_ext rfl ?_)
  exact q b _ (St.call s f2).fr hb
theorem put_X_sp (v : Int) (hv : Small v) {h : AHeap} {Q : QT} (q : PutK (putM [88] v) h Q) : C fn_isa_put [T [88], I v] h Q := by
  have q : PutK (regP 0 v) h Q := q
  unfold Small at hv
  refine isa_put_ok _ _ _ _ ?_
  unfold isa_put
  refine isa_plains_ok _ _ _ ?_
  unfold isa_plains
  have s0 := St.start h
  (repeat (first | refine st_ext rfl ?_ | refine st_lss ?_ | refine st_seq ?_ | refine st_loadA ‹_› (.head _) (nle rfl) ?_ | refine st_build rfl ?_ | refine st_new ‹_› fun _ _ _ => ?_ | refine st_store ‹_› .head rfl rfl rfl (nle rfl) fun _ _ => ?_))
  have s := (by assumption : St h [] _ _)
  refine st_if (fun hb => ?_) (fun hb => ?_) <;> simp only [za, zb, zc, zd, ze, zf, zg, zh, zi, u8i, zj, zk, zl] at hb
  · exact q.none s.fr _ (by unfold regP; rw [if_pos (by omega)])
  (repeat refine st_gtr ?_)
  cases h7 : decide (7 < v) with
  | true =>
    refine st_ifT (st_if (fun _ => ?_) (fun hb => by cases hb)) ⟨_, rfl⟩
    simp at h7
    (repeat refine st_lss ?_)
    refine st_if (fun h24 => ?_) (fun h24 => ?_) <;> simp only [za, zb, zc, zd, ze, zf, zg, zh, zi, u8i, zj, zk, zl] at h24
    · exact q.none s.fr _ (by unfold regP; rw [if_pos (by omega)])
    · (repeat refine st_gtr ?_)
      refine st_if (fun h31 => ?_) (fun h31 => ?_) <;> simp only [za, zb, zc, zd, ze, zf, zg, zh, zi, u8i, zj, zk, zl] at h31
      · exact q.none s.fr _ (by unfold regP; rw [if_pos (by omega)])
      · exact regTail _ 0 rfl hv q s.fr (by omega)
  | false =>
    refine st_ifT (st_if (fun hb => by cases hb) (fun _ => ?_)) ⟨_, rfl⟩
    simp at h7
    (repeat refine st_gtr ?_)
    refine st_if (fun h31 => ?_) (fun h31 => ?_) <;> simp only [za, zb, zc, zd, ze, zf, zg, zh, zi, u8i, zj, zk, zl] at h31
    · exact q.none s.fr _ (by unfold regP; rw [if_pos (by omega)])
    · exact regTail _ 0 rfl hv q s.fr (by omega)
theorem put_Y_sp (v : Int) (hv : Small v) {h : AHeap} {Q : QT} (q : PutK (putM [89] v) h Q) : C fn_isa_put [T [89], I v] h Q := by
  have q : PutK (regP 4 v) h Q := q
  unfold Small at hv
  refine isa_put_ok _ _ _ _ ?_
  unfold isa_put
  refine isa_plains_ok _ _ _ ?_
  unfold isa_plains
  have s0 := St.start h
  (repeat (first | refine st_ext rfl ?_ | refine st_lss ?_ | refine st_seq ?_ | refine st_loadA ‹_› (.head _) (nle rfl) ?_ | refine st_build rfl ?_ | refine st_new ‹_› fun _ _ _ => ?_ | refine st_store ‹_› .head rfl rfl rfl (nle rfl) fun _ _ => ?_))
  have s := (by assumption : St h [] _ _)
  refine st_if (fun hb => ?_) (fun hb => ?_) <;> simp only [za, zb, zc, zd, ze, zf, zg, zh, zi, u8i, zj, zk, zl] at hb
  · exact q.none s.fr _ (by unfold regP; rw [if_pos (by omega)])
  (repeat refine st_gtr ?_)
  cases h7 : decide (7 < v) with
  | true =>
    refine st_ifT (st_if (fun _ => ?_) (fun hb => by cases hb)) ⟨_, rfl⟩
    simp at h7
    (repeat refine st_lss ?_)
    refine st_if (fun h24 => ?_) (fun h24 => ?_) <;> simp only [za, zb, zc, zd, ze, zf, zg, zh, zi, u8i, zj, zk, zl] at h24
    · exact q.none s.fr _ (by unfold regP; rw [if_pos (by omega)])
    · (repeat refine st_gtr ?_)
      refine st_if (fun h31 => ?_) (fun h31 => ?_) <;> simp only [za, zb, zc, zd, ze, zf, zg, zh, zi, u8i, zj, zk, zl] at h31
      · exact q.none s.fr _ (by unfold regP; rw [if_pos (by omega)])
      · exact regTail _ 4 rfl hv q s.fr (by omega)
  | false =>
    refine st_ifT (st_if (fun hb => by cases hb) (fun _ => ?_)) ⟨_, rfl⟩
    simp at h7
    (repeat refine st_gtr ?_)
    refine st_if (fun h31 => ?_) (fun h31 => ?_) <;> simp only [za, zb, zc, zd, ze, zf, zg, zh, zi, u8i, zj, zk, zl] at h31
    · exact q.none s.fr _ (by unfold regP; rw [if_pos (by omega)])
    · exact regTail _ 4 rfl hv q s.fr (by omega)
theorem put_L20_sp (hL : LdexpOk) (v : Int) (hv : Small v) {h : AHeap} {Q : QT} (q : PutK (putM [76, 50, 48] v) h Q) : C fn_isa_put [T [76, 50, 48], I v] h Q := by
  have q : PutK (l20P v) h Q := q
  refine isa_put_ok _ _ _ _ ?_
  unfold isa_put
  refine isa_plains_ok _ _ _ ?_
  unfold isa_plains
  have s0 := St.start h
  (repeat (first | refine st_ext rfl ?_ | refine st_seq ?_ | refine st_loadA ‹_› (.head _) (nle rfl) ?_ | refine st_build rfl ?_ | refine st_new ‹_› fun _ _ _ => ?_ | refine st_store ‹_› .head rfl rfl rfl (nle rfl) fun _ _ => ?_))
  have s := (by assumption : St h [] _ _)
  refine immSplit_sp v ?_
  (repeat refine st_ext rfl ?_)
  refine st_shl (by decide) ?_
  refine st_shl (by decide) ?_
  refine st_orw ?_
  refine st_orw ?_
  refine st_conv ?_
  refine fits_sp hL v hv 19 (by decide) ?_
  exact q.is s.fr rfl
theorem put_S16_sp (hL : LdexpOk) (v : Int) (hv : Small v) {h : AHeap} {Q : QT} (q : PutK (putM [83, 49, 54] v) h Q) : C fn_isa_put [T [83, 49, 54], I v] h Q := by
  have q : PutK (s16P v) h Q := q
  refine isa_put_ok _ _ _ _ ?_
  unfold isa_put
  refine isa_plains_ok _ _ _ ?_
  unfold isa_plains
  have s0 := St.start h
  (repeat (first | refine st_ext rfl ?_ | refine st_seq ?_ | refine st_loadA ‹_› (.head _) (nle rfl) ?_ | refine st_build rfl ?_ | refine st_new ‹_› fun _ _ _ => ?_ | refine st_store ‹_› .head rfl rfl rfl (nle rfl) fun _ _ => ?_))
  have s := (by assumption : St h [] _ _)
  refine st_andw ?_
  refine st_conv ?_
  refine fits_sp hL v hv 15 (by decide) ?_
  exact q.is s.fr rfl
theorem put_C8_sp (v : Int) (hv : Small v) {h : AHeap} {Q : QT} (q : PutK (putM [67, 56] v) h Q) : C fn_isa_put [T [67, 56], I v] h Q := by
  have q : PutK (c8P v) h Q := q
  refine isa_put_ok _ _ _ _ ?_
  unfold isa_put
  refine isa_plains_ok _ _ _ ?_
  unfold isa_plains
  have s0 := St.start h
  (repeat (first | refine st_ext rfl ?_ | refine st_seq ?_ | refine st_loadA ‹_› (.head _) (nle rfl) ?_ | refine st_build rfl ?_ | refine st_new ‹_› fun _ _ _ => ?_ | refine st_store ‹_› .head rfl rfl rfl (nle rfl) fun _ _ => ?_))
  have s := (by assumption : St h [] _ _)
  refine sci8_sp v fun h2 f2 => ?_
  have s2 := s.call f2
  unfold c8P at q
  cases hs : sci8 v with
  | none =>
    rw [hs] at q
    refine st_ext rfl ?_
    refine st_ext rfl ?_
    refine st_ext rfl ?_
    refine st_ext rfl ?_
    refine st_shl (by decide) ?_
    refine st_shl (by decide) ?_
    refine st_orw ?_
    refine st_orw ?_
    refine st_conv ?_
    exact q.none s2.fr _ rfl
  | some x =>
    obtain ⟨f, sc, ui⟩ := x
    rw [hs] at q
    refine st_ext rfl ?_
    refine st_ext rfl ?_
    refine st_ext rfl ?_
    refine st_ext rfl ?_
    refine st_shl (by decide) ?_
    refine st_shl (by decide) ?_
    refine st_orw ?_
    refine st_orw ?_
    refine st_conv ?_
    exact q.some s2.fr rfl
theorem put_T8_sp (hL : LdexpOk) (v : Int) (hv : Small v) {h : AHeap} {Q : QT} (q : PutK (putM [84, 56] v) h Q) : C fn_isa_put [T [84, 56], I v] h Q := by
  have q : PutK (t8P v) h Q := q
  have hv' := hv
  unfold Small at hv'
  refine isa_put_ok _ _ _ _ ?_
  unfold isa_put
  refine isa_plains_ok _ _ _ ?_
  unfold isa_plains
  have s0 := St.start h
  (repeat (first | refine st_ext rfl ?_ | refine st_seq ?_ | refine st_loadA ‹_› (.head _) (nle rfl) ?_ | refine st_build rfl ?_ | refine st_new ‹_› fun _ _ _ => ?_ | refine st_store ‹_› .head rfl rfl rfl (nle rfl) fun _ _ => ?_))
  have s := (by assumption : St h [] _ _)
  refine st_rem (by decide) ?_
  refine st_neq ?_
  refine st_if (fun hb => ?_) (fun hb => ?_) <;> simp only [za, zb, zc, zd, ze, zf, zg, zh, zi, u8i, zj, zk, zl] at hb
  · exact q.none s.fr _ (by unfold t8P; rw [if_neg hb])
  refine isa_wide_ok _ _ _ ?_
  unfold isa_wide
  (repeat refine st_seq ?_)
  refine fits_sp hL v hv 8 (by decide) ?_
  refine st_not ?_
  have hb : v.tmod 2 = 0 := by simpa using hb
  cases hf : fits v 8 with
  | false =>
    refine st_if (fun _ => ?_) (fun hb => by cases hb)
    exact q.none s.fr _ (by unfold t8P; rw [if_pos hb, if_neg (by simp [hf])])
  | true =>
    refine st_if (fun hb => by cases hb) (fun _ => ?_)
    have q := q.some s.fr (by unfold t8P; rw [if_pos hb, if_pos (by simp [hf])])
    (repeat refine st_seq ?_)
    refine st_quo (by decide) (by
      have := Int.natAbs_tdiv_le_natAbs v 2
      omega) ?_
    refine st_andw ?_
    refine st_conv ?_
    exact q
theorem put_T15_sp (hL : LdexpOk) (v : Int) (hv : Small v) {h : AHeap} {Q : QT} (q : PutK (putM [84, 49, 53] v) h Q) : C fn_isa_put [T [84, 49, 53], I v] h Q := by
  have q : PutK (tP 15 v) h Q := q
  have hv' := hv
  unfold Small at hv'
  refine isa_put_ok _ _ _ _ ?_
  unfold isa_put
  refine isa_plains_ok _ _ _ ?_
  unfold isa_plains
  have s0 := St.start h
  (repeat (first | refine st_ext rfl ?_ | refine st_seq ?_ | refine st_loadA ‹_› (.head _) (nle rfl) ?_ | refine st_build rfl ?_ | refine st_new ‹_› fun _ _ _ => ?_ | refine st_store ‹_› .head rfl rfl rfl (nle rfl) fun _ _ => ?_))
  have s := (by assumption : St h [] _ _)
  refine st_rem (by decide) ?_
  refine st_neq ?_
  refine st_if (fun hb => ?_) (fun hb => ?_) <;> simp only [za, zb, zc, zd, ze, zf, zg, zh, zi, u8i, zj, zk, zl] at hb
  · exact q.none s.fr _ (by unfold tP; rw [if_neg hb])
  refine isa_wide_ok _ _ _ ?_
  unfold isa_wide
  (repeat refine st_seq ?_)
  refine fits_sp hL v hv 15 (by decide) ?_
  refine st_not ?_
  have hb : v.tmod 2 = 0 := by simpa using hb
  cases hf : fits v 15 with
  | false =>
    refine st_if (fun _ => ?_) (fun hb => by cases hb)
    exact q.none s.fr _ (by unfold tP; rw [if_pos hb, if_neg (by simp [hf])])
  | true =>
    refine st_if (fun hb => by cases hb) (fun _ => ?_)
    have q := q.some s.fr (by unfold tP; rw [if_pos hb, if_pos (by simp [hf])])
    (repeat refine st_seq ?_)
    refine isa_wide_ok _ _ _ ?_
    unfold isa_wide
    (repeat refine st_seq ?_)
    refine st_shl (by decide) ?_
    refine st_bin (r := .int .i64 (2 ^ 16 - 1 : Nat)) (by rfl) ?_
    refine st_andw ?_
    refine st_conv ?_
    exact q
theorem put_T24_sp (hL : LdexpOk) (v : Int) (hv : Small v) {h : AHeap} {Q : QT} (q : PutK (putM [84, 50, 52] v) h Q) : C fn_isa_put [T [84, 50, 52], I v] h Q := by
  have q : PutK (tP 24 v) h Q := q
  have hv' := hv
  unfold Small at hv'
  refine isa_put_ok _ _ _ _ ?_
  unfold isa_put
  refine isa_plains_ok _ _ _ ?_
  unfold isa_plains
  have s0 := St.start h
  (repeat (first | refine st_ext rfl ?_ | refine st_seq ?_ | refine st_loadA ‹_› (.head _) (nle rfl) ?_ | refine st_build rfl ?_ | refine st_new ‹_› fun _ _ _ => ?_ | refine st_store ‹_› .head rfl rfl rfl (nle rfl) fun _ _ => ?_))
  have s := (by assumption : St h [] _ _)
  refine st_rem (by decide) ?_
  refine st_neq ?_
  refine st_if (fun hb => ?_) (fun hb => ?_) <;> simp only [za, zb, zc, zd, ze, zf, zg, zh, zi, u8i, zj, zk, zl] at hb
  · exact q.none s.fr _ (by unfold tP; rw [if_neg hb])
  refine isa_wide_ok _ _ _ ?_
  unfold isa_wide
  (repeat refine st_seq ?_)
  refine fits_sp hL v hv 24 (by decide) ?_
  refine st_not ?_
  have hb : v.tmod 2 = 0 := by simpa using hb
  cases hf : fits v 24 with
  | false =>
    refine st_if (fun _ => ?_) (fun hb => by cases hb)
    exact q.none s.fr _ (by unfold tP; rw [if_pos hb, if_neg (by simp [hf])])
  | true =>
    refine st_if (fun hb => by cases hb) (fun _ => ?_)
    have q := q.some s.fr (by unfold tP; rw [if_pos hb, if_pos (by simp [hf])])
    (repeat refine st_seq ?_)
    refine isa_wide_ok _ _ _ ?_
    unfold isa_wide
    (repeat refine st_seq ?_)
    refine st_shl (by decide) ?_
    refine st_bin (r := .int .i64 (2 ^ 25 - 1 : Nat)) (by rfl) ?_
    refine st_andw ?_
    refine st_conv ?_
    exact q
def allK : List Str := [[85, 53], [85, 55], [79, 53], [77, 49], [77, 50], [77, 52], [79, 49], [73, 50], [68], [65], [66], [79, 50], [73, 52], [88], [89], [76, 50, 48], [67, 56], [83, 49, 54], [84, 56], [84, 49, 53], [84, 50, 52]]
omit [Tabs] in
theorem tbl_allK : ∀ r ∈ tbl, ∀ k ∈ flds r.kinds, k ∈ allK := by decide
theorem put_sp (hL : LdexpOk) {k : Str} (hk : k ∈ allK) (v : Int) (hv : Small v) {h : AHeap} {Q : QT} (q : PutK (putM k v) h Q) : C fn_isa_put [T k, I v] h Q := by
  simp only [allK, List.mem_cons, List.not_mem_nil, or_false] at hk
  rcases hk with rfl | rfl | rfl | rfl | rfl | rfl | rfl | rfl | rfl | rfl | rfl | rfl | rfl | rfl | rfl | rfl | rfl | rfl | rfl | rfl | rfl
  · exact put_U5_sp v hv q
  · exact put_U7_sp v hv q
  · exact put_O5_sp v hv q
  · exact put_M1_sp v hv q
  · exact put_M2_sp v hv q
  · exact put_M4_sp v hv q
  · exact put_O1_sp v hv q
  · exact put_I2_sp v hv q
  · exact put_D_sp v hv q
  · exact put_A_sp v hv q
  · exact put_B_sp v hv q
  · exact put_O2_sp v hv q
  · exact put_I4_sp v hv q
  · exact put_X_sp v hv q
  · exact put_Y_sp v hv q
  · exact put_L20_sp hL v hv q
  · exact put_C8_sp v hv q
  · exact put_S16_sp hL v hv q
  · exact put_T8_sp hL v hv q
  · exact put_T15_sp hL v hv q
  · exact put_T24_sp hL v hv q
end
end Go.Proofs.YtiddcelpooenfaaGreatDoor.AL
