import Derived.Test.YtiddcelpooenfaaGreatDoorAI3
import Derived.Laws.RangeString
import Derived.Laws.RangeAny
set_option linter.all false
set_option autoImplicit true
set_option relaxedAutoImplicit true
set_option maxRecDepth 100000
namespace Go.Proofs.YtiddcelpooenfaaGreatDoor.AL
section
noncomputable section
variable [Tabs]
def codeGo : List Str → List Int → Int → Option Int
  | k :: ks, v :: vs, b => match putM k v with
    | some n => codeGo ks vs (orI .u32 b n)
    | none => none
  | _, _, b => some b
def codeM (op : Nat) (vs : List Int) : Option Int :=
  if (flds (opKinds op)).length = vs.length then codeGo (flds (opKinds op)) vs (opBits op) else none
theorem codeGo_step {ks : List Str} {vs : List Int} {i : Nat} (h1 : i < ks.length) (h2 : i < vs.length) (b : Int) : codeGo (ks.drop i) (vs.drop i) b = match putM ks[i] vs[i] with | some n => codeGo (ks.drop (i + 1)) (vs.drop (i + 1)) (orI .u32 b n) | none => none := by
  rw [List.drop_eq_getElem_cons h1, List.drop_eq_getElem_cons h2, codeGo]
omit [Tabs] in
theorem tbl_three : ∀ r ∈ tbl, (flds r.kinds).length ≤ 3 := by decide
theorem code_sp (hF : FieldsOk) (hL : LdexpOk) {op : Nat} (ho : op < tbl.length) (vs : List Int) (hv : ∀ v ∈ vs, Small v) {fv : AV} {h : AHeap} (r : Row (fun v : Int => [I v]) 1 h fv vs) {Q : QT} (q : PutK (codeM op vs) h Q) : C fn_isa_code [.agg [I (op : Nat), fv]] h Q := by
  refine isa_code_ok _ _ _ ?_
  unfold isa_code
  have hfv : fv.isTup = false ∧ fv.cells = [fv] := by
    have := r.1; unfold isRow at this; split at this <;> first | exact ⟨rfl, rfl⟩ | cases this
  refine st_box (St.start h) rfl fun i h1 s1 => ?_
  have e1 : (AV.agg [I (op : Nat), fv]).cells = [I (op : Nat), fv] := rfl
  rw [e1] at s1
  (repeat (first | refine st_fa ?_ | refine st_load1 ‹_› (.head _) rfl ?_))
  refine name_sp ho fun h2 f2 => ?_
  have s2 := s1.call f2
  (repeat refine st_seq ?_)
  have hn : opName op ≠ [] := by rw [opName_eq ho]; exact name_ne _ (by simp)
  refine st_if (fun hb => absurd (by simpa using hb) hn) (fun _ => ?_)
  (repeat (first | refine st_fa ?_ | refine st_load1 ‹_› (.head _) rfl ?_))
  refine ofU_sp ho _ ?_
  show ACall Pg fn_isa_code_1 _ _ _
  refine bits_sp _ fun h3 f3 => ?_
  have s3 := s2.call f3
  refine ⟨st_load1 s3 (.head _) rfl rfl, ?_⟩
  refine ofL_sp ho _ ?_
  show ACall Pg fn_isa_row_list _ _ _
  refine list_sp hF (by simp) fun h4 f4 => ?_
  have s4 := s3.call f4
  rw [← opKinds_eq ho, ← opBits_eq ho]
  have hk : ∀ k ∈ flds (opKinds op), k ∈ allK := fun k hk => tbl_allK tbl[op] (by simp) k (by rw [← opKinds_eq ho]; exact hk)
  (repeat (first | refine st_fa ?_ | refine st_lenL1 ?_ | refine st_load1 ‹_› (.head _) rfl ?_))
  refine (r.fr s4.fr).len ?_
  refine st_neq ?_
  refine st_if (fun hl => ?_) (fun hl => ?_) <;> simp only [za, zb, zc, zd, ze, zf, zg, zh, zi, u8i, zj, zk, zl] at hl
  · exact q.none s4.fr 0 (by unfold codeM; rw [if_neg (by omega)])
  have hl : (flds (opKinds op)).length = vs.length := by omega
  unfold codeM at q
  rw [if_pos hl] at q
  have h3 : (flds (opKinds op)).length ≤ 3 := by rw [opKinds_eq ho]; exact tbl_three _ (by simp)
  (repeat refine st_lenL1 ?_)
  have RK : ∀ h, Row (fun x => [T x]) 1 h (.snap (flds (opKinds op)).length ((flds (opKinds op)).flatMap fun x => [T x])) (flds (opKinds op)) := fun h => Row.snap (enc := fun x => [T x]) (fun _ => rfl) _
  refine st_loop (fun n vs' h' => St h [] h' [(i, true, .cells [I (op : Nat), fv])] ∧ ∃ (j : Nat) (x y : AV) (b : Int), vs' = [x, y, U32 b, I (j : Nat)] ∧ n + j = vs.length ∧ codeGo (flds (opKinds op)) vs (opBits op) = codeGo ((flds (opKinds op)).drop j) (vs.drop j) b) vs.length ⟨s4, 0, _, _, _, rfl, by omega, rfl⟩ ?_
  rintro n vs' h5 ⟨s5, j, x, y, b, rfl, hn, hc⟩
  unfold isa_code_l6
  (repeat refine st_lss ?_)
  refine st_if (fun hb => ?_) (fun hb => ?_) <;> simp only [za, zb, zc, zd, ze, zf, zg, zh, zi, u8i, zj, zk, zl] at hb
  · have hj : j < (flds (opKinds op)).length := hb
    refine (RK h5).idx (fun _ => rfl) hj fun p t => ?_
    refine st_pload1 t ?_
    (repeat (first | refine st_fa ?_ | refine st_load1 ‹_› (.head _) rfl ?_))
    refine (r.fr s5.fr).idx (fun _ => rfl) (show j < vs.length by omega) fun p2 t2 => ?_
    refine st_pload1 t2 ?_
    rw [codeGo_step hj (by omega)] at hc
    refine put_sp hL (hk _ (by simp)) _ (hv _ (by simp)) fun b2 h6 f6 hb2 => ?_
    have s6 := s5.call f6
    (repeat (first | refine st_ext rfl ?_ | refine st_not ?_))
    cases hp : putM (flds (opKinds op))[j] vs[j] with
    | none =>
      refine st_if (fun _ => ?_) (fun h => by cases h)
      rw [hp] at hc
      exact q.none s6.fr 0 hc
    | some m =>
      refine st_if (fun h => by cases h) (fun _ => ?_)
      rw [hp] at hc
      have := hb2 m hp
      subst this
      refine st_orw ?_
      refine st_add (by omega) ?_
      exact ⟨n - 1, by omega, s6, j + 1, _, _, _, rfl, by omega, hc⟩
  · have hj : vs.length ≤ j := by omega
    rw [List.drop_of_length_le (by omega), List.drop_of_length_le (by omega)] at hc
    exact q.some s5.fr (by rw [hc]; simp [codeGo])
theorem right_sp (hF : FieldsOk) (hL : LdexpOk) {op : Nat} (ho : op < tbl.length) (vs : List Int) (hv : ∀ v ∈ vs, Small v) {fv : AV} {h : AHeap} (r : Row (fun v : Int => [I v]) 1 h fv vs) {Q : QT} (k : ∀ h', Fr [] h h' → Q (B (codeM op vs).isSome) h') : C fn_isa_Right [.agg [I (op : Nat), fv]] h Q := by
  refine isa_Right_ok _ _ _ ?_
  unfold isa_Right
  refine st_box (St.start h) rfl fun i h1 s1 => ?_
  (repeat refine st_loadA ‹_› (.head _) (nle rfl) ?_)
  refine code_sp hF hL ho vs hv (r.fr s1.fr) fun b h2 f2 _ => ?_
  (repeat refine st_ext rfl ?_)
  exact k _ (s1.call f2).fr
def bytes4 (b : Int) : List Int := [IntKind.u8.wrap (shrI .u32 b 24), IntKind.u8.wrap (shrI .u32 b 16), IntKind.u8.wrap (shrI .u32 b 8), IntKind.u8.wrap b]
def encM (op : Nat) (vs : List Int) : Option (List Int) := (codeM op vs).map fun b => (bytes4 b).drop (4 - opSize op)
abbrev BI (n : Int) : AV := .lit (.int .u8 n)
theorem encode_sp (hF : FieldsOk) (hL : LdexpOk) {op : Nat} (ho : op < tbl.length) (vs : List Int) (hv : ∀ v ∈ vs, Small v) {bs : List Int} (he : encM op vs = some bs) {fv : AV} {h : AHeap} (r : Row (fun v : Int => [I v]) 1 h fv vs) {Q : QT} (k : ∀ h', Fr [] h h' → Q (.tup [.snap bs.length (bs.flatMap fun x => [BI x]), B true]) h') : C fn_isa_Encode [.agg [I (op : Nat), fv]] h Q := by
  refine isa_Encode_ok _ _ _ ?_
  unfold isa_Encode
  refine st_box (St.start h) rfl fun i h1 s1 => ?_
  (repeat refine st_loadA ‹_› (.head _) (nle rfl) ?_)
  unfold encM at he
  cases hc : codeM op vs with
  | none => rw [hc] at he; cases he
  | some b0 =>
  rw [hc] at he
  refine code_sp hF hL ho vs hv (r.fr s1.fr) fun b h2 f2 hb => ?_
  have := hb b0 hc
  subst this
  have s2 := s1.call f2
  rw [hc]
  (repeat (first | refine st_ext rfl ?_ | refine st_not ?_))
  refine st_if (fun h => by cases h) (fun _ => ?_)
  refine st_shr (by decide) ?_
  refine st_conv ?_
  refine st_shr (by decide) ?_
  refine st_conv ?_
  refine st_shr (by decide) ?_
  refine st_conv ?_
  refine st_conv ?_
  (repeat (first | refine st_fa ?_ | refine st_load1 ‹_› (.head _) rfl ?_ | refine st_buildS rfl rfl ?_))
  refine size_sp ho fun h3 f3 => ?_
  have s3 := s2.call f3
  have hsz : opSize op = 2 ∨ opSize op = 4 := by unfold opSize; split <;> simp
  simp only [Option.map_some, Option.some.injEq] at he
  rcases hsz with e | e <;> rw [e] at he ⊢ <;> subst he
  · refine st_sub (by decide) ?_
    refine (⟨(⟨⟨by decide, by decide, by decide⟩, ?_⟩ : pSliceL 1 (.full 4 _) (some (I 2)) none _)⟩ : qSliceL 1 (.full 4 _) (some (I 2)) none _)
    refine clone_byte_sp (n := 2) (cs := [BI _, BI _]) (by decide) (Rd.snap rfl) fun h4 f4 => ?_
    exact k _ (s3.call f4).fr
  · refine st_sub (by decide) ?_
    refine (⟨(⟨⟨by decide, by decide, by decide⟩, ?_⟩ : pSliceL 1 (.full 4 _) (some (I 0)) none _)⟩ : qSliceL 1 (.full 4 _) (some (I 0)) none _)
    refine clone_byte_sp (n := 4) (cs := [BI _, BI _, BI _, BI _]) (by decide) (Rd.snap rfl) fun h4 f4 => ?_
    exact k _ (s3.call f4).fr
end
end
section
noncomputable section
variable [Tabs]
abbrev R32 (n : Nat) : AV := .lit (.int .i32 (n : Nat))
def Tests (fv : AV) (p : Nat → Bool) : Prop := ∀ (c : Nat) (h : AHeap) (Q : QT), Q (B (p c)) h → CV fv [R32 c] h Q
theorem st_next {h0 h : AHeap} {M : List Nat} {L : Own} {l : Str} {i k : Nat} (s : St h0 M h ((i, true, .siter ⟨⟨l⟩⟩ k) :: L)) {K : QT} (k0 : l.length ≤ k → K (.tup [B false]) h)
    (k1 : ∀ (hk : k < l.length) (r w : Nat) (h' : AHeap), St h0 M h' ((i, true, .siter ⟨⟨l⟩⟩ (k + w)) :: L) → 1 ≤ w → (l[k].toNat < 128 → r = l[k].toNat ∧ w = 1) → (128 ≤ l[k].toNat → 128 ≤ r) → K (.tup [B true, I (k : Nat), R32 r]) h') : qNextS (.ptr i 0) h K := ⟨by
  simp only [eNextS, s.get (.head _)]
  have hsz : (⟨⟨l⟩⟩ : ByteArray).size = l.length := rfl
  split
  · rename_i hk
    have hk' : k < l.length := hk
    have hget : ((⟨⟨l⟩⟩ : ByteArray)[k]'hk) = l[k] := rfl
    rcases Nat.lt_or_ge l[k].toNat 128 with ha | ha
    · have := decode_ascii ⟨⟨l⟩⟩ k hk (by rw [hget]; exact ha)
      rw [this, hget]
      exact k1 hk' _ 1 _ (s.turn .head) (Nat.le_refl _) (fun _ => ⟨rfl, rfl⟩) (fun h => by omega)
    · obtain ⟨g1, g2⟩ := decode_high ⟨⟨l⟩⟩ k hk (by rw [hget]; exact ha)
      exact k1 hk' _ _ _ (s.turn .head) g2 (fun h => by omega) (fun _ => g1)
  · exact k0 (by omega)⟩
theorem takeWhile_self {p : UInt8 → Bool} : ∀ {l : Str}, l.takeWhile p = l ↔ ∀ x ∈ l, p x = true
  | [] => by simp
  | a :: l => by
    cases h : p a with
    | true => rw [List.takeWhile_cons_of_pos h]; simp [h, takeWhile_self (l := l)]
    | false => rw [List.takeWhile_cons_of_neg (by simp [h])]; simp [h]
theorem takeWhile_all {p : UInt8 → Bool} {l : Str} (h : ∀ j (hj : j < l.length), p l[j] = true) : l.takeWhile p = l := by
  rw [takeWhile_self]
  intro x hx
  obtain ⟨j, hj, rfl⟩ := List.getElem_of_mem hx
  exact h j hj
theorem takeWhile_cut {p : UInt8 → Bool} {l : Str} {k : Nat} (hk : k < l.length) (h : ∀ j (hj : j < k), p (l[j]'(by omega)) = true) (hn : p l[k] = false) : l.takeWhile p = l.take k := by
  conv => lhs; rw [← List.take_append_drop k l]
  rw [List.takeWhile_append_of_pos, List.drop_eq_getElem_cons hk, List.takeWhile_cons_of_neg (by simp [hn]), List.append_nil]
  intro x hx
  obtain ⟨j, hj, rfl⟩ := List.getElem_of_mem hx
  rw [List.length_take] at hj
  rw [List.getElem_take]
  exact h j (by omega)
theorem as_sp {fv : AV} {p : Nat → Bool} (ht : Tests fv p) (hp : ∀ c, 128 ≤ c → p c = false) (l : Str) {h : AHeap} {Q : QT} (k : ∀ h', Fr [] h h' → Q (T (l.takeWhile fun c => p c.toNat)) h') : C fn_expr_as [T l, fv] h Q := by
  refine expr_as_ok _ _ _ _ ?_
  unfold expr_as
  refine st_rangeS (St.start h) fun i h1 s1 => ?_
  refine st_loop (fun n vs h' => ∃ k : Nat, (∃ x, vs = [x]) ∧ n + k = l.length ∧ St h [] h' [(i, true, .siter ⟨⟨l⟩⟩ k)] ∧ ∀ j (hj : j < l.length), j < k → p l[j].toNat = true) l.length ⟨0, ⟨_, rfl⟩, by omega, s1, fun j _ hj => by omega⟩ ?_
  rintro n vs h' ⟨m, ⟨x, rfl⟩, hn, s2, ha⟩
  unfold expr_as_l4
  refine st_next s2 (fun hk => ?_) fun hk r w h3 s3 hw h7 h8 => ?_
  · (repeat refine st_ext rfl ?_)
    have := k h' s2.fr
    rw [takeWhile_all fun j hj => ha j hj (by omega)] at this
    exact this
  · (repeat refine st_ext rfl ?_)
    refine ht r _ _ ?_
    (repeat refine st_not ?_)
    rcases Nat.lt_or_ge l[m].toNat 128 with h9 | h9
    · obtain ⟨rfl, rfl⟩ := h7 h9
      cases hpm : p l[m].toNat with
      | true =>
        refine st_if (fun h => by cases h) (fun _ => ?_)
        refine ⟨n - 1, by omega, m + 1, ⟨_, rfl⟩, by omega, s3, fun j hj hj2 => ?_⟩
        rcases Nat.lt_or_eq_of_le (Nat.le_of_lt_succ hj2) with h1 | h1
        · exact ha j hj h1
        · subst h1; exact hpm
      | false =>
        refine st_if (fun _ => ?_) (fun h => by cases h)
        refine st_cutl (by omega) (by omega) ?_
        have := k h3 s3.fr
        rw [takeWhile_cut hk (fun j hj => ha j (by omega) hj) hpm] at this
        simpa using this
    · rw [hp r (h8 h9)]
      refine st_if (fun _ => ?_) (fun h => by cases h)
      refine st_cutl (by omega) (by omega) ?_
      have := k h3 s3.fr
      rw [takeWhile_cut hk (fun j hj => ha j (by omega) hj) (hp _ h9)] at this
      simpa using this
def pSmall (c : Nat) : Bool := (decide (97 ≤ c) && decide (c ≤ 122)) || decide (c = 95)
def pDigit (c : Nat) : Bool := decide (48 ≤ c) && decide (c ≤ 57)
def pInner (c : Nat) : Bool := pSmall c || pDigit c
def pHex (c : Nat) : Bool := pDigit c || (decide (97 ≤ c) && decide (c ≤ 102))
theorem dcast {a b : Nat} : decide ((a : Int) ≤ (b : Int)) = decide (a ≤ b) := by rw [Bool.eq_iff_iff, decide_eq_true_eq, decide_eq_true_eq]; omega
theorem deqc {a b : Nat} : decide ((a : Int) = (b : Int)) = decide (a = b) := by rw [Bool.eq_iff_iff, decide_eq_true_eq, decide_eq_true_eq]; omega
theorem small_sp (c : Nat) {h : AHeap} {Q : QT} (k : Q (B (pSmall c)) h) : C fn_expr_small [R32 c] h Q := by
  refine expr_small_ok _ _ _ ?_
  unfold expr_small
  have e1 : decide ((97 : Int) ≤ c) = decide (97 ≤ c) := dcast (a := 97)
  have e2 : decide ((c : Int) ≤ 122) = decide (c ≤ 122) := dcast (b := 122)
  have e3 : decide ((c : Int) = 95) = decide (c = 95) := deqc (b := 95)
  unfold pSmall at k
  refine st_geq ?_
  rw [e1]
  cases h1 : decide (97 ≤ c) with
  | true =>
    refine st_if (fun _ => ?_) (fun h => by cases h)
    rw [h1, Bool.true_and] at k
    refine st_leq ?_
    rw [e2]
    cases h2 : decide (c ≤ 122) with
    | true =>
      refine st_if (fun _ => ?_) (fun h => by cases h)
      rw [h2, Bool.true_or] at k; exact k
    | false =>
      refine st_if (fun h => by cases h) (fun _ => ?_)
      refine st_eql ?_
      rw [e3]; rw [h2, Bool.false_or] at k; exact k
  | false =>
    refine st_if (fun h => by cases h) (fun _ => ?_)
    refine st_eql ?_
    rw [e3]; rw [h1, Bool.false_and, Bool.false_or] at k; exact k
theorem digit_sp (c : Nat) {h : AHeap} {Q : QT} (k : Q (B (pDigit c)) h) : C fn_expr_digit [R32 c] h Q := by
  refine expr_digit_ok _ _ _ ?_
  unfold expr_digit
  have e1 : decide ((48 : Int) ≤ c) = decide (48 ≤ c) := dcast (a := 48)
  have e2 : decide ((c : Int) ≤ 57) = decide (c ≤ 57) := dcast (b := 57)
  unfold pDigit at k
  refine st_geq ?_
  rw [e1]
  cases h1 : decide (48 ≤ c) with
  | true =>
    refine st_if (fun _ => ?_) (fun h => by cases h)
    refine st_leq ?_
    rw [h1, Bool.true_and] at k
    rw [e2]; exact k
  | false =>
    refine st_if (fun h => by cases h) (fun _ => ?_)
    rw [h1, Bool.false_and] at k; exact k
theorem inner_sp (c : Nat) {h : AHeap} {Q : QT} (k : Q (B (pInner c)) h) : C fn_expr_inner [R32 c] h Q := by
  refine expr_inner_ok _ _ _ ?_
  unfold expr_inner
  refine small_sp c ?_
  unfold pInner at k
  cases h1 : pSmall c with
  | true =>
    refine st_if (fun _ => ?_) (fun h => by cases h)
    rw [h1, Bool.true_or] at k; exact k
  | false =>
    refine st_if (fun h => by cases h) (fun _ => ?_)
    rw [h1, Bool.false_or] at k
    exact digit_sp c k
theorem hex_sp (c : Nat) {h : AHeap} {Q : QT} (k : Q (B (pHex c)) h) : C fn_expr_hex [R32 c] h Q := by
  refine expr_hex_ok _ _ _ ?_
  unfold expr_hex
  refine digit_sp c ?_
  unfold pHex at k
  have e1 : decide ((97 : Int) ≤ c) = decide (97 ≤ c) := dcast (a := 97)
  have e2 : decide ((c : Int) ≤ 102) = decide (c ≤ 102) := dcast (b := 102)
  cases h1 : pDigit c with
  | true =>
    refine st_if (fun _ => ?_) (fun h => by cases h)
    rw [h1, Bool.true_or] at k; exact k
  | false =>
    refine st_if (fun h => by cases h) (fun _ => ?_)
    rw [h1, Bool.false_or] at k
    refine st_geq ?_
    rw [e1]
    cases h2 : decide (97 ≤ c) with
    | true =>
      refine st_ifT (st_if (fun _ => ?_) (fun h => by cases h)) ⟨_, rfl⟩
      rw [h2, Bool.true_and] at k
      refine st_leq ?_
      rw [e2]; exact k
    | false =>
      refine st_ifT (st_if (fun h => by cases h) (fun _ => ?_)) ⟨_, rfl⟩
      rw [h2, Bool.false_and] at k; exact k
theorem asInner_sp (l : Str) {h : AHeap} {Q : QT} (k : ∀ h', Fr [] h h' → Q (T (l.takeWhile fun c => pInner c.toNat)) h') : C fn_expr_as [T l, .fn (.func fn_expr_inner) [] []] h Q :=
  as_sp (fv := .fn (.func fn_expr_inner) [] []) (p := pInner) (fun c h Q k => inner_sp c k) (fun c hc => by simp [pInner, pSmall, pDigit]; omega) l k
theorem asDigit_sp (l : Str) {h : AHeap} {Q : QT} (k : ∀ h', Fr [] h h' → Q (T (l.takeWhile fun c => pDigit c.toNat)) h') : C fn_expr_as [T l, .fn (.func fn_expr_digit) [] []] h Q :=
  as_sp (fv := .fn (.func fn_expr_digit) [] []) (p := pDigit) (fun c h Q k => digit_sp c k) (fun c hc => by simp [pDigit]; omega) l k
theorem asHex_sp (l : Str) {h : AHeap} {Q : QT} (k : ∀ h', Fr [] h h' → Q (T (l.takeWhile fun c => pHex c.toNat)) h') : C fn_expr_as [T l, .fn (.func fn_expr_hex) [] []] h Q :=
  as_sp (fv := .fn (.func fn_expr_hex) [] []) (p := pHex) (fun c h Q k => hex_sp c k) (fun c hc => by simp [pHex, pDigit]; omega) l k
def isWord (s : Str) : Bool := match s with
  | [] => false
  | c :: t => decide (s.length ≤ 12) && (!pDigit c.toNat && (s.all (fun c => pInner c.toNat) && (decide (c ≠ 114) || (t.isEmpty || !(t.all fun c => pDigit c.toNat)))))
theorem takeWhile_eq_all (p : UInt8 → Bool) (l : Str) : decide (l.takeWhile p = l) = l.all p := by
  rw [Bool.eq_iff_iff]; simp [takeWhile_self]
theorem word_sp (s : Str) {h : AHeap} {Q : QT} (k : ∀ h', Fr [] h h' → Q (B (isWord s)) h') : C fn_expr_word [T s] h Q := by
  refine expr_word_ok _ _ _ ?_
  unfold expr_word
  cases s with
  | nil => (repeat refine st_seq ?_); exact k _ (Fr.refl _ _)
  | cons c t =>
  dsimp only [isWord] at k
  (repeat (first | refine st_lenS ?_ | refine st_gtr ?_ | refine st_seq ?_))
  refine st_if (fun hl => ?_) (fun hl => ?_) <;> simp only [za, zb, zc, zd, ze, zf, zg, zh, zi, u8i, zj, zk, zl] at hl
  · have e : decide ((c :: t).length ≤ 12) = false := by simp at hl ⊢; omega
    rw [e, Bool.false_and] at k
    exact k _ (Fr.refl _ _)
  have e : decide ((c :: t).length ≤ 12) = true := by simp at hl ⊢; omega
  rw [e, Bool.true_and] at k
  refine st_index (by omega) (by simp) ?_
  refine st_conv ?_
  have e3 : IntKind.i32.wrap ((c :: t)[Int.toNat 0].toNat : Int) = (c.toNat : Nat) := by
    have := c.toNat_lt
    simp [IntKind.wrap, IntKind.bits, IntKind.signed]; omega
  rw [e3]
  refine digit_sp c.toNat ?_
  cases h2 : pDigit c.toNat with
  | true =>
    refine st_if (fun _ => ?_) (fun h => by cases h)
    rw [h2] at k
    exact k _ (Fr.refl _ _)
  | false =>
  refine st_if (fun h => by cases h) (fun _ => ?_)
  rw [h2] at k
  simp only [Bool.not_false, Bool.true_and] at k
  refine asInner_sp _ fun h1 f1 => ?_
  refine st_sne ?_
  rw [show decide ((c :: t).takeWhile (fun c => pInner c.toNat) ≠ c :: t) = !((c :: t).all fun c => pInner c.toNat) by rw [← takeWhile_eq_all]; simp]
  cases h3 : (c :: t).all fun c => pInner c.toNat with
  | false =>
    refine st_if (fun _ => ?_) (fun h => by cases h)
    rw [h3, Bool.false_and] at k
    exact k _ f1
  | true =>
  refine st_if (fun h => by cases h) (fun _ => ?_)
  rw [h3, Bool.true_and] at k
  refine st_index (by omega) (by simp) ?_
  refine st_neq ?_
  have e4 : decide ((((c :: t)[Int.toNat 0].toNat : Nat) : Int) ≠ 114) = decide (c ≠ 114) := by
    rw [Bool.eq_iff_iff]; simp [← UInt8.toNat_inj]; omega
  rw [e4]
  cases h4 : decide (c ≠ 114) with
  | true =>
    refine st_if (fun _ => ?_) (fun h => by cases h)
    rw [h4, Bool.true_or] at k
    exact k _ f1
  | false =>
  refine st_if (fun h => by cases h) (fun _ => ?_)
  rw [h4, Bool.false_or] at k
  (repeat (first | refine st_lenS ?_ | refine st_eql ?_))
  cases t with
  | nil => refine st_if (fun _ => ?_) (fun hb => (by exfalso; first | (simp at hb; done) | (simp at hb; omega) | (revert hb; decide) | omega)); exact k _ f1
  | cons d t =>
  refine st_if (fun h => by simp at h; omega) (fun _ => ?_)
  refine st_cutr (by omega) (by simp; omega) ?_
  refine st_cutr (by omega) (by simp; omega) ?_
  refine asDigit_sp _ fun h5 f5 => ?_
  refine st_sne ?_
  have := k h5 (f1.trans f5 (by simp))
  rw [show ((c :: d :: t).drop (Int.toNat 1)) = d :: t from rfl]
  rw [show decide ((d :: t).takeWhile (fun c => pDigit c.toNat) ≠ d :: t) = !((d :: t).all fun c => pDigit c.toNat) by rw [← takeWhile_eq_all]; simp]
  exact this
end
end
section
noncomputable section
variable [Tabs]
inductive Ex where
  | none
  | num (n : Nat)
  | name (s : Str)
  | here
  | neg (e : Ex)
  | bin (k : Nat) (a b : Ex)
  deriving DecidableEq
def encE : Ex → List AV
  | .none => [I 0, I 0, T [], .full 0 []]
  | .num n => [I 1, I (n : Nat), T [], .full 0 []]
  | .name s => [I 2, I 0, T s, .full 0 []]
  | .here => [I 3, I 0, T [], .full 0 []]
  | .neg e => [I 4, I 0, T [], .full 1 (encE e)]
  | .bin k a b => [I (k : Nat), I 0, T [], .full 2 (encE a ++ encE b)]
theorem encE_len (e : Ex) : (encE e).length = 4 := by cases e <;> rfl
theorem encE_one (e : Ex) : (encE e).all AV.one = true := by cases e <;> rfl
abbrev pO (l : Str) (d : Nat) (b : Bool) : AObj := .cells [T l, I (d : Nat), B b]
abbrev blk (l : Str) : Str := dropB 32 l
theorem dropB_idem (c : UInt8) : ∀ l : Str, dropB c (dropB c l) = dropB c l
  | [] => rfl
  | x :: l => by
    by_cases h : x = c
    · rw [dropB, if_pos h]; exact dropB_idem c l
    · rw [dropB, if_neg h, dropB, if_neg h]
theorem dropB_len (c : UInt8) : ∀ l : Str, (dropB c l).length ≤ l.length
  | [] => by simp [dropB]
  | x :: l => by
    have := dropB_len c l
    unfold dropB; split <;> simp <;> omega
section
variable {i d : Nat} {l : Str} {h : AHeap} {Q : QT}
theorem fail_sp {b : Bool} (e : h[i]? = some (pO l d b)) (k : ∀ h', Fr [i] h h' → h'[i]? = some (pO l d true) → Q (.agg (encE .none)) h') : C fn_expr_parser_fail [.ptr i 0] h Q := by
  refine expr_parser_fail_ok _ _ _ ?_
  unfold expr_parser_fail
  have s := St.start1 e
  refine st_new s fun j h1 s1 => ?_
  (repeat (first | refine st_nil ?_ | refine st_fa ?_))
  refine st_store s1 (.tail .head) rfl rfl rfl (nle rfl) fun h2 s2 => ?_
  (repeat refine st_build rfl ?_)
  refine st_store s2 .head rfl rfl rfl (nle rfl) fun h3 s3 => ?_
  (repeat refine st_loadA ‹_› (.head _) (nle rfl) ?_)
  exact k _ s3.fr (s3.get (.tail _ (.head _)))
theorem blanks_sp {b : Bool} (e : h[i]? = some (pO l d b)) (k : ∀ h', Fr [i] h h' → h'[i]? = some (pO (blk l) d b) → Q (.tup []) h') : C fn_expr_parser_blanks [.ptr i 0] h Q := by
  refine expr_parser_blanks_ok _ _ _ ?_
  unfold expr_parser_blanks
  have s := St.start1 e
  (repeat (first | refine st_nil ?_ | refine st_fa ?_ | refine st_load1 ‹_› (.head _) rfl ?_))
  refine trimLeft1_sp 32 (by decide) l ?_
  (repeat (first | refine st_nil ?_ | refine st_fa ?_))
  refine st_store s .head rfl rfl rfl (nle rfl) fun h2 s2 => ?_
  exact k _ s2.fr (s2.get (.head _))
theorem take_sp {m : Str} (e : h[i]? = some (pO l d false)) (k1 : m.isPrefixOf (blk l) = true → ∀ h', Fr [i] h h' → h'[i]? = some (pO ((blk l).drop m.length) d false) → Q (B true) h')
    (k0 : m.isPrefixOf (blk l) = false → ∀ h', Fr [i] h h' → h'[i]? = some (pO (blk l) d false) → Q (B false) h') : C fn_expr_parser_take [.ptr i 0, T m] h Q := by
  refine expr_parser_take_ok _ _ _ _ ?_
  unfold expr_parser_take
  refine blanks_sp e fun h1 f1 e1 => ?_
  have s := (St.start1 e).call1 f1 e1 .head
  (repeat (first | refine st_nil ?_ | refine st_fa ?_ | refine st_load1 ‹_› (.head _) rfl ?_))
  refine hasPrefix_sp ?_
  (repeat refine st_not ?_)
  cases hp : m.isPrefixOf (blk l) with
  | true =>
    refine st_if (fun h => by cases h) (fun _ => ?_)
    have hle := (List.isPrefixOf_iff_prefix.1 hp).length_le
    (repeat (first | refine st_nil ?_ | refine st_fa ?_ | refine st_lenS ?_ | refine st_load1 ‹_› (.head _) rfl ?_))
    refine st_cutr (by omega) (by omega) ?_
    (repeat (first | refine st_nil ?_ | refine st_fa ?_))
    refine st_store s .head rfl rfl rfl (nle rfl) fun h2 s2 => ?_
    exact k1 hp _ s2.fr (s2.get (.head _))
  | false =>
    refine st_if (fun _ => ?_) (fun h => by cases h)
    exact k0 hp _ s.fr (s.get (.head _))
theorem takeBad_sp {m : Str} (e : h[i]? = some (pO l d true)) (k0 : ∀ h', Fr [i] h h' → h'[i]? = some (pO (blk l) d true) → Q (B false) h') : C fn_expr_parser_take [.ptr i 0, T m] h Q := by
  refine expr_parser_take_ok _ _ _ _ ?_
  unfold expr_parser_take
  refine blanks_sp e fun h1 f1 e1 => ?_
  have s := (St.start1 e).call1 f1 e1 .head
  (repeat (first | refine st_nil ?_ | refine st_fa ?_ | refine st_load1 ‹_› (.head _) rfl ?_))
  exact k0 _ s.fr (s.get (.head _))
def signsL : List Str := [[], [], [], [46], [45], [43], [45], [42], [38], [124], [60, 60], [62, 62]]
abbrev sg (k : Nat) : Str := (signsL[k]?).getD []
def levelsL : List (List Nat) := [[9], [8], [10, 11], [5, 6], [7]]
def kindsE (ks : List Nat) : List AV := [.full ks.length (ks.flatMap fun k => [I (k : Nat)])]
theorem signs_sp (k : Q (.full signsL.length (signsL.flatMap fun x => [T x])) h) : C fn_expr_signs [] h Q := by
  refine expr_signs_ok _ _ ?_
  unfold expr_signs
  (repeat refine st_buildS rfl rfl ?_)
  exact k
theorem levels_sp (k : Q (.full levelsL.length (levelsL.flatMap kindsE)) h) : C fn_expr_levels [] h Q := by
  refine expr_levels_ok _ _ ?_
  unfold expr_levels
  (repeat refine st_buildS rfl rfl ?_)
  exact k
def kindM : List Nat → Str → Nat × Str
  | [], l => (0, l)
  | k :: ks, l => if (sg k).isPrefixOf (blk l) = true then (k, (blk l).drop (sg k).length) else kindM ks (blk l)
theorem kind_sp (ks : List Nat) (hk : ∀ k ∈ ks, k < 12) (hl : ks.length < 1000) {v : AV} (r : Row (fun k : Nat => [I (k : Nat)]) 1 h v ks) (e : h[i]? = some (pO l d false)) (hi : i < h.length)
    (hr : ∀ h', Fr [i] h h' → Row (fun k : Nat => [I (k : Nat)]) 1 h' v ks) (k : ∀ h', Fr [i] h h' → h'[i]? = some (pO (kindM ks l).2 d false) → Q (I ((kindM ks l).1 : Nat)) h') : C fn_expr_parser_kind [.ptr i 0, v] h Q := by
  refine expr_parser_kind_ok _ _ _ _ ?_
  unfold expr_parser_kind
  refine r.len ?_
  refine st_loop (fun n vs h' => ∃ (j : Nat) (b : AV) (l' : Str), vs = [b, I (j : Nat)] ∧ n + j = ks.length ∧ Fr [i] h h' ∧ h'[i]? = some (pO l' d false) ∧ kindM (ks.drop j) l' = kindM ks l) ks.length ⟨0, _, l, rfl, by omega, Fr.refl _ _, e, rfl⟩ ?_
  rintro n vs h' ⟨j, b, l', rfl, hn, f1, e1, hm⟩
  unfold expr_parser_kind_l3
  (repeat refine st_lss ?_)
  refine st_if (fun hb => ?_) (fun hb => ?_) <;> simp only [za, zb, zc, zd, ze, zf, zg, zh, zi, u8i, zj, zk, zl] at hb
  · have hj : j < ks.length := hb
    refine (hr h' f1).idx (fun _ => rfl) hj fun p t => ?_
    refine st_pload1 t ?_
    refine signs_sp ?_
    have hk12 : ks[j] < signsL.length := hk _ (by simp)
    refine (Row.full (h := h') (enc := fun x : Str => [T x]) (fun _ => rfl) signsL).idx (fun _ => rfl) hk12 fun p t => ?_
    refine st_pload1 t ?_
    have hsg : signsL[ks[j]] = sg ks[j] := by simp [sg, hk12]
    rw [List.drop_eq_getElem_cons hj, kindM] at hm
    refine take_sp e1 (fun hp h2 f2 e2 => ?_) (fun hp h2 f2 e2 => ?_)
    · refine st_if (fun _ => ?_) (fun h => by cases h)
      rw [hsg] at hp e2
      rw [if_pos hp] at hm
      have := k h2 (f1.trans f2 (by simp)) (by rw [← hm]; exact e2)
      rw [← hm] at this; exact this
    · refine st_if (fun h => by cases h) (fun _ => ?_)
      rw [hsg] at hp
      rw [if_neg (by simp [hp])] at hm
      (repeat refine st_add (by omega) ?_)
      exact ⟨n - 1, by omega, j + 1, _, _, rfl, by omega, f1.trans f2 (by simp), e2, hm⟩
  · rw [List.drop_of_length_le (by omega)] at hm
    have := k h' f1 (by rw [← hm]; exact e1)
    rw [← hm] at this; exact this
theorem kindBad_sp (ks : List Nat) (hk : ∀ k ∈ ks, k < 12) (hl : ks.length < 1000) {v : AV} (r : Row (fun k : Nat => [I (k : Nat)]) 1 h v ks) (e : h[i]? = some (pO l d true))
    (hr : ∀ h', Fr [i] h h' → Row (fun k : Nat => [I (k : Nat)]) 1 h' v ks) (k : ∀ l' h', Fr [i] h h' → h'[i]? = some (pO l' d true) → Q (I 0) h') : C fn_expr_parser_kind [.ptr i 0, v] h Q := by
  refine expr_parser_kind_ok _ _ _ _ ?_
  unfold expr_parser_kind
  refine r.len ?_
  refine st_loop (fun n vs h' => ∃ (j : Nat) (b : AV) (l' : Str), vs = [b, I (j : Nat)] ∧ n + j = ks.length ∧ Fr [i] h h' ∧ h'[i]? = some (pO l' d true)) ks.length ⟨0, _, l, rfl, by omega, Fr.refl _ _, e⟩ ?_
  rintro n vs h' ⟨j, b, l', rfl, hn, f1, e1⟩
  unfold expr_parser_kind_l3
  (repeat refine st_lss ?_)
  refine st_if (fun hb => ?_) (fun hb => ?_) <;> simp only [za, zb, zc, zd, ze, zf, zg, zh, zi, u8i, zj, zk, zl] at hb
  · have hj : j < ks.length := hb
    refine (hr h' f1).idx (fun _ => rfl) hj fun p t => ?_
    refine st_pload1 t ?_
    refine signs_sp ?_
    have hk12 : ks[j] < signsL.length := hk _ (by simp)
    refine (Row.full (h := h') (enc := fun x : Str => [T x]) (fun _ => rfl) signsL).idx (fun _ => rfl) hk12 fun p t => ?_
    refine st_pload1 t ?_
    refine takeBad_sp e1 (fun h2 f2 e2 => ?_)
    refine st_if (fun h => by cases h) (fun _ => ?_)
    (repeat refine st_add (by omega) ?_)
    exact ⟨n - 1, by omega, j + 1, _, _, rfl, by omega, f1.trans f2 (by simp), e2⟩
  · exact k _ h' f1 e1
end
structure PRes (i D : Nat) (m : Option (Ex × Str)) (h : AHeap) (Q : QT) : Prop where
  good : ∀ x l' h', m = some (x, l') → Fr [i] h h' → h'[i]? = some (pO l' D false) → Q (.agg (encE x)) h'
  bad : ∀ cs l' h', m = none → Fr [i] h h' → h'[i]? = some (pO l' D true) → cs.length = 4 → cs.all AV.one = true → Q (.agg cs) h'
theorem PRes.fr {i D : Nat} {m : Option (Ex × Str)} {h h1 : AHeap} {Q : QT} (r : PRes i D m h Q) (f : Fr [i] h h1) : PRes i D m h1 Q :=
  ⟨fun x l' h' e f' => r.good x l' h' e (f.trans f' (by simp)), fun cs l' h' e f' => r.bad cs l' h' e (f.trans f' (by simp))⟩
abbrev PF := Str → Option (Ex × Str)
def Short (f : PF) : Prop := ∀ l x l', f l = some (x, l') → l'.length ≤ l.length
def digV (c : UInt8) : Nat := if 97 ≤ c.toNat then c.toNat - 97 + 10 else c.toNat - 48
def numM (base : Nat) : Str → Nat → Option Nat
  | [], n => some n
  | c :: cs, n => if 4294967296 ≤ n * base + digV c then none else numM base cs (n * base + digV c)
def loopM (sub : PF) (ks : List Nat) : Nat → Ex → Str → Option (Ex × Str)
  | 0, x, l => if (kindM ks l).1 = 0 then some (x, (kindM ks l).2) else none
  | n + 1, x, l => if (kindM ks l).1 = 0 then some (x, (kindM ks l).2) else match sub (kindM ks l).2 with
    | none => none
    | some (y, l2) => loopM sub ks n (.bin (kindM ks l).1 x y) l2
def twoM (one : PF) : Nat → PF
  | 0 => one
  | r + 1 => fun l => match twoM one r l with
    | none => none
    | some (x, l1) => loopM (twoM one r) ((levelsL[4 - r]?).getD []) l1.length x l1
def groupM (two : PF) : PF := fun l => match two l with
  | none => none
  | some (x, l1) => if ([41] : Str).isPrefixOf (blk l1) = true then some (x, (blk l1).drop 1) else none
def minusM (one : PF) : PF := fun l => match one l with
  | none => none
  | some (x, l1) => some (.neg x, l1)
def innW (l : Str) : Str := l.takeWhile fun c => pInner c.toNat
def digW (l : Str) : Str := l.takeWhile fun c => pDigit c.toNat
def hexW (l : Str) : Str := l.takeWhile fun c => pHex c.toNat
def numApart (base : Nat) (l ds : Str) : Option (Ex × Str) := match numM base ds 0 with
  | none => none
  | some n => if innW (l.drop ds.length) = [] then some (.num n, l.drop ds.length) else none
def decM : PF := fun l =>
  if digW l ≠ [] then numApart 10 l (digW l)
  else if isWord (innW l) = true then some (.name (innW l), l.drop (innW l).length) else none
def restM : PF := fun l =>
  if ([48, 120] : Str).isPrefixOf l = true then (if hexW (l.drop 2) ≠ [] then numApart 16 (l.drop 2) (hexW (l.drop 2)) else decM l) else decM l
def atomM (group minus : PF) : PF := fun l =>
  if ([40] : Str).isPrefixOf (blk l) = true then group ((blk l).drop 1)
  else if ([45] : Str).isPrefixOf (blk l) = true then minus ((blk l).drop 1)
  else if ([46] : Str).isPrefixOf (blk l) = true then some (.here, (blk l).drop 1)
  else restM (blk l)
def oneM : Nat → PF
  | 0 => atomM (fun _ => none) fun _ => none
  | d + 1 => atomM (groupM (twoM (oneM d) 5)) (minusM (oneM d))
def parseE (l : Str) : Option Ex := match twoM (oneM 12) 5 l with
  | none => none
  | some (x, l') => if blk l' = [] then some x else none
theorem kindM_len (ks : List Nat) (hk : ∀ k ∈ ks, (sg k) ≠ []) : ∀ l : Str, (kindM ks l).2.length ≤ l.length ∧ ((kindM ks l).1 ≠ 0 → (kindM ks l).2.length < l.length) := by
  induction ks with
  | nil => intro l; simp [kindM]
  | cons k ks ih =>
    intro l
    unfold kindM
    have hb : (blk l).length ≤ l.length := dropB_len 32 l
    split
    · rename_i hp
      have hle := (List.isPrefixOf_iff_prefix.1 hp).length_le
      have : 0 < (sg k).length := List.length_pos_iff.2 (hk k (by simp))
      simp only [List.length_drop]
      exact ⟨by omega, fun _ => by omega⟩
    · obtain ⟨h1, h2⟩ := ih (fun k hk' => hk k (by simp [hk'])) (blk l)
      exact ⟨by omega, fun h => by have := h2 h; omega⟩
theorem loopM_short {sub : PF} (hs : Short sub) (ks : List Nat) (hk : ∀ k ∈ ks, (sg k) ≠ []) : ∀ n x, Short (loopM sub ks n x)
  | 0, x, l, y, l', e => by
    have := (kindM_len ks hk l).1
    unfold loopM at e
    split at e
    · cases e; exact this
    · cases e
  | n + 1, x, l, y, l', e => by
    have := (kindM_len ks hk l).1
    unfold loopM at e
    split at e
    · cases e; exact this
    · split at e
      · cases e
      · rename_i z l2 h2
        have h3 := hs _ _ _ h2
        have := loopM_short hs ks hk n _ _ _ _ e
        omega
theorem levels_ok : ∀ ks ∈ levelsL, (∀ k ∈ ks, sg k ≠ []) ∧ (∀ k ∈ ks, k < 12) ∧ ks.length < 1000 := by decide
theorem level_mem {r : Nat} (h : r < 5) : (levelsL[r]?).getD [] ∈ levelsL := by
  have : r < levelsL.length := h
  simp [this]
theorem twoM_short {one : PF} (ho : Short one) : ∀ r, r ≤ 5 → Short (twoM one r)
  | 0, _ => ho
  | r + 1, hr => fun l x l' e => by
    unfold twoM at e
    have ih := twoM_short ho r (by omega)
    cases h : twoM one r l with
    | none => rw [h] at e; cases e
    | some p =>
      obtain ⟨y, l1⟩ := p
      rw [h] at e
      have h1 := ih _ _ _ h
      have := loopM_short ih _ (levels_ok _ (level_mem (by omega))).1 _ _ _ _ _ e
      omega
theorem groupM_short {two : PF} (h2 : Short two) : Short (groupM two) := fun l x l' e => by
  unfold groupM at e
  cases h : two l with
  | none => rw [h] at e; cases e
  | some p =>
    obtain ⟨y, l1⟩ := p
    rw [h] at e
    have h1 := h2 _ _ _ h
    have hb : (blk l1).length ≤ l1.length := dropB_len 32 l1
    simp only at e
    split at e
    · cases e; simp; omega
    · cases e
theorem minusM_short {one : PF} (h2 : Short one) : Short (minusM one) := fun l x l' e => by
  unfold minusM at e
  cases h : one l with
  | none => rw [h] at e; cases e
  | some p =>
    obtain ⟨y, l1⟩ := p
    rw [h] at e
    cases e
    exact h2 _ _ _ h
theorem numApart_short (base : Nat) (l ds : Str) {x : Ex} {l' : Str} (e : numApart base l ds = some (x, l')) : l'.length ≤ l.length := by
  unfold numApart at e
  split at e
  · cases e
  · split at e
    · cases e; simp
    · cases e
theorem decM_short : Short decM := fun l x l' e => by
  unfold decM at e
  split at e
  · exact numApart_short _ _ _ e
  · split at e
    · cases e; simp
    · cases e
theorem restM_short : Short restM := fun l x l' e => by
  unfold restM at e
  split at e
  · split at e
    · have := numApart_short _ _ _ e; simp at this; omega
    · exact decM_short _ _ _ e
  · exact decM_short _ _ _ e
theorem atomM_short {group minus : PF} (hg : Short group) (hm : Short minus) : Short (atomM group minus) := fun l x l' e => by
  have hb : (blk l).length ≤ l.length := dropB_len 32 l
  unfold atomM at e
  split at e
  · have := hg _ _ _ e; simp at this; omega
  · split at e
    · have := hm _ _ _ e; simp at this; omega
    · split at e
      · cases e; simp; omega
      · have := restM_short _ _ _ e; omega
theorem oneM_short : ∀ d, Short (oneM d)
  | 0 => atomM_short (fun l x l' e => by cases e) (fun l x l' e => by cases e)
  | d + 1 => atomM_short (groupM_short (twoM_short (oneM_short d) 5 (Nat.le_refl _))) (minusM_short (oneM_short d))
end
end
section
noncomputable section
variable [Tabs]
section
variable {i D : Nat} {l : Str} {h : AHeap} {Q : QT}
abbrev zE : List AV := [I 0, I 0, T [], .full 0 []]
theorem one4 {cs : List AV} (h : cs.length = 4) : ∃ a b c e, cs = [a, b, c, e] := by
  match cs, h with
  | [a, b, c, e], _ => exact ⟨a, b, c, e, rfl⟩
theorem splice4 {cs zs : List AV} (h : cs.length = 4) (hz : zs.length = 4) : splice zs 0 cs = cs := by
  simp [splice, h, hz]
theorem st_put4 {h0 h : AHeap} {M : List Nat} {L L' : Own} {j : Nat} {cs zs : List AV} {K : AHeap → Prop} (s : St h0 M h L) (hz : zs.length = 4) (hc : cs.length = 4) (ho : cs.all AV.one = true) (u : Sub L (j, true, .cells zs) L' (j, true, .cells cs))
    (k : ∀ h', St h0 M h' L' → K h') : qStore 4 (.ptr j 0) (.agg cs) h K := by
  refine st_store s (cs := zs) (L' := L') ?_ rfl hc ho (by omega) k
  rw [show (AV.agg cs).cells = cs from rfl, splice4 hc hz]; exact u
theorem st_get4 {h0 h : AHeap} {M : List Nat} {L : Own} {j : Nat} {b : Bool} {cs : List AV} {K : AV → Prop} (s : St h0 M h L) (hc : cs.length = 4) (u : (j, b, .cells cs) ∈ L) (k : K (.agg cs)) : qLoadA 4 (.ptr j 0) h K :=
  st_loadA s u (by omega) (by rw [List.drop_zero, List.take_of_length_le (by omega)]; exact k)
theorem zE_len : zE.length = 4 := rfl
theorem apart_sp {cs : List AV} (hc : cs.length = 4) (ho : cs.all AV.one = true) (e : h[i]? = some (pO l D false))
    (k1 : innW l = [] → ∀ h', Fr [i] h h' → h'[i]? = some (pO l D false) → Q (.agg cs) h') (k0 : innW l ≠ [] → ∀ h', Fr [i] h h' → h'[i]? = some (pO l D true) → Q (.agg zE) h') : C fn_expr_parser_apart [.ptr i 0, .agg cs] h Q := by
  refine expr_parser_apart_ok _ _ _ _ ?_
  unfold expr_parser_apart
  refine st_box (St.start1 e) rfl fun j h1 s1 => ?_
  refine st_new s1 fun q h2 s2 => ?_
  (repeat (first | refine st_nil ?_ | refine st_fa ?_ | refine st_load1 ‹_› (by first | exact .head _ | exact .tail _ (.tail _ (.head _))) rfl ?_))
  refine asInner_sp l fun h3 f3 => ?_
  have s3 := s2.call f3
  refine st_sne ?_
  refine st_if (fun hb => ?_) (fun hb => ?_) <;> simp only [za, zb, zc, zd, ze, zf, zg, zh, zi, u8i, zj, zk, zl] at hb
  · refine fail_sp (s3.get (.tail _ (.tail _ (.head _)))) fun h4 f4 e4 => ?_
    have s4 := s3.call1 f4 e4 (.tail (.tail .head))
    refine st_put4 s4 zE_len (encE_len _) (encE_one _) .head fun h5 s5 => ?_
    refine st_get4 s5 (encE_len _) (.head _) ?_
    exact k0 hb _ s5.fr (s5.get (.tail _ (.tail _ (.head _))))
  · have hb : innW l = [] := by
      unfold innW
      simpa using hb
    refine st_get4 s3 hc (.tail _ (.head _)) ?_
    refine st_put4 s3 zE_len hc ho .head fun h5 s5 => ?_
    refine st_get4 s5 hc (.head _) ?_
    exact k1 hb _ s5.fr (s5.get (.tail _ (.tail _ (.head _))))
theorem numM_digit {base : Nat} (hb : base ≤ 16) (c : UInt8) (n : Nat) (hn : n < 4294967296) : n * base + digV c < 9223372036854775807 := by
  have h1 := c.toNat_lt
  have h2 : digV c < 1000 := by unfold digV; split <;> omega
  have : n * base ≤ 4294967296 * 16 := Nat.mul_le_mul (by omega) hb
  omega
theorem number_sp (base : Nat) (hb : base ≤ 16) (ds : Str) (hds : ∀ c ∈ ds, pHex c.toNat = true) (hle : ds.length ≤ l.length) (e : h[i]? = some (pO l D false))
    (k1 : ∀ n, numM base ds 0 = some n → ∀ h', Fr [i] h h' → h'[i]? = some (pO (l.drop ds.length) D false) → Q (.agg (encE (.num n))) h')
    (k0 : numM base ds 0 = none → ∀ h', Fr [i] h h' → h'[i]? = some (pO l D true) → Q (.agg zE) h') : C fn_expr_parser_number [.ptr i 0, T ds, I (base : Nat)] h Q := by
  refine expr_parser_number_ok _ _ _ _ _ ?_
  unfold expr_parser_number
  refine st_new (St.start1 e) fun q h1 s1 => ?_
  refine st_rangeS s1 fun j h2 s2 => ?_
  refine st_loop (fun n vs h' => ∃ (k m : Nat), vs = [I (m : Nat)] ∧ m < 4294967296 ∧ n + k = ds.length ∧ St h [i] h' [(j, true, .siter ⟨⟨ds⟩⟩ k), (q, true, .cells zE), (i, true, pO l D false)] ∧ numM base (ds.drop k) m = numM base ds 0) ds.length ⟨0, 0, rfl, by omega, by omega, s2, rfl⟩ ?_
  rintro n vs h' ⟨k, m, rfl, hm, hn, s3, hnum⟩
  unfold expr_parser_number_l11
  refine st_next s3 (fun hk => ?_) fun hk r w h4 s4 hw h7 h8 => ?_
  · rw [List.drop_of_length_le (by omega), numM] at hnum
    (repeat (first | refine st_nil ?_ | refine st_fa ?_ | refine st_lenS ?_ | refine st_ext rfl ?_ | refine st_load1 ‹_› (by first | exact .tail _ (.head _) | exact .tail _ (.tail _ (.head _))) rfl ?_))
    refine st_cutr (by omega) (by omega) ?_
    (repeat (first | refine st_nil ?_ | refine st_fa ?_))
    refine st_store s3 (.tail (.tail .head)) rfl rfl rfl (nle rfl) fun h5 s5 => ?_
    (repeat refine st_build rfl ?_)
    refine st_put4 s5 zE_len rfl rfl (.tail .head) fun h6 s6 => ?_
    refine st_get4 s6 rfl (.tail _ (.head _)) ?_
    exact k1 m hnum.symm _ s6.fr (s6.get (.tail _ (.tail _ (.head _))))
  · have hhex := hds ds[k] (by simp)
    have hlt : ds[k].toNat < 128 := by
      unfold pHex pDigit at hhex; simp at hhex; omega
    obtain ⟨rfl, rfl⟩ := h7 hlt
    rw [List.drop_eq_getElem_cons hk, numM] at hnum
    have hd := numM_digit hb ds[k] m hm
    have hdv : digV ds[k] < 1000 := by unfold digV; split <;> omega
    have hmb : (m : Int) * base = ((m * base : Nat) : Int) := by simp
    have fin : expr_parser_number_j7 (I (digV ds[k] : Nat)) (I (m : Nat)) (.ptr q 0) (.ptr i 0) (I (base : Nat)) h4 (fun vs' h' => ∃ m_1, m_1 < n ∧ ∃ (k m : Nat), vs' = [I (m : Nat)] ∧ m < 4294967296 ∧ m_1 + k = ds.length ∧ St h [i] h' [(j, true, .siter ⟨⟨ds⟩⟩ k), (q, true, .cells zE), (i, true, pO l D false)] ∧ numM base (ds.drop k) m = numM base ds 0) Q := by
      unfold expr_parser_number_j7
      refine st_mul (by rw [hmb]; omega) ?_
      rw [hmb]
      refine st_add (by omega) ?_
      have e2 : ((m * base : Nat) : Int) + (digV ds[k] : Nat) = ((m * base + digV ds[k] : Nat) : Int) := by simp
      rw [e2]
      refine st_geq ?_
      refine st_if (fun hb => ?_) (fun hb => ?_)
      · simp only [decide_eq_true_eq] at hb
        rw [if_pos (by omega)] at hnum
        refine fail_sp (s4.get (.tail _ (.tail _ (.head _)))) fun h5 f5 e5 => ?_
        have s5 := s4.call1 f5 e5 (.tail (.tail .head))
        refine st_put4 s5 zE_len (encE_len _) (encE_one _) (.tail .head) fun h6 s6 => ?_
        refine st_get4 s6 (encE_len _) (.tail _ (.head _)) ?_
        exact k0 hnum.symm _ s6.fr (s6.get (.tail _ (.tail _ (.head _))))
      · simp only [decide_eq_false_iff_not] at hb
        rw [if_neg (by omega)] at hnum
        exact ⟨n - 1, by omega, k + 1, _, rfl, by omega, by omega, s4, hnum⟩
    (repeat refine st_ext rfl ?_)
    refine st_subw ?_
    refine st_conv ?_
    refine st_geq ?_
    refine st_if (fun hb => ?_) (fun hb => ?_)
    · simp only [decide_eq_true_eq] at hb
      refine st_subw ?_
      refine st_conv ?_
      have e1 : IntKind.i64.wrap (IntKind.i32.wrap ((ds[k].toNat : Nat) - 97)) = ((ds[k].toNat - 97 : Nat) : Int) := by
        have : IntKind.i32.wrap ((ds[k].toNat : Nat) - 97) = ((ds[k].toNat - 97 : Nat) : Int) := by
          simp [IntKind.wrap, IntKind.bits, IntKind.signed]; omega
        rw [this]; exact wrapI (by omega)
      rw [e1]
      refine st_add (by omega) ?_
      have e2 : ((ds[k].toNat - 97 : Nat) : Int) + 10 = (digV ds[k] : Nat) := by unfold digV; rw [if_pos (by omega)]; omega
      rw [e2]
      exact fin
    · simp only [decide_eq_false_iff_not] at hb
      have e1 : IntKind.i64.wrap (IntKind.i32.wrap ((ds[k].toNat : Nat) - 48)) = (digV ds[k] : Nat) := by
        have h48 : 48 ≤ ds[k].toNat := by unfold pHex pDigit at hhex; simp at hhex; omega
        have : IntKind.i32.wrap ((ds[k].toNat : Nat) - 48) = ((ds[k].toNat - 48 : Nat) : Int) := by
          simp [IntKind.wrap, IntKind.bits, IntKind.signed]; omega
        rw [this, wrapI (by omega)]
        unfold digV; rw [if_neg (by omega)]
      rw [e1]
      exact fin
theorem innW_len (l : Str) : (innW l).length ≤ l.length := (List.takeWhile_sublist _).length_le
theorem digW_len (l : Str) : (digW l).length ≤ l.length := (List.takeWhile_sublist _).length_le
theorem hexW_len (l : Str) : (hexW l).length ≤ l.length := (List.takeWhile_sublist _).length_le
theorem takeWhile_mem {p : UInt8 → Bool} : ∀ {l : Str} {c : UInt8}, c ∈ l.takeWhile p → p c = true
  | [], c, h => by simp at h
  | a :: l, c, h => by
    cases hp : p a with
    | true =>
      rw [List.takeWhile_cons_of_pos hp] at h
      rcases List.mem_cons.1 h with rfl | h
      · exact hp
      · exact takeWhile_mem h
    | false => rw [List.takeWhile_cons_of_neg (by simp [hp])] at h; simp at h
theorem digW_hex (l : Str) : ∀ c ∈ digW l, pHex c.toNat = true := fun c hc => by
  have : pDigit c.toNat = true := takeWhile_mem hc
  unfold pHex; rw [this]; rfl
theorem hexW_hex (l : Str) : ∀ c ∈ hexW l, pHex c.toNat = true := fun c hc => takeWhile_mem hc
theorem numApart_sp (base : Nat) (hb : base ≤ 16) (ds : Str) (hds : ∀ c ∈ ds, pHex c.toNat = true) (hle : ds.length ≤ l.length) (e : h[i]? = some (pO l D false)) (r : PRes i D (numApart base l ds) h Q) :
    C fn_expr_parser_number [.ptr i 0, T ds, I (base : Nat)] h fun t h1 => C fn_expr_parser_apart [.ptr i 0, t] h1 Q := by
  refine number_sp base hb ds hds hle e (fun n hn h1 f1 e1 => ?_) (fun hn h1 f1 e1 => ?_)
  · have hm : numApart base l ds = if innW (l.drop ds.length) = [] then some (.num n, l.drop ds.length) else none := by unfold numApart; rw [hn]
    refine apart_sp (encE_len _) (encE_one _) e1 (fun h2 h3 f3 e3 => ?_) (fun h2 h3 f3 e3 => ?_)
    · rw [if_pos h2] at hm
      exact r.good _ _ _ hm (f1.trans f3 (by simp)) e3
    · rw [if_neg h2] at hm
      exact r.bad _ _ _ hm (f1.trans f3 (by simp)) e3 rfl rfl
  · have hm : numApart base l ds = none := by unfold numApart; rw [hn]
    refine expr_parser_apart_ok _ _ _ _ ?_
    unfold expr_parser_apart
    refine st_box (St.start1 e1) rfl fun j h2 s2 => ?_
    refine st_new s2 fun q h3 s3 => ?_
    (repeat (first | refine st_nil ?_ | refine st_fa ?_ | refine st_load1 ‹_› (by first | exact .head _ | exact .tail _ (.tail _ (.head _))) rfl ?_))
    refine asInner_sp l fun h4 f4 => ?_
    have s4 := s3.call f4
    refine st_sne ?_
    refine st_if (fun hbb => ?_) (fun hbb => ?_) <;> simp only [za, zb, zc, zd, ze, zf, zg, zh, zi, u8i, zj, zk, zl] at hbb
    · refine fail_sp (s4.get (.tail _ (.tail _ (.head _)))) fun h5 f5 e5 => ?_
      have s5 := s4.call1 f5 e5 (.tail (.tail .head))
      refine st_put4 s5 zE_len (encE_len _) (encE_one _) .head fun h6 s6 => ?_
      refine st_get4 s6 (encE_len _) (.head _) ?_
      exact r.bad _ _ _ hm (f1.trans s6.fr (by simp)) (s6.get (.tail _ (.tail _ (.head _)))) rfl rfl
    · refine st_get4 s4 zE_len (.tail _ (.head _)) ?_
      refine st_put4 s4 zE_len zE_len rfl .head fun h6 s6 => ?_
      refine st_get4 s6 zE_len (.head _) ?_
      exact r.bad _ _ _ hm (f1.trans s6.fr (by simp)) (s6.get (.tail _ (.tail _ (.head _)))) rfl rfl
def PSpec (f : FuncId) (args : List AV) (D : Nat) (m : PF) : Prop := ∀ (l : Str) (h : AHeap) (Q : QT) (i : Nat), h[i]? = some (pO l D false) → PRes i D (m l) h Q → C f (.ptr i 0 :: args) h Q
theorem group_sp {two : PF} (ht : PSpec fn_expr_parser_two [I 0] D two) : PSpec fn_expr_parser_group [] D (groupM two) := fun l h Q i e r => by
  refine expr_parser_group_ok _ _ _ ?_
  unfold expr_parser_group
  refine st_new (St.start1 e) fun q h1 s1 => ?_
  refine ht l h1 _ i (s1.get (.tail _ (.head _))) ⟨fun x l' h2 hm f2 e2 => ?_, fun cs l' h2 hm f2 e2 hc ho => ?_⟩
  · have s2 := s1.call1 f2 e2 (.tail .head)
    have hm2 : groupM two l = if ([41] : Str).isPrefixOf (blk l') = true then some (x, (blk l').drop 1) else none := by unfold groupM; rw [hm]
    refine st_new s2 fun q2 h3 s3 => ?_
    refine st_put4 s3 zE_len (encE_len _) (encE_one _) .head fun h4 s4 => ?_
    refine take_sp (m := [41]) (s4.get (.tail _ (.tail _ (.head _)))) (fun hp h5 f5 e5 => ?_) (fun hp h5 f5 e5 => ?_)
    · have s5 := s4.call1 f5 e5 (.tail (.tail .head))
      rw [if_pos hp] at hm2
      refine st_not ?_
      refine st_if (fun h => by cases h) (fun _ => ?_)
      refine st_get4 s5 (encE_len _) (.head _) ?_
      refine st_put4 s5 zE_len (encE_len _) (encE_one _) (.tail .head) fun h6 s6 => ?_
      refine st_get4 s6 (encE_len _) (.tail _ (.head _)) ?_
      exact r.good _ _ _ hm2 s6.fr (s6.get (.tail _ (.tail _ (.head _))))
    · have s5 := s4.call1 f5 e5 (.tail (.tail .head))
      rw [if_neg (by simp [hp])] at hm2
      refine st_not ?_
      refine st_if (fun _ => ?_) (fun h => by cases h)
      refine fail_sp (s5.get (.tail _ (.tail _ (.head _)))) fun h6 f6 e6 => ?_
      have s6 := s5.call1 f6 e6 (.tail (.tail .head))
      refine st_put4 s6 zE_len (encE_len _) (encE_one _) (.tail .head) fun h7 s7 => ?_
      refine st_get4 s7 (encE_len _) (.tail _ (.head _)) ?_
      exact r.bad _ _ _ hm2 s7.fr (s7.get (.tail _ (.tail _ (.head _)))) rfl rfl
  · have s2 := s1.call1 f2 e2 (.tail .head)
    have hm2 : groupM two l = none := by unfold groupM; rw [hm]
    refine st_new s2 fun q2 h3 s3 => ?_
    refine st_put4 s3 zE_len hc ho .head fun h4 s4 => ?_
    refine takeBad_sp (m := [41]) (s4.get (.tail _ (.tail _ (.head _)))) fun h5 f5 e5 => ?_
    have s5 := s4.call1 f5 e5 (.tail (.tail .head))
    refine st_not ?_
    refine st_if (fun _ => ?_) (fun h => by cases h)
    refine fail_sp (s5.get (.tail _ (.tail _ (.head _)))) fun h6 f6 e6 => ?_
    have s6 := s5.call1 f6 e6 (.tail (.tail .head))
    refine st_put4 s6 zE_len (encE_len _) (encE_one _) (.tail .head) fun h7 s7 => ?_
    refine st_get4 s7 (encE_len _) (.tail _ (.head _)) ?_
    exact r.bad _ _ _ hm2 s7.fr (s7.get (.tail _ (.tail _ (.head _)))) rfl rfl
theorem minus_sp {one : PF} (ht : PSpec fn_expr_parser_one [] D one) : PSpec fn_expr_parser_minus [] D (minusM one) := fun l h Q i e r => by
  refine expr_parser_minus_ok _ _ _ ?_
  unfold expr_parser_minus
  refine st_new (St.start1 e) fun q h1 s1 => ?_
  refine ht l h1 _ i (s1.get (.tail _ (.head _))) ⟨fun x l' h2 hm f2 e2 => ?_, fun cs l' h2 hm f2 e2 hc ho => ?_⟩
  · have s2 := s1.call1 f2 e2 (.tail .head)
    have hm2 : minusM one l = some (.neg x, l') := by unfold minusM; rw [hm]
    refine st_buildS rfl (by simp [AV.isTup, AV.cells, encE_len]) ?_
    rw [show ([AV.agg (encE x)].flatMap fun x => x.cells) = encE x by simp [AV.cells]]
    (repeat refine st_build rfl ?_)
    refine st_put4 s2 zE_len rfl rfl .head fun h7 s7 => ?_
    refine st_get4 s7 rfl (.head _) ?_
    exact r.good _ _ _ hm2 s7.fr (s7.get (.tail _ (.head _)))
  · have s2 := s1.call1 f2 e2 (.tail .head)
    have hm2 : minusM one l = none := by unfold minusM; rw [hm]
    refine st_buildS rfl (by simp [AV.isTup, AV.cells, hc]) ?_
    (repeat refine st_build rfl ?_)
    refine st_put4 s2 zE_len rfl rfl .head fun h7 s7 => ?_
    refine st_get4 s7 rfl (.head _) ?_
    exact r.bad _ _ _ hm2 s7.fr (s7.get (.tail _ (.head _))) rfl rfl
theorem within_sp {f : FuncId} {m : PF} (hf : PSpec f [] (D + 1) m) (hD : D < 12) : ∀ (l : Str) (h : AHeap) (Q : QT) (i : Nat), h[i]? = some (pO l D false) → PRes i D (m l) h Q → C fn_expr_parser_within [.ptr i 0, .fn (.func f) [.ptr i 0] []] h Q := fun l h Q i e r => by
  refine expr_parser_within_ok _ _ _ _ ?_
  unfold expr_parser_within
  refine st_new (St.start1 e) fun q h1 s1 => ?_
  (repeat (first | refine st_nil ?_ | refine st_fa ?_ | refine st_geq ?_ | refine st_load1 ‹_› (by first | exact .head _ | exact .tail _ (.head _)) rfl ?_))
  refine st_if (fun hb => absurd hb (by simp; omega)) (fun _ => ?_)
  (repeat (first | refine st_nil ?_ | refine st_fa ?_ | refine st_add (by omega) ?_ | refine st_load1 ‹_› (by first | exact .head _ | exact .tail _ (.head _)) rfl ?_))
  refine st_store s1 (.tail .head) rfl rfl rfl (nle rfl) fun h2 s2 => ?_
  have s2 : St h [i] h2 [(q, true, .cells zE), (i, true, pO l (D + 1) false)] := s2
  show ACall Pg f [.ptr i 0] _ _
  refine hf l h2 _ i (s2.get (.tail _ (.head _))) ⟨fun x l' h3 hm f3 e3 => ?_, fun cs l' h3 hm f3 e3 hc ho => ?_⟩
  · have s3 := s2.call1 f3 e3 (.tail .head)
    refine st_new s3 fun q2 h4 s4 => ?_
    refine st_put4 s4 zE_len (encE_len _) (encE_one _) .head fun h5 s5 => ?_
    (repeat (first | refine st_nil ?_ | refine st_fa ?_ | refine st_sub (by omega) ?_ | refine st_load1 ‹_› (by first | exact .head _ | exact .tail _ (.tail _ (.head _))) rfl ?_))
    have eD : ((D + 1 : Nat) : Int) - 1 = (D : Nat) := by omega
    rw [eD]
    refine st_store s5 (.tail (.tail .head)) rfl rfl rfl (nle rfl) fun h6 s6 => ?_
    have s6 : St h [i] h6 [(q2, true, .cells (encE x)), (q, true, .cells zE), (i, true, pO l' D false)] := s6
    refine st_get4 s6 (encE_len _) (.head _) ?_
    refine st_put4 s6 zE_len (encE_len _) (encE_one _) (.tail .head) fun h7 s7 => ?_
    refine st_get4 s7 (encE_len _) (.tail _ (.head _)) ?_
    exact r.good _ _ _ hm s7.fr (s7.get (.tail _ (.tail _ (.head _))))
  · have s3 := s2.call1 f3 e3 (.tail .head)
    refine st_new s3 fun q2 h4 s4 => ?_
    refine st_put4 s4 zE_len hc ho .head fun h5 s5 => ?_
    (repeat (first | refine st_nil ?_ | refine st_fa ?_ | refine st_sub (by omega) ?_ | refine st_load1 ‹_› (by first | exact .head _ | exact .tail _ (.tail _ (.head _))) rfl ?_))
    have eD : ((D + 1 : Nat) : Int) - 1 = (D : Nat) := by omega
    rw [eD]
    refine st_store s5 (.tail (.tail .head)) rfl rfl rfl (nle rfl) fun h6 s6 => ?_
    have s6 : St h [i] h6 [(q2, true, .cells cs), (q, true, .cells zE), (i, true, pO l' D true)] := s6
    refine st_get4 s6 hc (.head _) ?_
    refine st_put4 s6 zE_len hc ho (.tail .head) fun h7 s7 => ?_
    refine st_get4 s7 hc (.tail _ (.head _)) ?_
    exact r.bad _ _ _ hm s7.fr (s7.get (.tail _ (.tail _ (.head _)))) hc ho
theorem withinNo_sp (fv : AV) : ∀ (l : Str) (h : AHeap) (Q : QT) (i : Nat), h[i]? = some (pO l 12 false) → PRes i 12 none h Q → C fn_expr_parser_within [.ptr i 0, fv] h Q := fun l h Q i e r => by
  refine expr_parser_within_ok _ _ _ _ ?_
  unfold expr_parser_within
  refine st_new (St.start1 e) fun q h1 s1 => ?_
  (repeat (first | refine st_nil ?_ | refine st_fa ?_ | refine st_geq ?_ | refine st_load1 ‹_› (by first | exact .head _ | exact .tail _ (.head _)) rfl ?_))
  refine st_if (fun _ => ?_) (fun hb => (by exfalso; first | (simp at hb; done) | (simp at hb; omega) | (revert hb; decide) | omega))
  refine fail_sp (s1.get (.tail _ (.head _))) fun h2 f2 e2 => ?_
  have s2 := s1.call1 f2 e2 (.tail .head)
  refine st_put4 s2 zE_len (encE_len _) (encE_one _) .head fun h3 s3 => ?_
  refine st_get4 s3 (encE_len _) (.head _) ?_
  exact r.bad _ _ _ rfl s3.fr (s3.get (.tail _ (.head _))) rfl rfl
end
end
end
section
noncomputable section
variable [Tabs]
section
variable {i D : Nat} {l : Str} {h : AHeap} {Q : QT}
def WSpec (f : FuncId) (D : Nat) (m : PF) : Prop := ∀ (l : Str) (h : AHeap) (Q : QT) (i : Nat), h[i]? = some (pO l D false) → PRes i D (m l) h Q → C fn_expr_parser_within [.ptr i 0, .fn (.func f) [.ptr i 0] []] h Q
theorem dec_sp {h0 : AHeap} {q : Nat} {b : Str} (s : St h0 [i] h [(q, true, .cells zE), (i, true, pO b D false)]) (r : PRes i D (decM b) h0 Q) :
    qNil (.ptr i 0) fun t61 => qFieldAddr 0 t61 fun t62 => qLoad1 t62 h fun t63 => C fn_expr_as [t63, (.fn (.func fn_expr_digit) [] [])] h fun t64 h22 =>
      qBin .neq t64 (S ⟨#[]⟩) fun t66 => ifB t66 (
        C fn_expr_parser_number [.ptr i 0, t64, (I 10)] h22 fun t70 h23 => C fn_expr_parser_apart [.ptr i 0, t70] h23 fun t71 h24 =>
        qStore 4 (.ptr q 0) t71 h24 fun h25 => qLoadA 4 (.ptr q 0) h25 fun r26 => Q r26 h25) (
        qNil (.ptr i 0) fun t73 => qFieldAddr 0 t73 fun t74 => qLoad1 t74 h22 fun t75 => C fn_expr_as [t75, (.fn (.func fn_expr_inner) [] [])] h22 fun t76 h27 => C fn_expr_word [t76] h27 fun t78 h28 =>
        ifB t78 (
          qNil (.ptr i 0) fun t81 => qFieldAddr 0 t81 fun t82 => qLoad1 t82 h28 fun t83 => qLenS t76 fun t85 => qSliceS t83 (some t85) none fun t86 =>
          qNil (.ptr i 0) fun t87 => qFieldAddr 0 t87 fun t88 => qStore 1 t88 t86 h28 fun h29 => qBuild [(I 0), (I 0), (S ⟨#[]⟩), (.full 0 [])] [(0, 1, (I 2)), (2, 1, t76)] fun t90 =>
          qStore 4 (.ptr q 0) t90 h29 fun h30 => qLoadA 4 (.ptr q 0) h30 fun r31 => Q r31 h30) (
          C fn_expr_parser_fail [.ptr i 0] h28 fun t92 h32 => qStore 4 (.ptr q 0) t92 h32 fun h33 => qLoadA 4 (.ptr q 0) h33 fun r34 => Q r34 h33)) := by
  (repeat (first | refine st_nil ?_ | refine st_fa ?_ | refine st_load1 ‹_› (by first | exact .head _ | exact .tail _ (.head _)) rfl ?_))
  refine asDigit_sp b fun h1 f1 => ?_
  have s1 := s.call f1
  refine st_sne ?_
  unfold decM at r
  refine st_if (fun hb => ?_) (fun hb => ?_) <;> simp only [za, zb, zc, zd, ze, zf, zg, zh, zi, u8i, zj, zk, zl] at hb
  · rw [if_pos (by exact hb)] at r
    refine numApart_sp 10 (by omega) (digW b) (digW_hex b) (digW_len b) (s1.get (.tail _ (.head _))) ⟨fun x l' h2 hm f2 e2 => ?_, fun cs l' h2 hm f2 e2 hc ho => ?_⟩
    · have s2 := s1.call1 f2 e2 (.tail .head)
      refine st_put4 s2 zE_len (encE_len _) (encE_one _) .head fun h3 s3 => ?_
      refine st_get4 s3 (encE_len _) (.head _) ?_
      exact r.good _ _ _ hm s3.fr (s3.get (.tail _ (.head _)))
    · have s2 := s1.call1 f2 e2 (.tail .head)
      refine st_put4 s2 zE_len hc ho .head fun h3 s3 => ?_
      refine st_get4 s3 hc (.head _) ?_
      exact r.bad _ _ _ hm s3.fr (s3.get (.tail _ (.head _))) hc ho
  · rw [if_neg (by simpa [digW] using hb)] at r
    (repeat (first | refine st_nil ?_ | refine st_fa ?_ | refine st_load1 ‹_› (by first | exact .head _ | exact .tail _ (.head _)) rfl ?_))
    refine asInner_sp b fun h2 f2 => ?_
    have s2 := s1.call f2
    refine word_sp _ fun h3 f3 => ?_
    have s3 := s2.call f3
    refine st_if (fun hw => ?_) (fun hw => ?_)
    · rw [if_pos (by exact hw)] at r
      (repeat (first | refine st_nil ?_ | refine st_fa ?_ | refine st_lenS ?_ | refine st_load1 ‹_› (by first | exact .head _ | exact .tail _ (.head _)) rfl ?_))
      have hl := innW_len b
      unfold innW at hl
      refine st_cutr (by omega) (by omega) ?_
      (repeat (first | refine st_nil ?_ | refine st_fa ?_))
      refine st_store s3 (.tail .head) rfl rfl rfl (nle rfl) fun h4 s4 => ?_
      (repeat refine st_build rfl ?_)
      refine st_put4 s4 zE_len rfl rfl .head fun h5 s5 => ?_
      refine st_get4 s5 rfl (.head _) ?_
      exact r.good _ _ _ rfl s5.fr (s5.get (.tail _ (.head _)))
    · rw [if_neg (by unfold innW; rw [hw]; simp)] at r
      refine fail_sp (s3.get (.tail _ (.head _))) fun h4 f4 e4 => ?_
      have s4 := s3.call1 f4 e4 (.tail .head)
      refine st_put4 s4 zE_len (encE_len _) (encE_one _) .head fun h5 s5 => ?_
      refine st_get4 s5 (encE_len _) (.head _) ?_
      exact r.bad _ _ _ rfl s5.fr (s5.get (.tail _ (.head _))) rfl rfl
theorem atom_sp {group minus : PF} (hG : WSpec fn_expr_parser_group D group) (hM : WSpec fn_expr_parser_minus D minus) : PSpec fn_expr_parser_one [] D (atomM group minus) := fun l h Q i e r => by
  refine expr_parser_one_ok _ _ _ ?_
  unfold expr_parser_one
  unfold atomM at r
  refine st_new (St.start1 e) fun q h1 s1 => ?_
  refine take_sp (m := [40]) (s1.get (.tail _ (.head _))) (fun hp h2 f2 e2 => ?_) (fun hp h2 f2 e2 => ?_)
  · have s2 := s1.call1 f2 e2 (.tail .head)
    rw [if_pos hp] at r
    refine st_if (fun _ => ?_) (fun h => by cases h)
    refine hG _ _ _ i (s2.get (.tail _ (.head _))) ⟨fun x l' h3 hm f3 e3 => ?_, fun cs l' h3 hm f3 e3 hc ho => ?_⟩
    · have s3 := s2.call1 f3 e3 (.tail .head)
      refine st_put4 s3 zE_len (encE_len _) (encE_one _) .head fun h4 s4 => ?_
      refine st_get4 s4 (encE_len _) (.head _) ?_
      exact r.good _ _ _ hm s4.fr (s4.get (.tail _ (.head _)))
    · have s3 := s2.call1 f3 e3 (.tail .head)
      refine st_put4 s3 zE_len hc ho .head fun h4 s4 => ?_
      refine st_get4 s4 hc (.head _) ?_
      exact r.bad _ _ _ hm s4.fr (s4.get (.tail _ (.head _))) hc ho
  have s2 := s1.call1 f2 e2 (.tail .head)
  rw [if_neg (by simp [hp])] at r
  refine st_if (fun h => by cases h) (fun _ => ?_)
  refine take_sp (m := [45]) (s2.get (.tail _ (.head _))) (fun hp h3 f3 e3 => ?_) (fun hp h3 f3 e3 => ?_)
  · have s3 := s2.call1 f3 e3 (.tail .head)
    rw [show blk (blk l) = blk l from dropB_idem 32 l] at hp s3
    rw [if_pos hp] at r
    refine st_if (fun _ => ?_) (fun h => by cases h)
    refine hM _ _ _ i (s3.get (.tail _ (.head _))) ⟨fun x l' h4 hm f4 e4 => ?_, fun cs l' h4 hm f4 e4 hc ho => ?_⟩
    · have s4 := s3.call1 f4 e4 (.tail .head)
      refine st_put4 s4 zE_len (encE_len _) (encE_one _) .head fun h5 s5 => ?_
      refine st_get4 s5 (encE_len _) (.head _) ?_
      exact r.good _ _ _ hm s5.fr (s5.get (.tail _ (.head _)))
    · have s4 := s3.call1 f4 e4 (.tail .head)
      refine st_put4 s4 zE_len hc ho .head fun h5 s5 => ?_
      refine st_get4 s5 hc (.head _) ?_
      exact r.bad _ _ _ hm s5.fr (s5.get (.tail _ (.head _))) hc ho
  have s3 := s2.call1 f3 e3 (.tail .head)
  rw [show blk (blk l) = blk l from dropB_idem 32 l] at hp s3
  rw [if_neg (by simp [hp])] at r
  refine st_if (fun h => by cases h) (fun _ => ?_)
  refine take_sp (m := [46]) (s3.get (.tail _ (.head _))) (fun hp h4 f4 e4 => ?_) (fun hp h4 f4 e4 => ?_)
  · have s4 := s3.call1 f4 e4 (.tail .head)
    rw [show blk (blk l) = blk l from dropB_idem 32 l] at hp s4
    rw [if_pos hp] at r
    refine st_if (fun _ => ?_) (fun h => by cases h)
    (repeat refine st_build rfl ?_)
    refine st_put4 s4 zE_len rfl rfl .head fun h5 s5 => ?_
    refine st_get4 s5 rfl (.head _) ?_
    exact r.good _ _ _ rfl s5.fr (s5.get (.tail _ (.head _)))
  have s4 := s3.call1 f4 e4 (.tail .head)
  rw [show blk (blk l) = blk l from dropB_idem 32 l] at hp s4
  rw [if_neg (by simp [hp])] at r
  refine st_if (fun h => by cases h) (fun _ => ?_)
  unfold restM at r
  (repeat (first | refine st_nil ?_ | refine st_fa ?_ | refine st_load1 ‹_› (by first | exact .head _ | exact .tail _ (.head _)) rfl ?_))
  refine hasPrefix_sp ?_
  refine st_if (fun hx => ?_) (fun hx => ?_)
  · rw [if_pos hx] at r
    have hle := (List.isPrefixOf_iff_prefix.1 hx).length_le
    have hle : 2 ≤ (blk l).length := hle
    (repeat (first | refine st_nil ?_ | refine st_fa ?_ | refine st_load1 ‹_› (by first | exact .head _ | exact .tail _ (.head _)) rfl ?_))
    refine st_cutr (by omega) (by omega) ?_
    refine asHex_sp _ fun h5 f5 => ?_
    have s5 := s4.call f5
    refine st_sne ?_
    refine st_if (fun hb => ?_) (fun hb => ?_) <;> simp only [za, zb, zc, zd, ze, zf, zg, zh, zi, u8i, zj, zk, zl] at hb
    · rw [if_pos (by exact hb)] at r
      (repeat (first | refine st_nil ?_ | refine st_fa ?_ | refine st_load1 ‹_› (by first | exact .head _ | exact .tail _ (.head _)) rfl ?_))
      refine st_cutr (by omega) (by omega) ?_
      (repeat (first | refine st_nil ?_ | refine st_fa ?_))
      refine st_store s5 (.tail .head) rfl rfl rfl (nle rfl) fun h6 s6 => ?_
      have s6 : St h [i] h6 [(q, true, .cells zE), (i, true, pO ((blk l).drop 2) D false)] := s6
      (repeat (first | refine st_nil ?_ | refine st_fa ?_ | refine st_load1 ‹_› (by first | exact .head _ | exact .tail _ (.head _)) rfl ?_))
      refine asHex_sp _ fun h7 f7 => ?_
      have s7 := s6.call f7
      refine numApart_sp 16 (by omega) (hexW ((blk l).drop 2)) (hexW_hex _) (hexW_len _) (s7.get (.tail _ (.head _))) ⟨fun x l' h8 hm f8 e8 => ?_, fun cs l' h8 hm f8 e8 hc ho => ?_⟩
      · have s8 := s7.call1 f8 e8 (.tail .head)
        refine st_put4 s8 zE_len (encE_len _) (encE_one _) .head fun h9 s9 => ?_
        refine st_get4 s9 (encE_len _) (.head _) ?_
        exact r.good _ _ _ hm s9.fr (s9.get (.tail _ (.head _)))
      · have s8 := s7.call1 f8 e8 (.tail .head)
        refine st_put4 s8 zE_len hc ho .head fun h9 s9 => ?_
        refine st_get4 s9 hc (.head _) ?_
        exact r.bad _ _ _ hm s9.fr (s9.get (.tail _ (.head _))) hc ho
    · rw [if_neg (by simpa [hexW] using hb)] at r
      exact dec_sp s5 r
  · rw [if_neg (by rw [hx]; simp)] at r
    exact dec_sp s4 r
theorem two_sp {one : PF} (ho : PSpec fn_expr_parser_one [] D one) (hs : Short one) : ∀ R, R ≤ 5 → PSpec fn_expr_parser_two [I ((5 - R : Nat) : Int)] D (twoM one R)
  | 0, _ => fun l h Q i e r => by
    refine expr_parser_two_ok _ _ _ _ ?_
    unfold expr_parser_two
    refine st_new (St.start1 e) fun q h1 s1 => ?_
    refine levels_sp ?_
    (repeat (first | refine st_lenL2 ?_ | refine st_eql ?_))
    refine st_if (fun _ => ?_) (fun hb => (by exfalso; first | (simp at hb; done) | (simp at hb; omega) | (revert hb; decide) | omega))
    refine ho l h1 _ i (s1.get (.tail _ (.head _))) ⟨fun x l' h2 hm f2 e2 => ?_, fun cs l' h2 hm f2 e2 hc ho => ?_⟩
    · have s2 := s1.call1 f2 e2 (.tail .head)
      refine st_put4 s2 zE_len (encE_len _) (encE_one _) .head fun h3 s3 => ?_
      refine st_get4 s3 (encE_len _) (.head _) ?_
      exact r.good _ _ _ hm s3.fr (s3.get (.tail _ (.head _)))
    · have s2 := s1.call1 f2 e2 (.tail .head)
      refine st_put4 s2 zE_len hc ho .head fun h3 s3 => ?_
      refine st_get4 s3 hc (.head _) ?_
      exact r.bad _ _ _ hm s3.fr (s3.get (.tail _ (.head _))) hc ho
  | R + 1, hR => fun l h Q i e r => by
    have ih := two_sp ho hs R (by omega)
    have ihs := twoM_short hs R (by omega)
    have hlv : 5 - (R + 1) = 4 - R := by omega
    have hnx : (((5 - (R + 1) : Nat) : Int) + 1) = ((5 - R : Nat) : Int) := by omega
    have hlv5 : 4 - R < levelsL.length := by show 4 - R < 5; omega
    have hmem : levelsL[4 - R] ∈ levelsL := by simp
    obtain ⟨hk1, hk2, hk3⟩ := levels_ok _ hmem
    have hks : (levelsL[4 - R]?).getD [] = levelsL[4 - R] := by simp [hlv5]
    generalize hkse : levelsL[4 - R] = ks at hk1 hk2 hk3 hks
    have RK : ∀ h', Row (fun k : Nat => [I (k : Nat)]) 1 h' (.full ks.length (ks.flatMap fun k => [I (k : Nat)])) ks := fun h' => Row.full (enc := fun k : Nat => [I (k : Nat)]) (fun _ => rfl) ks
    refine expr_parser_two_ok _ _ _ _ ?_
    unfold expr_parser_two
    refine st_new (St.start1 e) fun q h1 s1 => ?_
    refine levels_sp ?_
    (repeat (first | refine st_lenL2 ?_ | refine st_eql ?_))
    refine st_if (fun hb => absurd hb (by simp [levelsL]; omega)) (fun _ => ?_)
    refine st_add (by omega) ?_
    rw [hnx]
    have LV : ∀ {h' : AHeap} {K : AV → Prop}, (∀ p, Pt h' p [.full ks.length (ks.flatMap fun k => [I (k : Nat)])] → K p) → qIndexAddr 1 (.full levelsL.length (levelsL.flatMap kindsE)) (I ((5 - (R + 1) : Nat) : Int)) K := fun {h' K} k => by
      rw [hlv]
      refine (Row.full (h := h') (enc := kindsE) (fun _ => rfl) levelsL).idx (fun _ => rfl) hlv5 fun p t => k p ?_
      rw [hkse] at t; exact t
    refine ih l h1 _ i (s1.get (.tail _ (.head _))) ⟨fun x l1 h2 hm f2 e2 => ?_, fun cs l1 h2 hm f2 e2 hc ho2 => ?_⟩
    · have s2 := s1.call1 f2 e2 (.tail .head)
      have hm2 : twoM one (R + 1) l = loopM (twoM one R) ks l1.length x l1 := by
        conv => lhs; unfold twoM
        rw [hm, hks]
      rw [hm2] at r
      refine st_new s2 fun q2 h3 s3 => ?_
      refine st_put4 s3 zE_len (encE_len _) (encE_one _) .head fun h4 s4 => ?_
      refine levels_sp ?_
      refine LV (h' := h4) fun p t => ?_
      refine st_pload1 t ?_
      refine kind_sp ks hk2 hk3 (RK _) (s4.get (.tail _ (.tail _ (.head _)))) (lt_of_some (s4.get (i := i) (.tail _ (.tail _ (.head _))))) (fun h' _ => RK h') fun h5 f5 e5 => ?_
      have s5 := s4.call1 f5 e5 (.tail (.tail .head))
      clear s4 s3 s2 s1 f5 e5 f2 e2 t p
      refine st_loop (fun n vs h' => ∃ (cs : List AV) (k : Nat) (l2 : Str) (b : Bool), vs = [I (k : Nat)] ∧ cs.length = 4 ∧ cs.all AV.one = true ∧ St h [i] h' [(q2, true, .cells cs), (q, true, .cells zE), (i, true, pO l2 D b)] ∧
        ((b = false ∧ ∃ y l3, cs = encE y ∧ l3.length ≤ n ∧ kindM ks l3 = (k, l2) ∧ loopM (twoM one R) ks l1.length x l1 = loopM (twoM one R) ks n y l3) ∨ (b = true ∧ k = 0 ∧ loopM (twoM one R) ks l1.length x l1 = none))) l1.length
        ⟨encE x, (kindM ks l1).1, (kindM ks l1).2, false, rfl, encE_len _, encE_one _, s5, .inl ⟨rfl, x, l1, rfl, Nat.le_refl _, rfl, rfl⟩⟩ ?_
      rintro n vs h' ⟨cs, k, l2, b, rfl, hc, ho3, s6, hcase⟩
      unfold expr_parser_two_l19
      have fin : (b = false ∧ ∃ y, cs = encE y ∧ loopM (twoM one R) ks l1.length x l1 = some (y, l2)) ∨ (b = true ∧ loopM (twoM one R) ks l1.length x l1 = none) →
          qLoadA 4 (.ptr q2 0) h' fun t46 => qStore 4 (.ptr q 0) t46 h' fun h17 => qLoadA 4 (.ptr q 0) h17 fun r18 => Q r18 h17 := by
        intro hh
        refine st_get4 s6 hc (.head _) ?_
        refine st_put4 s6 zE_len hc ho3 (.tail .head) fun h8 s8 => ?_
        refine st_get4 s8 hc (.tail _ (.head _)) ?_
        rcases hh with ⟨rfl, y, rfl, he⟩ | ⟨rfl, he⟩
        · exact r.good _ _ _ he s8.fr (s8.get (.tail _ (.tail _ (.head _))))
        · exact r.bad _ _ _ he s8.fr (s8.get (.tail _ (.tail _ (.head _)))) hc ho3
      refine st_neq ?_
      refine st_if (fun hz => ?_) (fun hz => ?_) <;> simp only [za, zb, zc, zd, ze, zf, zg, zh, zi, u8i, zj, zk, zl] at hz
      · (repeat (first | refine st_nil ?_ | refine st_fa ?_ | refine st_not ?_ | refine st_load1 ‹_› (by first | exact .head _ | exact .tail _ (.tail _ (.head _))) rfl ?_))
        rcases hcase with ⟨rfl, y, l3, rfl, hl3, hkm, hlp⟩ | ⟨rfl, rfl, hno⟩
        · refine st_if (fun _ => ?_) (fun h => by cases h)
          have hk0 : k ≠ 0 := by omega
          obtain ⟨hl4, hl5⟩ := kindM_len ks hk1 l3
          rw [hkm] at hl4 hl5
          have hl5 := hl5 hk0
          simp only at hl5
          obtain ⟨n', rfl⟩ : ∃ m, n = m + 1 := ⟨n - 1, by omega⟩
          rw [loopM, hkm] at hlp
          simp only [if_neg hk0] at hlp
          refine st_get4 s6 (encE_len _) (.head _) ?_
          refine st_add (by omega) ?_
          rw [hnx]
          refine ih l2 h' _ i (s6.get (.tail _ (.tail _ (.head _)))) ⟨fun z l4 h7 hm3 f7 e7 => ?_, fun cs2 l4 h7 hm3 f7 e7 hc2 ho4 => ?_⟩
          · have s7 := s6.call1 f7 e7 (.tail (.tail .head))
            rw [hm3] at hlp
            refine ⟨st_get4 s7 (encE_len _) (.head _) rfl, ?_⟩
            refine st_buildS rfl (by simp [AV.isTup, AV.cells, encE_len]) ?_
            rw [show ([AV.agg (encE y), AV.agg (encE z)].flatMap fun x => x.cells) = encE y ++ encE z by simp [AV.cells]]
            (repeat refine st_build rfl ?_)
            refine st_put4 s7 (encE_len _) rfl rfl .head fun h8 s8 => ?_
            refine levels_sp ?_
            refine LV (h' := h8) fun p t => ?_
            refine st_pload1 t ?_
            refine kind_sp ks hk2 hk3 (RK _) (s8.get (.tail _ (.tail _ (.head _)))) (lt_of_some (s8.get (i := i) (.tail _ (.tail _ (.head _))))) (fun h' _ => RK h') fun h9 f9 e9 => ?_
            have s9 := s8.call1 f9 e9 (.tail (.tail .head))
            have hsh := ihs _ _ _ hm3
            exact ⟨n', by omega, encE (.bin k y z), _, _, false, rfl, rfl, rfl, s9, .inl ⟨rfl, .bin k y z, l4, rfl, by omega, rfl, hlp⟩⟩
          · have s7 := s6.call1 f7 e7 (.tail (.tail .head))
            rw [hm3] at hlp
            refine ⟨st_get4 s7 (encE_len _) (.head _) rfl, ?_⟩
            refine st_buildS rfl (by simp [AV.isTup, AV.cells, encE_len, hc2]) ?_
            (repeat refine st_build rfl ?_)
            refine st_put4 s7 (encE_len _) rfl rfl .head fun h8 s8 => ?_
            refine levels_sp ?_
            refine LV (h' := h8) fun p t => ?_
            refine st_pload1 t ?_
            refine kindBad_sp ks hk2 hk3 (RK _) (s8.get (.tail _ (.tail _ (.head _)))) (fun h' _ => RK h') fun l5 h9 f9 e9 => ?_
            have s9 := s8.call1 f9 e9 (.tail (.tail .head))
            exact ⟨n', by omega, _, 0, _, true, rfl, rfl, rfl, s9, .inr ⟨rfl, rfl, hlp⟩⟩
        · exact absurd hz (by simp)
      · have hk0 : k = 0 := by omega
        subst hk0
        refine fin ?_
        rcases hcase with ⟨rfl, y, l3, rfl, hl3, hkm, hlp⟩ | ⟨rfl, _, hno⟩
        · refine .inl ⟨rfl, y, rfl, ?_⟩
          rw [hlp]
          cases n with
          | zero => rw [loopM, hkm]; simp
          | succ n => rw [loopM, hkm]; simp
        · exact .inr ⟨rfl, hno⟩
    · have s2 := s1.call1 f2 e2 (.tail .head)
      have hm2 : twoM one (R + 1) l = none := by
        conv => lhs; unfold twoM
        rw [hm]
      rw [hm2] at r
      refine st_new s2 fun q2 h3 s3 => ?_
      refine st_put4 s3 zE_len hc ho2 .head fun h4 s4 => ?_
      refine levels_sp ?_
      refine LV (h' := h4) fun p t => ?_
      refine st_pload1 t ?_
      refine kindBad_sp ks hk2 hk3 (RK _) (s4.get (.tail _ (.tail _ (.head _)))) (fun h' _ => RK h') fun l5 h5 f5 e5 => ?_
      have s5 := s4.call1 f5 e5 (.tail (.tail .head))
      refine st_loop (fun n vs h' => vs = [I 0] ∧ h' = h5) 0 ⟨rfl, rfl⟩ ?_
      rintro n vs h' ⟨rfl, rfl⟩
      unfold expr_parser_two_l19
      refine st_neq ?_
      refine st_if (fun hb => absurd hb (by simp)) (fun _ => ?_)
      refine st_get4 s5 hc (.head _) ?_
      refine st_put4 s5 zE_len hc ho2 (.tail .head) fun h8 s8 => ?_
      refine st_get4 s8 hc (.tail _ (.head _)) ?_
      exact r.bad _ _ _ rfl s8.fr (s8.get (.tail _ (.tail _ (.head _)))) hc ho2
end
end
end
end Go.Proofs.YtiddcelpooenfaaGreatDoor.AL
