import Derived.Test.YtiddcelpooenfaaGreatDoorAA11toSC
import Derived.Test.YtiddcelpooenfaaGreatDoorF9
import Derived.KernelRfl
import Derived.Test.YtiddcelpooenfaaGreatDoorAL32toAL34
set_option linter.all false
set_option autoImplicit true
set_option relaxedAutoImplicit true
set_option maxRecDepth 100000
namespace Go.Proofs.YtiddcelpooenfaaGreatDoor.AL
noncomputable section
def nameE (k : Str) (e : En) : Prop := (e.x.2.lab = k ∧ e.x.2.lab ≠ []) ∨ (e.x.2.kind = 9 ∧ e.x.2.text = k)
theorem labF_out {k : Str} : ∀ {es : List En} {f : Str → Option Int}, (∀ e ∈ es, ¬ nameE k e) → labF f es k = f k
  | [], f, _ => rfl
  | e :: es, f, h => by
    show labF (labS f e) es k = f k
    rw [labF_out fun x hx => h x (.tail _ hx)]
    unfold labS
    split
    · rename_i c
      have := h e (.head _)
      unfold upd
      rw [if_neg fun e' => this (.inl ⟨e'.symm, c⟩)]
    · rfl
theorem eqStep_out {k : Str} {st : EqS} {e : En} (h : ¬ nameE k e) : (eqStep st e).1 k = st.1 k := by
  unfold eqStep
  split
  · rename_i c
    show upd st.1 e.x.2.text _ k = st.1 k
    unfold upd
    rw [if_neg fun e' => h (.inr ⟨c.1, e'.symm⟩)]
  · rfl
theorem eqRound_out {k : Str} : ∀ {es : List En} {st : EqS}, (∀ e ∈ es, ¬ nameE k e) → (es.foldl eqStep st).1 k = st.1 k
  | [], st, _ => rfl
  | e :: es, st, h => by
    rw [List.foldl_cons, eqRound_out fun x hx => h x (.tail _ hx), eqStep_out (h e (.head _))]
theorem eqFix_out {k : Str} {es : List En} (h : ∀ e ∈ es, ¬ nameE k e) : ∀ (n : Nat) (f : Str → Option Int), eqFix es n f k = f k
  | 0, f => rfl
  | n + 1, f => by
    unfold eqFix
    split
    · rw [eqFix_out h n, eqRound, eqRound_out h]
    · rw [eqRound, eqRound_out h]
theorem placeL_x (f : Str → Option Int) (P : RS → Prop) : ∀ (es : List En) (st : List En × Int), (∀ e ∈ st.1, P e.x.2) → (∀ e ∈ es, P e.x.2) → ∀ e ∈ (es.foldl (placeS f) st).1, P e.x.2
  | [], st, h1, _ => h1
  | e :: es, st, h1, h2 => by
    rw [List.foldl_cons]
    refine placeL_x f P es _ ?_ fun x hx => h2 x (.tail _ hx)
    intro x hx
    unfold placeS at hx
    simp only [List.mem_append, List.mem_singleton] at hx
    rcases hx with hx | hx
    · exact h1 x hx
    · subst hx; exact h2 e (.head _)
theorem layM_out {k : Str} {f : Str → Option Int} {es : List En} (h : ∀ e ∈ es, ¬ nameE k e) : (layM f es).2.1 k = f k := by
  have hp : ∀ e ∈ (placeL f es).1, ¬ nameE k e := placeL_x f (fun x => ¬ ((x.lab = k ∧ x.lab ≠ []) ∨ (x.kind = 9 ∧ x.text = k))) es ([], 0) (by simp) h
  show eqFix (placeL f es).1 (es.length + 1) (labF f (placeL f es).1) k = f k
  rw [eqFix_out hp, labF_out hp]
theorem plFix_out {k : Str} {f : Str → Option Int} : ∀ (n : Nat) {es : List En}, (∀ e ∈ es, ¬ nameE k e) → (plFix f n es).2.1 k = f k
  | 0, es, h => layM_out h
  | n + 1, es, h => by
    unfold plFix
    split
    · refine plFix_out n ?_
      have hp : ∀ e ∈ (placeL f es).1, ¬ nameE k e := placeL_x f (fun x => ¬ ((x.lab = k ∧ x.lab ≠ []) ∨ (x.kind = 9 ∧ x.text = k))) es ([], 0) (by simp) h
      intro e he
      obtain ⟨e0, h0, rfl⟩ := List.mem_map.1 he
      have := hp e0 h0
      unfold nameE at this ⊢
      have hx : (growE (layM f es).2.1 e0).x = e0.x := by unfold growE; split <;> rfl
      rw [hx]; exact this
    · exact layM_out h
theorem madeP_out {k : Str} {frags : List Fg} {syms : List Sy} (h : ∀ e ∈ readE frags, ¬ nameE k e) : (madeP frags syms).2.1 k = symF syms k := plFix_out _ h
theorem one_kv {kv : KV} {x : Str} {v : Int} (nd : (keysA kv).Nodup) (hx : lookA x kv = some v) (ho : ∀ k, k ≠ x → lookA k kv = none) : kv = [(x, v)] := by
  have hm := (lookA_mem nd).1 hx
  have ha : ∀ p ∈ kv, p = (x, v) := fun p hp => by
    have h1 := (lookA_mem (k := p.1) (v := p.2) nd).2 hp
    by_cases hk : p.1 = x
    · rw [hk, hx] at h1
      cases h1
      exact Prod.ext hk rfl
    · rw [ho _ hk] at h1; cases h1
  cases kv with
  | nil => cases hm
  | cons a l =>
    cases l with
    | nil => rw [ha a (.head _)]
    | cons b l =>
      have h1 := ha a (.head _); have h2 := ha b (.tail _ (.head _))
      subst h1; subst h2
      simp [keysA] at nd
section
variable [Tabs]
variable {h0 h : AHeap} {M : List Nat} {L R R' : Own} {K : AV → Prop} {KH : QT} {KS' : AHeap → Prop} {Q : QT}
def LenOk : Prop := ∀ (h : AHeap) (Q : QT), Q (I 1) h → C fn_math_bits_Len [.lit (.int .u64 1)] h Q
theorem sortOne_sp (hN : LenOk) {v cf : AV} {cs : List AV} (r : Rd h 2 v 1 cs) (k : Q (.tup []) h) : C fn_slices_SortFunc__api_Sym_api_Sym [v, cf] h Q := by
  refine slices_SortFunc__api_Sym_api_Sym_ok _ _ _ _ ?_
  unfold slices_SortFunc__api_Sym_api_Sym
  refine st_rlen r ?_
  refine st_conv ?_
  rw [show IntKind.u64.wrap ((1 : Nat) : Int) = 1 from rfl]
  refine hN _ _ ?_
  refine slices_pdqsortCmpFunc_api_Sym_ok _ _ _ _ _ _ _ ?_
  unfold slices_pdqsortCmpFunc_api_Sym
  refine st_loopX 2 (lx_go ?_)
  unfold slices_pdqsortCmpFunc_api_Sym_l19
  refine st_sub (by decide) (st_leq (st_if (fun _ => ?_) (fun h => absurd h (by decide))))
  refine slices_insertionSortCmpFunc_api_Sym_ok _ _ _ _ _ _ ?_
  unfold slices_insertionSortCmpFunc_api_Sym
  refine st_add (by decide) ?_
  refine st_loopX 2 (lx_go ?_)
  unfold slices_insertionSortCmpFunc_api_Sym_l6
  refine st_lss (st_if (fun h => absurd h (by decide)) (fun _ => ?_))
  exact k
theorem symbols1_sp (hN : LenOk) (hF : FieldsOk) (hI : IndexOk) (hA : AtoiOk) (hL : LdexpOk) {frags : List Fg} {syms : List Sy} {fv sv : AV} (rf : Row frE 2 h fv frags) (rs : Row syE 2 h sv syms) (hw : Few frags syms) {x : Str} {v : Int}
    (hg : madeD frags syms = []) (hx : (madeP frags syms).2.1 x = some v) (ho : ∀ k, k ≠ x → (madeP frags syms).2.1 k = none) (k : ∀ h', Fr [] h h' → Q (.tup [.snap 1 [T x, I v], B true]) h') : C fn_asm_Symbols [fv, sv] h Q := by
  refine asm_Symbols_ok _ _ _ _ ?_
  unfold asm_Symbols
  refine made_sp hF hI hA hL rf rs hw (fun hne => (hne hg).elim) (fun hnil i js l lv dv jk kvk kvs EL ED R h1 hel hwl nds hfs ndk hfk s1 => ?_)
  have hk := one_kv ndk (by rw [hfk]; exact hx) (fun k hk => by rw [hfk]; exact ho k hk)
  subst hk
  have si := St.startr s1.src
  refine st_nil (st_fa (st_load1 si (.head _) rfl ?_))
  refine st_rlen (s1.ad.rd s1.st) ?_
  refine st_gtr ?_
  refine st_if (fun h => by simp at h) (fun _ => ?_)
  refine st_nil (st_fa (st_load1 si (.head _) rfl ?_))
  clear si
  have e1 : h1[jk]? = some (mapO [(x, v)]) := s1.st.get (SS.memR (.head _))
  have sk := St.startr e1
  refine st_rangeM sk e1 fun it h2 s2 => ?_
  refine st_loopX 4 (lx_go ?_)
  unfold asm_Symbols_l7
  refine st_nextM s2 (s2.get (.tail _ (.head _))) (fun hall => absurd (hall 0 Nat.zero_lt_one) (by simp)) (fun q hq hnq h3 s3 => ?_)
  have hq0 : q = 0 := by simp at hq; exact hq
  subst hq0
  refine st_ext rfl (st_if (fun _ => ?_) (fun h => by cases h))
  refine st_entryM s3 (b := true) (i := it) (.head _) (s3.get (.tail _ (.head _))) hq ?_
  refine st_ext rfl (st_ext rfl (st_build rfl (st_buildS rfl rfl ?_)))
  refine (AccE.none 2).app (L := (it, true, iterO jk [(x, v)] ([] ++ [0])) :: (jk, false, mapO [(x, v)]) :: []) s3 (xs := [T x, I v]) (m := 1) (Rd.full rfl) rfl (by decide) fun w E h4 a4 s4 => ?_
  have e4 : h4[jk]? = some (mapO [(x, v)]) := s4.get (List.mem_append_right _ (.tail _ (.head _)))
  refine lx_next (lx_go ?_)
  refine st_nextM (s4.perm List.perm_middle) e4 (fun hall => ?_) (fun q hq hnq h5 s5 => ?_)
  · refine st_ext rfl (st_if (fun h => by cases h) (fun _ => ?_))
    refine sortOne_sp hN (a4.rd s4) ?_
    refine clone_api_Sym_sp (by decide) (a4.rd s4) fun h5 f5 => ?_
    exact k h5 (s1.st.call (s4.call f5).fr).fr
  · have hq0 : q = 0 := by simp at hq; exact hq
    subst hq0
    exact absurd hnq (by simp)
end
end
end Go.Proofs.YtiddcelpooenfaaGreatDoor.AL

namespace Go.Proofs.YtiddcelpooenfaaGreatDoor.AL
noncomputable section
def digM : Nat → Nat → Str
  | 0, _ => []
  | f + 1, n => if n < 10 then [UInt8.ofNat (48 + n)] else digM f (n / 10) ++ digM f (n % 10)
theorem digM_len : ∀ f n, (digM f n).length ≤ 2 ^ f
  | 0, _ => by simp [digM]
  | f + 1, n => by
    have h1 := digM_len f (n / 10)
    have h2 := digM_len f (n % 10)
    have : 1 ≤ 2 ^ f := Nat.one_le_two_pow
    unfold digM
    split
    · simp [Nat.pow_succ]; omega
    · rw [List.length_append, Nat.pow_succ]; omega
section
variable [Tabs]
variable {h : AHeap} {Q : QT} {K : AV → Prop}
theorem st_bytes1 {c : Int} (k : K (T [UInt8.ofNat c.toNat])) : qBytesStr (.full 1 [.lit (.int .u8 c)]) h K := ⟨k⟩
theorem law5_within_sp {a n : Int} (hn : 0 < n) (hn2 : n ≤ 1000000000000000000) (ha : -9223372036854775808 ≤ a ∧ a ≤ 9223372036854775807) (k : Q (I (a % n)) h) : C fn_law5_within [I a, I n] h Q := by
  refine law5_within_ok _ _ _ _ ?_
  unfold law5_within
  refine st_rem (by omega) ?_
  have h1 := Int.tmod_lt_of_pos a hn
  have h0 := Int.emod_nonneg a (show n ≠ 0 by omega)
  have h4 := Int.emod_lt_of_pos a hn
  have h3 : (a.tmod n = a % n ∧ 0 ≤ a.tmod n) ∨ (a.tmod n = a % n - n ∧ a.tmod n < 0) := by
    rw [Int.tmod_eq_emod]
    have hab : (n.natAbs : Int) = n := by omega
    split
    · exact .inl ⟨by omega, by omega⟩
    · right; rw [hab]; exact ⟨rfl, by omega⟩
  refine st_lss ?_
  refine st_if (fun hb => ?_) (fun hb => ?_) <;> simp only [za, zb, zc, zd, ze, zf, zg, zh, zi, u8i, zj, zk, zl] at hb
  · refine st_add (by omega) ?_
    rw [show a.tmod n + n = a % n by omega]
    exact k
  · rw [← show a.tmod n = a % n by omega] at k
    exact k
theorem digits_sp : ∀ (f n : Nat), n < 10 ^ (f + 1) → f ≤ 9 → ∀ (h : AHeap) (Q : QT), (∀ h', Fr [] h h' → Q (T (digM (f + 1) n)) h') → C fn_ref3_Digits [I (n : Nat)] h Q
  | f, n, hn, hf, h, Q, k => by
    refine ref3_Digits_ok _ _ _ ?_
    unfold ref3_Digits
    have hp : (10 : Nat) ^ (f + 1) ≤ 10 ^ 10 := Nat.pow_le_pow_right (by decide) (by omega)
    have hpw : (10 : Nat) ^ (f + 1) = 10 ^ f * 10 := Nat.pow_succ ..
    unfold digM at k
    refine st_lss ?_
    refine st_if (fun hb => (by exfalso; first | (simp at hb; done) | (simp at hb; omega) | (revert hb; decide) | omega)) (fun _ => ?_)
    refine st_geq ?_
    refine st_if (fun hb => ?_) (fun hb => ?_) <;> simp only [za, zb, zc, zd, ze, zf, zg, zh, zi, u8i, zj, zk, zl] at hb
    · have hb : 10 ≤ n := by omega
      rw [if_neg (by omega)] at k
      obtain ⟨f, rfl⟩ : ∃ g, f = g + 1 := by
        cases f with
        | zero => simp at hn; omega
        | succ g => exact ⟨g, rfl⟩
      refine st_quo (by decide) ?_ ?_
      · rw [Int.tdiv_eq_ediv_of_nonneg (by omega)]; omega
      rw [Int.tdiv_eq_ediv_of_nonneg (by omega), show ((n : Nat) : Int) / 10 = ((n / 10 : Nat) : Int) by omega]
      refine digits_sp f (n / 10) (by omega) (by omega) h _ fun h1 f1 => ?_
      refine st_rem (by decide) ?_
      rw [Int.tmod_eq_emod_of_nonneg (by omega), show ((n : Nat) : Int) % 10 = ((n % 10 : Nat) : Int) by omega]
      have h10 : 10 ≤ 10 ^ (f + 1) := by rw [Nat.pow_succ]; have := Nat.one_le_pow f 10 (by decide); omega
      refine digits_sp f (n % 10) (by omega) (by omega) h1 _ fun h2 f2 => ?_
      have l1 := digM_len (f + 1) (n / 10)
      have l2 := digM_len (f + 1) (n % 10)
      have l3 : 2 ^ (f + 1) ≤ 2 ^ 10 := Nat.pow_le_pow_right (by decide) (by omega)
      refine st_cat (by omega) ?_
      exact k h2 (f1.trans f2 (by simp))
    · have hb : n < 10 := by omega
      rw [if_pos hb] at k
      refine st_add (by omega) ?_
      refine st_conv ?_
      refine st_buildS rfl rfl ?_
      have hw : IntKind.u8.wrap (48 + (n : Nat)) = ((48 + n : Nat) : Int) := by
        have : n = 0 ∨ n = 1 ∨ n = 2 ∨ n = 3 ∨ n = 4 ∨ n = 5 ∨ n = 6 ∨ n = 7 ∨ n = 8 ∨ n = 9 := by omega
        rcases this with h | h | h | h | h | h | h | h | h | h <;> subst h <;> decide
      rw [hw]
      refine st_bytes1 ?_
      exact k h (Fr.refl _ _)
end
end
end Go.Proofs.YtiddcelpooenfaaGreatDoor.AL
namespace Go.Proofs.YtiddcelpooenfaaGreatDoor.AL
noncomputable section
def okEB : Ex → Bool
  | .neg e => okEB e
  | .bin k a b => (Nat.ble 5 k && Nat.ble k 11) && (okEB a && okEB b)
  | _ => true
theorem okEB_ok : ∀ {e : Ex}, okEB e = true → okE e
  | .none, _ => trivial
  | .num _, _ => trivial
  | .name _, _ => trivial
  | .here, _ => trivial
  | .neg e, h => okEB_ok (e := e) h
  | .bin k a b, h => by
    simp only [okEB, Bool.and_eq_true] at h
    exact ⟨⟨Nat.le_of_ble_eq_true h.1.1, Nat.le_of_ble_eq_true h.1.2⟩, okEB_ok h.2.1, okEB_ok h.2.2⟩
def impB (a b : Bool) : Bool := match a with | true => b | false => true
theorem impB_ok {a b : Bool} (h : impB a b = true) (ha : a = true) : b = true := by subst ha; exact h
def wfSB (x : RS) : Bool :=
  impB (Nat.beq x.kind 1) (Nat.ble (x.op + 1) tbl.length && Nat.ble (flds (opKinds x.op)).length x.args.length) &&
  (impB (Nat.beq x.kind 2) (Nat.ble (x.op + 1) 3 && (Nat.ble (flds (opKinds (shortOp x.op))).length x.args.length && Nat.ble (flds (opKinds (greatOp x.op))).length x.args.length)) &&
  (impB (Nat.ble 3 x.kind) (impB (!Nat.beq x.kind 6) (!x.args.isEmpty)) &&
  (Nat.ble x.kind 9 && (Nat.ble x.args.length 999999999 && (Nat.ble x.text.length 999999999 &&
  x.args.all fun a => okEB a.e && (Nat.ble (sizeE a.e) 999999 && decide (a.reg < 1000)))))))
theorem wfSB_ok {x : RS} (h : wfSB x = true) : WfS x := by
  unfold wfSB at h
  simp only [Bool.and_eq_true] at h
  obtain ⟨h1, h2, h3, h4, h5, h6, h7⟩ := h
  refine ⟨fun hk => ?_, fun hk => ?_, fun hk hn => ?_, Nat.le_of_ble_eq_true h4, by have := Nat.le_of_ble_eq_true h5; omega, by have := Nat.le_of_ble_eq_true h6; omega, fun a ha => ?_⟩
  · have := impB_ok h1 (by rw [hk]; rfl)
    simp only [Bool.and_eq_true] at this
    exact ⟨Nat.le_of_ble_eq_true this.1, Nat.le_of_ble_eq_true this.2⟩
  · have := impB_ok h2 (by rw [hk]; rfl)
    simp only [Bool.and_eq_true] at this
    exact ⟨Nat.le_of_ble_eq_true this.1, Nat.le_of_ble_eq_true this.2.1, Nat.le_of_ble_eq_true this.2.2⟩
  · have := impB_ok (impB_ok h3 (Nat.ble_eq_true_of_le hk)) (by
      cases hb : Nat.beq x.kind 6 with
      | true => exact (hn (Nat.eq_of_beq_eq_true hb)).elim
      | false => rfl)
    intro he; rw [he] at this; cases this
  · have := List.all_eq_true.1 h7 a ha
    simp only [Bool.and_eq_true, decide_eq_true_eq] at this
    exact ⟨okEB_ok this.1, by have := Nat.le_of_ble_eq_true this.2.1; omega, this.2.2⟩
section
variable [Tabs]
def fewB (frags : List Fg) (syms : List Sy) : Bool :=
  Nat.ble frags.length 999 && (Nat.ble syms.length 999 && (Nat.ble (readE frags).length 99999 && (Nat.ble (readD frags).length 999999 && ((frags.all fun x => Nat.ble x.2.length 999999) && (readE frags).all fun e => wfSB e.x.2))))
theorem fewB_ok {frags : List Fg} {syms : List Sy} (h : fewB frags syms = true) : Few frags syms := by
  unfold fewB at h
  simp only [Bool.and_eq_true] at h
  obtain ⟨h1, h2, h3, h4, h5, h6⟩ := h
  refine ⟨by have := Nat.le_of_ble_eq_true h1; omega, by have := Nat.le_of_ble_eq_true h2; omega, by have := Nat.le_of_ble_eq_true h3; omega, by have := Nat.le_of_ble_eq_true h4; omega, fun x hx => ?_, fun e he => wfSB_ok (List.all_eq_true.1 h6 e he)⟩
  have := Nat.le_of_ble_eq_true (List.all_eq_true.1 h5 x hx); omega
variable {h : AHeap} {Q : QT} {K : AV → Prop}
abbrev s_go : Str := [103, 111, 58, 32, 98, 32, 103, 111]
abbrev s_gok : Str := [103, 111, 58, 32, 98, 32, 103, 111, 10, 46, 98, 121, 116, 101, 32, 107]
theorem known1 : (fewB [] [] && (madeD [] []).isEmpty && (imageM [] []).isEmpty) = true := by kernel_rfl
theorem known2a : fewB [([97], s_gok)] [([107], 7)] = true := by kernel_rfl
theorem known2b : madeD [([97], s_gok)] [([107], 7)] = [] := by kernel_rfl
theorem known2c : imageM [([97], s_gok)] [([107], 7)] = [232, 0, 7] := by kernel_rfl
theorem known3a : fewB [([97], [110, 111, 112])] [] = true := by kernel_rfl
theorem known3b : madeD [([97], [110, 111, 112])] [] = [([97], 1, 1)] := by kernel_rfl
theorem known4a : fewB [([97], s_go)] [] = true := by kernel_rfl
theorem known4b : madeD [([97], s_go)] [] = [] := by kernel_rfl
theorem known4c : grownM [([97], s_go)] [] = [2] := by kernel_rfl
theorem law5_known_sp (hF : FieldsOk) (hI : IndexOk) (hA : AtoiOk) (hL : LdexpOk) (k : ∀ h', Fr [] h h' → Q (B true) h') : C fn_law5_known [] h Q := by
  refine law5_known_ok _ _ ?_
  unfold law5_known
  have k1 := known1
  simp only [Bool.and_eq_true, List.isEmpty_iff] at k1
  refine assemble_sp hF hI hA hL (frags := []) (syms := []) .nil .nil (fewB_ok k1.1.1) (fun hn => (hn k1.1.2).elim) fun _ h1 f1 => ?_
  rw [k1.2]
  refine st_ext rfl (st_ext rfl (st_build rfl (st_buildS rfl rfl (st_build rfl (st_buildS rfl rfl ?_)))))
  refine assemble_sp hF hI hA hL (frags := [([97], s_gok)]) (syms := [([107], 7)]) (Row.full (enc := frE) (fun _ => rfl) [([97], s_gok)]) (Row.full (enc := syE) (fun _ => rfl) [([107], 7)]) (fewB_ok known2a) (fun hn => (hn known2b).elim) fun _ h2 f2 => ?_
  rw [known2c]
  refine st_ext rfl (st_ext rfl (st_build rfl (st_buildS rfl rfl ?_)))
  refine assemble_sp hF hI hA hL (frags := [([97], [110, 111, 112])]) (syms := []) (Row.full (enc := frE) (fun _ => rfl) [([97], [110, 111, 112])]) .nil (fewB_ok known3a) (fun _ h3 f3 => ?_) (fun hn => by rw [known3b] at hn; cases hn)
  rw [known3b]
  refine st_ext rfl (st_ext rfl (st_build rfl (st_buildS rfl rfl ?_)))
  refine grown_sp hF hI hA hL (frags := [([97], s_go)]) (syms := []) (Row.full (enc := frE) (fun _ => rfl) [([97], s_go)]) .nil (fewB_ok known4a) (fun hn => (hn known4b).elim) fun _ h4 f4 => ?_
  rw [known4c]
  refine st_ext rfl (st_ext rfl ?_)
  refine st_lenL1 (st_eql (st_if (fun _ => ?_) (fun h => by cases h)))
  refine st_lenL2 (st_eql (st_if (fun _ => ?_) (fun h => by cases h)))
  refine st_lenL2 (st_eql (st_if (fun _ => ?_) (fun h => by cases h)))
  refine st_lenL1 (st_eql (st_if (fun _ => ?_) (fun h => by cases h)))
  have rb : Row bE 1 h4 (.snap ([232, 0, 7] : List Int).length (([232, 0, 7] : List Int).flatMap bE)) [232, 0, 7] := Row.snap (enc := bE) (fun _ => rfl) _
  refine rb.idx (j := 0) (fun _ => rfl) (by decide) fun p t => ?_
  refine st_pload1 t (st_eql (st_if (fun _ => ?_) (fun h => by cases h)))
  refine rb.idx (j := 2) (fun _ => rfl) (by decide) fun p t => ?_
  refine st_pload1 t (st_eql (st_if (fun _ => ?_) (fun h => by cases h)))
  have rd : Row dE 3 h4 (.snap ([([97], 1, 1)] : List Dg).length (([([97], 1, 1)] : List Dg).flatMap dE)) [([97], 1, 1)] := Row.snap (enc := dE) (fun _ => rfl) _
  refine st_lenL1 (st_eql (st_if (fun _ => ?_) (fun h => by cases h)))
  refine rd.idx (j := 0) (fun _ => rfl) (by decide) fun p t => ?_
  refine st_pfa t (by decide) fun p2 t2 => ?_
  refine st_pload1 t2 (st_eql (st_if (fun _ => ?_) (fun h => by cases h)))
  refine st_if (fun _ => ?_) (fun h => by cases h)
  refine st_lenL1 (st_eql (st_if (fun _ => ?_) (fun h => by cases h)))
  have rg : Row iE 1 h4 (.snap ([2] : List Int).length (([2] : List Int).flatMap iE)) [2] := Row.snap (enc := iE) (fun _ => rfl) _
  refine rg.idx (j := 0) (fun _ => rfl) (by decide) fun p t => ?_
  refine st_pload1 t (st_eql ?_)
  exact k h4 (((f1.trans f2 (by simp)).trans f3 (by simp)).trans f4 (by simp))
end
end
end Go.Proofs.YtiddcelpooenfaaGreatDoor.AL
namespace Go.Proofs.YtiddcelpooenfaaGreatDoor.AL
noncomputable section
def atF : Nat → Nat → Nat → Nat
  | 0, at_, _ => at_
  | f + 1, at_, a => if at_ % a = 0 then at_ else atF f (at_ + 1) a
def atM (k a : Nat) : Nat := atF 16 (k + 1) a
section
variable [Tabs]
def alnSrc (k a : Nat) : Str := ((([46, 115, 112, 97, 99, 101, 32] ++ digM 3 k) ++ [10, 46, 98, 121, 116, 101, 32, 50, 53, 53, 10, 46, 97, 108, 105, 103, 110, 32]) ++ digM 3 a) ++ [10, 120, 58, 32, 46, 98, 121, 116, 101, 32, 50, 53, 52]
def alnImg (k a : Nat) : List Int := (List.range (atM k a + 1)).map fun i => if i = k then 255 else if i = atM k a then 254 else 0
def sameL : List Int → List Int → Bool
  | [], [] => true
  | a :: x, b :: y => decide (a = b) && sameL x y
  | _, _ => false
theorem sameL_ok : ∀ {x y : List Int}, sameL x y = true → x = y
  | [], [], _ => rfl
  | a :: x, b :: y, h => by
    simp only [sameL, Bool.and_eq_true, decide_eq_true_eq] at h
    rw [h.1, sameL_ok h.2]
  | [], _ :: _, h => by simp [sameL] at h
  | _ :: _, [], h => by simp [sameL] at h
def alnB (k a : Nat) : Bool :=
  fewB [([97], alnSrc k a)] [] && ((madeD [([97], alnSrc k a)] []).isEmpty && (((readE [([97], alnSrc k a)]).all fun e => Nat.ble e.x.2.kind 8 && (decide (e.x.2.lab = []) || decide (e.x.2.lab = [120]))) &&
  (decide ((madeP [([97], alnSrc k a)] []).2.1 [120] = some (atM k a : Int)) && (sameL (imageM [([97], alnSrc k a)] []) (alnImg k a) && (decide (atM k a % a = 0) && (decide (k < atM k a) && decide (atM k a < 1000)))))))
def alnAll (s n a : Nat) : Bool := (List.range n).all fun i => alnB (s + i) a
end
end
end Go.Proofs.YtiddcelpooenfaaGreatDoor.AL
namespace Go.Proofs.YtiddcelpooenfaaGreatDoor.AL
noncomputable section
section
variable [Tabs]
theorem aln_1a : alnAll 0 30 1 = true := by kernel_rfl
theorem aln_1b : alnAll 30 30 1 = true := by kernel_rfl
end
end
end Go.Proofs.YtiddcelpooenfaaGreatDoor.AL
namespace Go.Proofs.YtiddcelpooenfaaGreatDoor.AL
noncomputable section
section
variable [Tabs]
theorem aln_2a : alnAll 0 30 2 = true := by kernel_rfl
theorem aln_2b : alnAll 30 30 2 = true := by kernel_rfl
end
end
end Go.Proofs.YtiddcelpooenfaaGreatDoor.AL
namespace Go.Proofs.YtiddcelpooenfaaGreatDoor.AL
noncomputable section
section
variable [Tabs]
theorem aln_4a : alnAll 0 30 4 = true := by kernel_rfl
theorem aln_4b : alnAll 30 30 4 = true := by kernel_rfl
end
end
end Go.Proofs.YtiddcelpooenfaaGreatDoor.AL
namespace Go.Proofs.YtiddcelpooenfaaGreatDoor.AL
noncomputable section
section
variable [Tabs]
theorem aln_8a : alnAll 0 30 8 = true := by kernel_rfl
theorem aln_8b : alnAll 30 30 8 = true := by kernel_rfl
end
end
end Go.Proofs.YtiddcelpooenfaaGreatDoor.AL
namespace Go.Proofs.YtiddcelpooenfaaGreatDoor.AL
noncomputable section
section
variable [Tabs]
theorem aln_16a : alnAll 0 30 16 = true := by kernel_rfl
theorem aln_16b : alnAll 30 30 16 = true := by kernel_rfl
end
end
end Go.Proofs.YtiddcelpooenfaaGreatDoor.AL
namespace Go.Proofs.YtiddcelpooenfaaGreatDoor.AL
noncomputable section
theorem atF_step {f at_ a : Nat} (h : ¬ at_ % a = 0) : atF (f + 1) at_ a = atF f (at_ + 1) a := by
  conv => lhs; unfold atF
  rw [if_neg h]
theorem atF_done : ∀ {f at_ a : Nat}, at_ % a = 0 → atF f at_ a = at_
  | 0, _, _, _ => rfl
  | f + 1, at_, a, h => by unfold atF; rw [if_pos h]
section
variable [Tabs]
variable {h : AHeap} {Q : QT} {K : AV → Prop}
abbrev alnA : List Int := [1, 2, 4, 8, 16]
theorem aln_at {k : Nat} (hk : k < 60) {a : Nat} (h1 : alnAll 0 30 a = true) (h2 : alnAll 30 30 a = true) : alnB k a = true := by
  by_cases h : k < 30
  · have := List.all_eq_true.1 h1 k (List.mem_range.2 h)
    rwa [Nat.zero_add] at this
  · have := List.all_eq_true.1 h2 (k - 30) (List.mem_range.2 (by omega))
    rwa [show 30 + (k - 30) = k by omega] at this
theorem aln_all {k : Nat} (hk : k < 60) {m : Nat} (hm : m < 5) : ∃ a : Nat, alnA[m]? = some (a : Int) ∧ 1 ≤ a ∧ a ≤ 16 ∧ alnB k a = true := by
  rcases (show m = 0 ∨ m = 1 ∨ m = 2 ∨ m = 3 ∨ m = 4 by omega) with h | h | h | h | h <;> subst h
  · exact ⟨1, rfl, by decide, by decide, aln_at hk aln_1a aln_1b⟩
  · exact ⟨2, rfl, by decide, by decide, aln_at hk aln_2a aln_2b⟩
  · exact ⟨4, rfl, by decide, by decide, aln_at hk aln_4a aln_4b⟩
  · exact ⟨8, rfl, by decide, by decide, aln_at hk aln_8a aln_8b⟩
  · exact ⟨16, rfl, by decide, by decide, aln_at hk aln_16a aln_16b⟩
theorem alnImg_get {k a i : Nat} (hi : i < (alnImg k a).length) : (alnImg k a)[i] = if i = k then 255 else if i = atM k a then 254 else 0 := by
  simp [alnImg]
theorem alnImg_len (k a : Nat) : (alnImg k a).length = atM k a + 1 := by simp [alnImg]
theorem aln_tail {k a : Nat} {img : List Int} (e : img = alnImg k a) (h3 : atM k a < 1000) {s4 : AV} (q : ∀ h', Q (B true) h') :
    Loop [s4, (I 0)] h fun vs8 h next8 => law5_AsmAligns_l9 (I (atM k a : Nat)) (.snap img.length (img.flatMap bE)) (I (k : Nat)) Q vs8 h next8 := by
  have hl : img.length = atM k a + 1 := by rw [e, alnImg_len]
  have R := fun h => Row.snap (h := h) (enc := bE) (sz := 1) (fun _ => rfl) img
  refine st_loop (fun n vs h' => ∃ i : Nat, vs = [s4, I (i : Nat)] ∧ n + i = atM k a) (atM k a) ⟨0, rfl, by omega⟩ ?_
  rintro n vs h1 ⟨i, rfl, hn⟩
  unfold law5_AsmAligns_l9
  (repeat refine st_lss ?_)
  refine st_if (fun b1 => ?_) (fun b1 => ?_) <;> simp only [za, zb, zc, zd, ze, zf, zg, zh, zi, u8i, zj, zk, zl] at b1
  · (repeat refine st_neq ?_)
    refine st_if (fun b2 => ?_) (fun b2 => ?_) <;> simp only [za, zb, zc, zd, ze, zf, zg, zh, zi, u8i, zj, zk, zl] at b2
    · refine (R h1).idx (fun _ => rfl) (j := i) (by omega) fun p t => ?_
      refine st_pload1 t ?_
      have hg : img[i]'(by omega) = 0 := by
        subst e
        rw [alnImg_get, if_neg (by omega), if_neg (by omega)]
      rw [hg]
      refine st_neq (st_if (fun h => by simp at h) (fun _ => ?_))
      refine st_add (by omega) ?_
      exact ⟨n - 1, by omega, i + 1, rfl, by omega⟩
    · refine st_add (by omega) ?_
      exact ⟨n - 1, by omega, i + 1, rfl, by omega⟩
  · exact q _
theorem aligns_law (hN : LenOk) (hF : FieldsOk) (hI : IndexOk) (hA : AtoiOk) (hL : LdexpOk) {n by_ : Int} (hn : -9223372036854775808 ≤ n ∧ n ≤ 9223372036854775807) (hby : -9223372036854775808 ≤ by_ ∧ by_ ≤ 9223372036854775807) (q : ∀ h', Q (B true) h') : C fn_law5_AsmAligns [I n, I by_] h Q := by
  refine law5_AsmAligns_ok _ _ _ _ ?_
  unfold law5_AsmAligns
  refine law5_known_sp hF hI hA hL fun h1 f1 => ?_
  refine st_not (st_if (fun h => by cases h) (fun _ => ?_))
  refine st_buildS rfl rfl ?_
  refine law5_within_sp (by decide) (by decide) hn ?_
  obtain ⟨k, hk⟩ := Int.eq_ofNat_of_zero_le (Int.emod_nonneg n (show (60 : Int) ≠ 0 by decide))
  have hk2 : k < 60 := by have := Int.emod_lt_of_pos n (show (0 : Int) < 60 by decide); omega
  rw [hk]
  refine law5_within_sp (by decide) (by decide) hby ?_
  obtain ⟨m, hm⟩ := Int.eq_ofNat_of_zero_le (Int.emod_nonneg by_ (show (5 : Int) ≠ 0 by decide))
  have hm2 : m < 5 := by have := Int.emod_lt_of_pos by_ (show (0 : Int) < 5 by decide); omega
  rw [hm]
  obtain ⟨a, ha, ha1, ha2, hb⟩ := aln_all hk2 hm2
  refine (Row.full (h := h1) (enc := iE) (fun _ => rfl) alnA).idx (fun _ => rfl) (show m < alnA.length from hm2) fun p t => ?_
  refine st_pload1 t ?_
  have hae : alnA[m]'hm2 = (a : Int) := by
    have := List.getElem?_eq_some_iff.1 ha
    exact this.2
  rw [hae]
  unfold alnB at hb
  simp only [Bool.and_eq_true, List.isEmpty_iff, decide_eq_true_eq] at hb
  obtain ⟨hw, hd, hnm, hx, him, h0, hkat, hlim⟩ := hb
  have him := sameL_ok him
  have hnm : ∀ s, s ≠ [120] → ∀ e ∈ readE [([97], alnSrc k a)], ¬ nameE s e := fun s hs e he => by
    have := List.all_eq_true.1 hnm e he
    simp only [Bool.and_eq_true, Bool.or_eq_true, decide_eq_true_eq] at this
    obtain ⟨k1, k2⟩ := this
    have k1 := Nat.le_of_ble_eq_true k1
    rintro (⟨c1, c2⟩ | ⟨c1, c2⟩)
    · rcases k2 with k2 | k2
      · exact c2 k2
      · exact hs (c1.symm.trans k2)
    · omega
  have l3 := digM_len 3 k
  have l4 := digM_len 3 a
  refine digits_sp 2 k (by omega) (by decide) _ _ fun h2 f2 => ?_
  refine st_cat (by simp; omega) ?_
  refine st_cat (by simp; omega) ?_
  refine digits_sp 2 a (by omega) (by decide) _ _ fun h3 f3 => ?_
  refine st_cat (by simp; omega) ?_
  refine st_cat (by simp; omega) ?_
  rw [show ((([46, 115, 112, 97, 99, 101, 32] ++ digM (2 + 1) k) ++ [10, 46, 98, 121, 116, 101, 32, 50, 53, 53, 10, 46, 97, 108, 105, 103, 110, 32]) ++ digM (2 + 1) a) ++ [10, 120, 58, 32, 46, 98, 121, 116, 101, 32, 50, 53, 52] = alnSrc k a from rfl]
  refine st_build rfl (st_buildS rfl rfl ?_)
  generalize hsrc : alnSrc k a = src at *
  have Rf := fun h => Row.full (h := h) (enc := frE) (sz := 2) (fun _ => rfl) [([97], src)]
  refine assemble_sp hF hI hA hL (frags := [([97], src)]) (syms := []) (Rf _) .nil (fewB_ok hw) (fun hne => (hne hd).elim) fun _ h4 f4 => ?_
  refine st_ext rfl (st_ext rfl (st_build rfl (st_buildS rfl rfl ?_)))
  refine symbols1_sp hN hF hI hA hL (frags := [([97], src)]) (syms := []) (Rf _) .nil (fewB_ok hw) hd hx (fun s hs => (madeP_out (hnm s hs)).trans rfl) fun h5 f5 => ?_
  refine st_ext rfl (st_ext rfl (st_add (by omega) ?_))
  generalize imageM [([97], src)] [] = img at him
  refine st_loop (fun f vs h' => ∃ at_ : Nat, vs = [I (at_ : Nat)] ∧ atF f at_ a = atM k a ∧ k < at_ ∧ at_ + f < 100) 16 ⟨k + 1, rfl, rfl, by omega, by omega⟩ ?_
  rintro f vs h6 ⟨at_, rfl, hat, hka, hlt⟩
  unfold law5_AsmAligns_l10
  refine st_rem (by omega) ?_
  rw [show ((at_ : Int).tmod (a : Int)) = ((at_ % a : Nat) : Int) by rw [Int.tmod_eq_emod_of_nonneg (by omega)]; omega]
  refine st_neq ?_
  refine st_if (fun b1 => ?_) (fun b1 => ?_) <;> simp only [za, zb, zc, zd, ze, zf, zg, zh, zi, u8i, zj, zk, zl] at b1
  · have hne : ¬ at_ % a = 0 := by omega
    cases f with
    | zero =>
      unfold atF at hat
      rw [hat] at hne
      exact absurd h0 hne
    | succ f =>
      rw [atF_step hne] at hat
      refine st_add (by omega) ?_
      exact ⟨f, by omega, at_ + 1, rfl, hat, by omega, by omega⟩
  · have he : at_ % a = 0 := by omega
    rw [atF_done he] at hat
    subst hat
    have hl : img.length = atM k a + 1 := by rw [him, alnImg_len]
    have R := fun h => Row.snap (h := h) (enc := bE) (sz := 1) (fun _ => rfl) img
    refine st_lenL2 (st_neq (st_if (fun h => by simp at h) (fun _ => ?_)))
    refine st_not (st_if (fun h => by cases h) (fun _ => ?_))
    refine st_lenL1 (st_neq (st_if (fun h => by simp at h) (fun _ => ?_)))
    have rs : Row syE 2 h6 (.snap 1 [T [120], I (atM k a : Int)]) [(([120] : Str), (atM k a : Int))] := Row.snap (enc := syE) (fun _ => rfl) [(([120] : Str), (atM k a : Int))]
    refine rs.idx (j := 0) (fun _ => rfl) (by simp) fun p t => ?_
    refine st_pfa t (show 1 ≤ 2 by decide) fun p t => st_pload1 t ?_
    refine st_neq (st_if (fun h => by simp at h) (fun _ => ?_))
    refine (R h6).len (st_add (by omega) (st_neq (st_if (fun h => by simp at h; omega) (fun _ => ?_))))
    refine (R h6).idx (fun _ => rfl) (j := atM k a) (by omega) fun p t => ?_
    refine st_pload1 t ?_
    have g1 : img[atM k a]'(by omega) = 254 := by subst him; rw [alnImg_get, if_neg (by omega), if_pos rfl]
    rw [g1]
    refine st_neq (st_if (fun h => by simp at h) (fun _ => ?_))
    refine (R h6).idx (fun _ => rfl) (j := k) (by omega) fun p t => ?_
    refine st_pload1 t ?_
    have g2 : img[k]'(by omega) = 255 := by subst him; rw [alnImg_get, if_pos rfl]
    rw [g2]
    refine st_neq (st_if (fun h => by simp at h) (fun _ => ?_))
    exact aln_tail him hlim q
end
end
end Go.Proofs.YtiddcelpooenfaaGreatDoor.AL
namespace Go.Proofs.YtiddcelpooenfaaGreatDoor.AL
noncomputable section
theorem len_run [Tabs] : runG Pg tb5 spNo 100 fn_math_bits_Len [.lit (.int .u64 1)] .leaf 0 (fun r t _ => chkR (I 1) r t) = true := by kernel_rfl
variable [Tabs5]
theorem lenOk : LenOk := fun h Q q => closed_call Tabs5.tb spNone_ok (d := 100) (I 1) rfl rfl len_run q
theorem aligns_card_law {n by_ : Int} (w0 : -9223372036854775808 ≤ n ∧ n ≤ 9223372036854775807) (w1 : -9223372036854775808 ≤ by_ ∧ by_ ≤ 9223372036854775807) {h : AHeap} {Q : QT} (k : ∀ h', Q (B true) h') : C fn_law5_AsmAligns [I n, I by_] h Q := aligns_law lenOk fieldsOk indexOk atoiOk ldexpOk w0 w1 k
end
end Go.Proofs.YtiddcelpooenfaaGreatDoor.AL
