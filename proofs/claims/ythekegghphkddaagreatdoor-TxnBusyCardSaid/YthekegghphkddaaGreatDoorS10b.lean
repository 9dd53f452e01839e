import Derived.Test.YthekegghphkddaaGreatDoorS10a
set_option linter.all false
set_option autoImplicit true
set_option relaxedAutoImplicit true
set_option linter.unusedVariables false
set_option linter.unusedSimpArgs false
namespace Go.Proofs.YthekegghphkddaaGreatDoor.AL
noncomputable section
open Go.Proofs
/-! ### How many versions there are -/
def rowLen : AV → Option Nat
  | .sl _ _ len _ => some len
  | .snap n _ => some n
  | .full n _ => some n
  | _ => none
def rowD (v : AV) : Nat := (rowLen v).getD 0
def rowsB : MEnts → Bool
  | [] => true
  | e :: es => match rowLen e.2.2 with | some _ => rowsB es | none => false
theorem rowsB_ok : ∀ {es : MEnts}, rowsB es = true → ∀ e ∈ es, rowLen e.2.2 = some (rowD e.2.2)
  | [], _, e, he => by cases he
  | x :: es, h, e, he => by
    unfold rowsB at h
    split at h
    · rename_i m hm
      rcases List.mem_cons.1 he with rfl | he
      · simp [rowD, hm]
      · exact rowsB_ok h e he
    · cases h
def sumD (es : MEnts) : Nat := (es.map fun e => rowD e.2.2).sum
theorem sumD_le : ∀ {ds es : MEnts}, ds.Nodup → (∀ e ∈ ds, e ∈ es) → sumD ds ≤ sumD es
  | [], es, _, _ => by simp [sumD]
  | d :: ds, es, hn, h => by
    obtain ⟨s, t, rfl⟩ := List.append_of_mem (h d (by simp))
    rw [List.nodup_cons] at hn
    have := sumD_le (ds := ds) (es := s ++ t) hn.2 fun e he => by
      have := h e (by simp [he])
      simp only [List.mem_append, List.mem_cons] at this ⊢
      rcases this with h1 | h1 | h1
      · exact .inl h1
      · subst h1; exact (hn.1 he).elim
      · exact .inr h1
    simp [sumD] at this ⊢; omega
theorem sumD_eq {ds es : MEnts} (hd : ds.Nodup) (he : es.Nodup) (h1 : ∀ e ∈ ds, e ∈ es) (h2 : ∀ e ∈ es, e ∈ ds) : sumD ds = sumD es := Nat.le_antisymm (sumD_le hd h1) (sumD_le he h2)
theorem sumD_snoc (ds : MEnts) (e : Ent) : sumD (ds ++ [e]) = sumD ds + rowD e.2.2 := by simp [sumD]

theorem length_ok (v : AV) (m : Nat) (hv : rowLen v = some m) (h : AHeap) (Q : AV → AHeap → Prop) (k : Q (I m) h) : C fn_store_length [v] h Q := by
  refine store_length_ok _ _ _ ?_
  unfold store_length
  refine ⟨?_⟩
  unfold rowLen at hv
  unfold pLenL
  split at hv <;> first | (cases hv; exact k) | cases hv

theorem count_ok {h : AHeap} {i o j : Nat} {es : MEnts} {clock : Nat} (hl : aload h 1 (.ptr i (o + 3)) = some [.map j]) (M : Meets h j es clock) (hr : rowsB es = true) (hs : sumD es ≤ 1000000) (Q : AV → AHeap → Prop)
    (k : ∀ ds, Q (I (sumD es)) (h ++ [mit j clock ds])) : C fn_store_Store_Count [.ptr i o] h Q := by
  refine store_Store_Count_ok _ _ _ ?_
  unfold store_Store_Count
  show ACall Pg fn_store_Store_total _ h _
  refine store_Store_total_ok _ _ _ _ ?_
  unfold store_Store_total
  refine ⟨⟨⟨?_⟩⟩⟩
  simp only [pLoad1, hl]
  refine ⟨?_⟩
  simp only [eRangeM, M.map]
  refine range_loop M (fun ds vs => vs = [I (sumD ds)]) rfl fun ds vs next hnd hds hi hnext => ?_
  subst hi
  unfold store_Store_total_l4
  refine next_round M hds (fun hall => ?_) fun e he hn => ?_
  · refine ⟨?_⟩
    simp only [pExtract, List.getElem?_cons_zero, ifB]
    have : nthA [I (sumD ds)] 0 = I (sumD es) := by rw [sumD_eq hnd (nodup_of_born M.born) hds hall]; rfl
    rw [this]
    exact k ds
  · refine ⟨?_⟩
    simp only [pExtract, List.getElem?_cons_zero, ifB]
    refine entry_now M he ⟨?_⟩
    simp only [pExtract, List.getElem?_cons_succ, List.getElem?_cons_zero]
    refine length_ok _ _ (rowsB_ok hr e he) _ _ ⟨?_⟩
    have hle : sumD (ds ++ [e]) ≤ sumD es := sumD_le (by
      rw [List.nodup_append]
      exact ⟨hnd, by simp, fun a ha b hb => by simp at hb; subst hb; exact fun e => hn (e ▸ ha)⟩) fun x hx => by
      rcases List.mem_append.1 hx with hx | hx
      · exact hds x hx
      · simp at hx; subst hx; exact he
    rw [sumD_snoc] at hle
    simp only [nthA, List.getElem?_cons_zero, Option.getD_some, pBin, binLit, if_true, intBin]
    rw [IntWalk.i64_in _ (by omega)]
    refine hnext e _ he hn ?_
    rw [sumD_snoc]; simp
def rowSum : MEnts → Nat → Nat
  | [], n => n
  | e :: es, n => rowSum es (Nat.add n (rowD e.2.2))
theorem rowSum_eq : ∀ (es : MEnts) (n : Nat), rowSum es n = n + sumD es
  | [], n => by simp [rowSum, sumD]
  | e :: es, n => by
    have h1 : rowSum (e :: es) n = rowSum es (n + rowD e.2.2) := rfl
    have h2 : sumD (e :: es) = rowD e.2.2 + sumD es := by simp [sumD]
    rw [h1, rowSum_eq es, h2]; omega
def spCount (args : List AV) (t : HT) (n : Nat) (K : AV → HT → Nat → Bool) : Bool := match args with
  | [.ptr i o] => match tload t 1 (.ptr i (o + 3)) with
    | some [.map j] => (match t.get j with
      | some (.amap es clock) => bA (bornUp 0 clock es) (bA (oneAll es) (bA (rowsB es) (fN (rowSum es 0) fun s => bA (Nat.ble s 1000000) (K (I (.ofNat s)) t (n + 1)))))
      | _ => false)
    | _ => false
  | _ => false
theorem spCount_ok {args : List AV} {t : HT} {n : Nat} {h : AHeap} {K : AV → HT → Nat → Bool} (hr : HR t n h) (k : spCount args t n K = true) : C fn_store_Store_Count args h (KH K) := by
  unfold spCount at k
  split at k
  · split at k
    · rename_i j hl
      split at k
      · rename_i es clock hj
        simp only [bA_eq, fN_eq, rowSum_eq, Nat.zero_add] at k
        obtain ⟨k1, k2, k3, k4, k5⟩ := k
        exact count_ok (tload_eq hr hl) ⟨hr.at_ _ _ hj, k1, k2⟩ k3 (Nat.le_of_ble_eq_true k4) _ fun ds => ⟨t, n + 1, hr.more [mit j clock ds], k5⟩
      · cases k
    · cases k
  · cases k

/-! ### The least pin -/
def keyI : Value → Option Int
  | .int .i64 k => some k
  | _ => none
def keysB : MEnts → Bool
  | [] => true
  | e :: es => match keyI e.1 with | some _ => keysB es | none => false
theorem keysB_ok : ∀ {es : MEnts}, keysB es = true → ∀ e ∈ es, ∃ k, e.1 = .int .i64 k
  | [], _, e, he => by cases he
  | x :: es, h, e, he => by
    unfold keysB at h
    split at h
    · rename_i m hm
      rcases List.mem_cons.1 he with rfl | he
      · unfold keyI at hm; split at hm
        · rename_i k hk; exact ⟨k, hk⟩
        · cases hm
      · exact keysB_ok h e he
    · cases h
def IsMin (now : Int) (ds : MEnts) (m : Int) : Prop := m ≤ now ∧ (∀ e ∈ ds, ∀ k, e.1 = .int .i64 k → m ≤ k) ∧ (m = now ∨ ∃ e ∈ ds, e.1 = .int .i64 m)
theorem IsMin.nil (now : Int) : IsMin now [] now := ⟨Int.le_refl _, fun e he => (by cases he), .inl rfl⟩
theorem IsMin.uniq {now : Int} {ds es : MEnts} {a b : Int} (h1 : ∀ e ∈ ds, e ∈ es) (h2 : ∀ e ∈ es, e ∈ ds) (ha : IsMin now ds a) (hb : IsMin now es b) : a = b := by
  obtain ⟨a1, a2, a3⟩ := ha
  obtain ⟨b1, b2, b3⟩ := hb
  have : a ≤ b := by
    rcases b3 with rfl | ⟨e, he, hk⟩
    · exact a1
    · exact a2 e (h2 e he) b hk
  have : b ≤ a := by
    rcases a3 with rfl | ⟨e, he, hk⟩
    · exact b1
    · exact b2 e (h1 e he) a hk
  omega
def minK : MEnts → Int → Int
  | [], m => m
  | e :: es, m => match e.1 with
    | .int .i64 k => minK es (if k < m then k else m)
    | _ => minK es m
theorem minK_is : ∀ (es ds : MEnts) (now m : Int), IsMin now ds m → IsMin now (ds ++ es) (minK es m)
  | [], ds, now, m, h => by simpa [minK] using h
  | e :: es, ds, now, m, h => by
    have hd : ds ++ e :: es = (ds ++ [e]) ++ es := by simp
    rw [hd]
    obtain ⟨h1, h2, h3⟩ := h
    unfold minK
    split
    · rename_i k hk
      refine minK_is es (ds ++ [e]) now _ ⟨by split <;> omega, fun x hx q hq => ?_, ?_⟩
      · rcases List.mem_append.1 hx with hx | hx
        · have := h2 x hx q hq; split <;> omega
        · simp at hx; subst hx; rw [hk] at hq; cases hq; split <;> omega
      · split
        · exact .inr ⟨e, by simp, hk⟩
        · rcases h3 with h3 | ⟨x, hx, hq⟩
          · exact .inl h3
          · exact .inr ⟨x, by simp [hx], hq⟩
    · rename_i hk
      refine minK_is es (ds ++ [e]) now _ ⟨h1, fun x hx q hq => ?_, ?_⟩
      · rcases List.mem_append.1 hx with hx | hx
        · exact h2 x hx q hq
        · simp at hx; subst hx; exact (hk q hq).elim
      · rcases h3 with h3 | ⟨x, hx, hq⟩
        · exact .inl h3
        · exact .inr ⟨x, by simp [hx], hq⟩
theorem least_ok {h : AHeap} {j : Nat} {es : MEnts} {clock : Nat} {now : Int} (M : Meets h j es clock) (hk : keysB es = true) (Q : AV → AHeap → Prop)
    (k : ∀ ds, Q (I (minK es now)) (h ++ [mit j clock ds])) : C fn_store_pins_least [.map j, I now] h Q := by
  refine store_pins_least_ok _ _ _ _ ?_
  unfold store_pins_least
  refine ⟨?_⟩
  simp only [eRangeM, M.map]
  refine range_loop M (fun ds vs => ∃ m, vs = [I m] ∧ IsMin now ds m) ⟨now, rfl, IsMin.nil now⟩ fun ds vs next hnd hds hi hnext => ?_
  obtain ⟨m, rfl, hm⟩ := hi
  unfold store_pins_least_l3
  refine next_round M hds (fun hall => ?_) fun e he hn => ?_
  · refine ⟨?_⟩
    simp only [pExtract, List.getElem?_cons_zero, ifB]
    have : m = minK es now := IsMin.uniq hds hall hm (by have := minK_is es [] now now (IsMin.nil now); simpa using this)
    rw [this]
    exact k ds
  · refine ⟨?_⟩
    simp only [pExtract, List.getElem?_cons_zero, ifB]
    refine entry_now M he ⟨?_⟩
    simp only [pExtract, List.getElem?_cons_zero]
    obtain ⟨q, hq⟩ := keysB_ok hk e he
    refine ⟨?_⟩
    simp only [nthA, List.getElem?_cons_zero, Option.getD_some, pMin, hq]
    refine hnext e _ he hn ⟨_, rfl, ?_⟩
    have := minK_is [e] ds now m hm
    simp only [minK, hq] at this
    exact this
def spLeast (args : List AV) (t : HT) (n : Nat) (K : AV → HT → Nat → Bool) : Bool := match args with
  | [.map j, .lit (.int .i64 now)] => (match t.get j with
      | some (.amap es clock) => bA (bornUp 0 clock es) (bA (oneAll es) (bA (keysB es) (fI (minK es now) fun s => K (I s) t (n + 1))))
      | _ => false)
  | _ => false
theorem spLeast_ok {args : List AV} {t : HT} {n : Nat} {h : AHeap} {K : AV → HT → Nat → Bool} (hr : HR t n h) (k : spLeast args t n K = true) : C fn_store_pins_least args h (KH K) := by
  unfold spLeast at k
  split at k
  · split at k
    · rename_i es clock hj
      simp only [bA_eq, fI_eq] at k
      obtain ⟨k1, k2, k3, k4⟩ := k
      exact least_ok ⟨hr.at_ _ _ hj, k1, k2⟩ k3 _ fun ds => ⟨t, n + 1, hr.more [mit _ clock ds], k4⟩
    · cases k
  · cases k

/-! ### What has changed -/
def chgB (t : HT) (si so : Nat) (key : Value) (at_ : Int) : Option Bool := match tload t 1 (.ptr si (so + 3)) with
  | some [.map j] => (match t.get j with
    | some (.amap es _) => (match bA (kOk .string key) (kAll .string es) with
      | true => (match tfind key es 0 with
        | none => some false
        | some (_, _, .full 0 _) => some false
        | some (_, _, .sl a off len sz) => (match Nat.beq sz 4 with
          | true => (match len with
            | 0 => some false
            | len + 1 => (match Nat.ble len 1000000 with
              | true => (match tload t 1 (.ptr a (off + len * 4 + 3)) with
                | some [.lit (.int .i64 st)] => some (iLt at_ st)
                | _ => none)
              | false => none))
          | false => none)
        | _ => none)
      | false => none)
    | _ => none)
  | _ => none
theorem aload_drop {h : AHeap} {i o : Nat} {l : List AV} (e : aload h 1 (.ptr i o) = some l) : aload h 1 (.ptr i o) = some l := e
theorem chg_ok {t : HT} {n : Nat} {h : AHeap} (hr : HR t n h) {si so : Nat} {key : Value} {at_ : Int} {b : Bool} (e : chgB t si so key at_ = some b) (Q : AV → AHeap → Prop) (k : Q (B b) h) : C fn_store_Store_Changed [.ptr si so, .lit key, I at_] h Q := by
  refine store_Store_Changed_ok _ _ _ _ _ ?_
  unfold store_Store_Changed
  unfold chgB at e
  split at e
  · rename_i j hl
    split at e
    · rename_i es clock hj
      split at e
      · rename_i hk
        rw [bA_eq, kAll_eq] at hk
        refine ⟨⟨⟨?_⟩⟩⟩
        simp only [pLoad1, tload_eq hr hl]
        refine ⟨?_⟩
        simp only [pLookup, hr.at_ _ _ hj]
        rw [if_pos (by simp [hk.1, hk.2]), ← tfind_eq]
        split at e
        · rename_i hf
          cases e
          simp only [hf, Bool.false_eq_true, if_false]
          refine ⟨⟨?_⟩⟩
          simp only [pBin, binLit, if_true, intBin]
          exact k
        · rename_i hf
          cases e
          simp only [hf, Bool.false_eq_true, if_false]
          refine ⟨⟨?_⟩⟩
          simp only [pBin, binLit, if_true, intBin]
          exact k
        · rename_i a off len sz hf
          split at e
          · rename_i hsz
            have hsz := Nat.eq_of_beq_eq_true hsz
            subst hsz
            simp only [hf, Bool.false_eq_true, if_false]
            refine ⟨⟨?_⟩⟩
            simp only [pBin, binLit, if_true, intBin]
            split at e
            · cases e
              exact k
            · rename_i len
              split at e
              · rename_i hb
                have hb := Nat.le_of_ble_eq_true hb
                split at e
                · rename_i st hst
                  cases e
                  have hpos : decide (((len + 1 : Nat) : Int) > 0) = true := by simp
                  simp only [hpos, ifB]
                  refine ⟨⟨?_⟩⟩
                  simp only [pBin, binLit, if_true, intBin]
                  rw [IntWalk.i64_in _ (by omega)]
                  have e1 : ((len + 1 : Nat) : Int) - 1 = (len : Int) := by omega
                  rw [e1]
                  refine ⟨?_⟩
                  simp only [pIndexAddr, asI, Int.toNat_natCast]
                  refine ⟨⟨by omega, by omega, trivial⟩, ⟨⟨?_⟩⟩⟩
                  simp only [pLoad1, tload_eq hr hst]
                  refine ⟨?_⟩
                  simp only [pBin, binLit, if_true, intBin]
                  have e2 : decide (st > at_) = iLt at_ st := by rw [Bool.eq_iff_iff, iLt_iff, decide_eq_true_eq]
                  rw [e2]
                  exact k
                · cases e
              · cases e
          · cases e
        · cases e
      · cases e
    · cases e
  · cases e

def chgAny (t : HT) (si so : Nat) (at_ : Int) : MEnts → Option Bool
  | [] => some false
  | e :: es => match chgB t si so e.1 at_ with
    | some b => (match chgAny t si so at_ es with | some c => some (bI b true c) | none => none)
    | none => none
theorem chgAny_ok {t : HT} {si so : Nat} {at_ : Int} : ∀ {es : MEnts} {c : Bool}, chgAny t si so at_ es = some c → (∀ e ∈ es, ∃ b, chgB t si so e.1 at_ = some b ∧ (b = true → c = true)) ∧ (c = true → ∃ e ∈ es, chgB t si so e.1 at_ = some true)
  | [], c, h => by cases h; exact ⟨fun e he => (by cases he), fun h => by cases h⟩
  | x :: es, c, h => by
    unfold chgAny at h
    split at h
    · rename_i b hb
      split at h
      · rename_i c' hc'
        cases h
        obtain ⟨i1, i2⟩ := chgAny_ok hc'
        refine ⟨fun e he => ?_, fun hc => ?_⟩
        · rcases List.mem_cons.1 he with rfl | he
          · exact ⟨b, hb, fun h => by subst h; rfl⟩
          · obtain ⟨b2, h1, h2⟩ := i1 e he
            exact ⟨b2, h1, fun h => by rw [h2 h]; cases b <;> rfl⟩
        · rcases (bI_eq _ _ _).1 hc with ⟨h1, _⟩ | ⟨_, h1⟩
          · subst h1; exact ⟨x, by simp, hb⟩
          · obtain ⟨e, he, h2⟩ := i2 h1
            exact ⟨e, by simp [he], h2⟩
      · cases h
    · cases h
def spChanged (args : List AV) (t : HT) (n : Nat) (K : AV → HT → Nat → Bool) : Bool := match args with
  | [.ptr i o] => match tload t 1 (.ptr i (o + 11)), tload t 1 (.ptr i (o + 0)), tload t 1 (.ptr i (o + 9)) with
    | some [.map j], some [.ptr si so], some [.lit (.int .i64 at_)] => (match t.get j with
      | some (.amap es clock) => bA (bornUp 0 clock es) (bA (oneAll es) (match chgAny t si so at_ es with | some c => fB c fun c => K (B c) t (n + 1) | none => false))
      | _ => false)
    | _, _, _ => false
  | _ => false
theorem spChanged_ok {args : List AV} {t : HT} {n : Nat} {h : AHeap} {K : AV → HT → Nat → Bool} (hr : HR t n h) (k : spChanged args t n K = true) : C fn_txn_Txn_changed args h (KH K) := by
  unfold spChanged at k
  split at k
  · rename_i i o
    split at k
    · rename_i j si so at_ l1 l2 l3
      split at k
      · rename_i es clock hj
        simp only [bA_eq] at k
        obtain ⟨k1, k2, k⟩ := k
        split at k
        · rename_i c hc
          rw [fB_eq] at k
          obtain ⟨c1, c2⟩ := chgAny_ok hc
          have M : Meets h j es clock := ⟨hr.at_ _ _ hj, k1, k2⟩
          refine txn_Txn_changed_ok _ _ _ ?_
          unfold txn_Txn_changed
          refine ⟨⟨⟨?_⟩⟩⟩
          simp only [pLoad1, tload_eq hr l1]
          refine ⟨?_⟩
          simp only [eRangeM, M.map]
          refine range_loop M (fun ds vs => vs = [B false] ∧ ∀ e ∈ ds, chgB t si so e.1 at_ = some false) ⟨rfl, fun e he => by cases he⟩ fun ds vs next hnd hds hi hnext => ?_
          obtain ⟨rfl, hall⟩ := hi
          unfold txn_Txn_changed_l4
          refine next_round M hds (fun hcov => ?_) fun e he hn => ?_
          · refine ⟨?_⟩
            simp only [pExtract, List.getElem?_cons_zero, ifB]
            have : c = false := by
              cases c with
              | false => rfl
              | true =>
                obtain ⟨e, he, h2⟩ := c2 rfl
                rw [hall e (hcov e he)] at h2; cases h2
            subst this
            exact ⟨t, n + 1, hr.more [mit j clock ds], k⟩
          · refine ⟨?_⟩
            simp only [pExtract, List.getElem?_cons_zero, ifB]
            refine entry_now M he ⟨?_⟩
            simp only [pExtract, List.getElem?_cons_zero]
            have hr2 : HR t (n + 1) (h ++ [mit j clock (ds ++ [e])]) := hr.more [mit j clock (ds ++ [e])]
            refine ⟨⟨⟨?_⟩⟩⟩
            simp only [pLoad1, tload_eq hr2 l2]
            refine ⟨⟨⟨?_⟩⟩⟩
            simp only [pLoad1, tload_eq hr2 l3]
            obtain ⟨b, hb, hbc⟩ := c1 e he
            refine chg_ok hr2 hb _ ?_
            cases b with
            | true =>
              simp only [ifB]
              rw [hbc rfl] at k
              exact ⟨t, n + 1, hr2, k⟩
            | false =>
              simp only [ifB]
              refine hnext e _ he hn ⟨rfl, fun x hx => ?_⟩
              rcases List.mem_append.1 hx with hx | hx
              · exact hall x hx
              · simp at hx; subst hx; exact hb
        · cases k
      · cases k
    · cases k
  · cases k

/-! ### What is none is none behind a copy -/
def isNone : AV → Bool
  | .full 0 [] => true
  | .snap 0 [] => true
  | _ => false
theorem isNone_ok {v : AV} (h : isNone v = true) : v = .full 0 [] ∨ v = .snap 0 [] := by
  unfold isNone at h
  split at h
  · exact .inl rfl
  · exact .inr rfl
  · cases h
theorem cloneS_ok (v : AV) (hv : isNone v = true) (h : AHeap) (Q : AV → AHeap → Prop) (k : Q (.full 0 []) h) : C fn_slices_Clone__string_string [v] h Q := by
  refine slices_Clone__string_string_ok _ _ _ ?_
  unfold slices_Clone__string_string
  rcases isNone_ok hv with rfl | rfl <;> refine ⟨⟨k, ⟨⟨by simp, ⟨?_⟩⟩⟩⟩⟩ <;> simp [eAppend, aElems, k]
theorem cloneV_ok (v : AV) (hv : isNone v = true) (h : AHeap) (Q : AV → AHeap → Prop) (k : Q (.full 0 []) h) : C fn_slices_Clone__store_version_store_version [v] h Q := by
  refine slices_Clone__store_version_store_version_ok _ _ _ ?_
  unfold slices_Clone__store_version_store_version
  rcases isNone_ok hv with rfl | rfl <;> refine ⟨⟨k, ⟨⟨by simp, ⟨?_⟩⟩⟩⟩⟩ <;> simp [eAppend, aElems, k]
def spClone (args : List AV) (t : HT) (n : Nat) (K : AV → HT → Nat → Bool) : Option Bool := match args with
  | [v] => match isNone v with
    | true => some (K (.full 0 []) t n)
    | false => none
  | _ => none

/-! ### All together -/
def sp10 : SpecB := fun f args t n K => match Nat.beq f 79 with
  | true => some (spKeys 96 args t n K)
  | false => match Nat.beq f 78 with
    | true => some (spSorted 96 args t n K)
    | false => match Nat.beq f fn_law10_within with
      | true => some (withinB args t n K)
      | false => match Nat.beq f fn_store_Store_Count with
        | true => some (spCount args t n K)
        | false => match Nat.beq f fn_store_pins_least with
          | true => some (spLeast args t n K)
          | false => match Nat.beq f fn_txn_Txn_changed with
            | true => some (spChanged args t n K)
            | false => match Nat.beq f fn_slices_Clone__string_string with
              | true => spClone args t n K
              | false => match Nat.beq f fn_slices_Clone__store_version_store_version with
                | true => spClone args t n K
                | false => none
theorem sp10_ok : SpecOk Pg sp10 := fun f args t n h K hr k => by
  unfold sp10 at k
  split at k
  · rename_i hf; rw [Nat.eq_of_beq_eq_true hf]; exact spKeys_ok keysIs hr (by simpa using k)
  split at k
  · rename_i hf; rw [Nat.eq_of_beq_eq_true hf]; exact spSorted_ok sortedIs hr (by simpa using k)
  split at k
  · rename_i hf
    rw [Nat.eq_of_beq_eq_true hf]
    have k : withinB args t n K = true := by simpa using k
    unfold withinB at k
    split at k
    · rw [bA_eq] at k
      exact within_ok _ _ _ _ (Nat.le_of_ble_eq_true k.1) fun j hj => ⟨t, n, hr, allLt_ok (p := fun j => K (I (.ofNat j)) t n) k.2 hj⟩
    · cases k
  split at k
  · rename_i hf; rw [Nat.eq_of_beq_eq_true hf]; exact spCount_ok hr (by simpa using k)
  split at k
  · rename_i hf; rw [Nat.eq_of_beq_eq_true hf]; exact spLeast_ok hr (by simpa using k)
  split at k
  · rename_i hf; rw [Nat.eq_of_beq_eq_true hf]; exact spChanged_ok hr (by simpa using k)
  have cl : ∀ {g : FuncId}, (∀ (v : AV), isNone v = true → ∀ (h : AHeap) (Q : AV → AHeap → Prop), Q (.full 0 []) h → C g [v] h Q) → spClone args t n K = some true → C g args h (KH K) := fun hg k => by
    unfold spClone at k
    split at k
    · split at k
      · exact hg _ ‹_› _ _ ⟨t, n, hr, by simpa using k⟩
      · cases k
    · cases k
  split at k
  · rename_i hf; rw [Nat.eq_of_beq_eq_true hf]; exact cl cloneS_ok k
  split at k
  · rename_i hf; rw [Nat.eq_of_beq_eq_true hf]; exact cl cloneV_ok k
  · cases k
def tb0 : TabB := fun _ => none
theorem tb0_ok : TabOk tb0 := fun g cs h => by cases h
end
end Go.Proofs.YthekegghphkddaaGreatDoor.AL
