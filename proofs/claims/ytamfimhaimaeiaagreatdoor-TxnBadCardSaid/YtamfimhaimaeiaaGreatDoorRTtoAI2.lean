import Derived.Test.YtamfimhaimaeiaaGreatDoorSPK
import Derived.Test.YtamfimhaimaeiaaGreatDoorAL27toAL31
import Derived.Test.YtamfimhaimaeiaaGreatDoorAM4toAM6
import Derived.MapKept
import Derived.Test.YtamfimhaimaeiaaGreatDoorF5
import Derived.Lib.Index
set_option linter.all false
set_option autoImplicit true
set_option relaxedAutoImplicit true
set_option maxRecDepth 100000
namespace Go.Proofs.YtamfimhaimaeiaaGreatDoor.AL
noncomputable section
open Go.Proofs
section
variable [Tabs]
def rowLen : AV → Option Nat
  | .sl _ _ len _ => some len
  | .snap n _ => some n
  | .full n _ => some n
  | _ => none
def rowD (v : AV) : Nat := (rowLen v).getD 0
def rowsB : MEnts → Bool
  | [] => true
  | e :: es => match rowLen e.2.2 with | some _ => rowsB es | none => false
theorem rowsB_ok : ∀ {es : MEnts}, rowsB es = true → ∀ e ∈ es, rowLen e.2.2 = some (rowD e.2.2)
  | [], _, e, he => by cases he
  | x :: es, h, e, he => by
    unfold rowsB at h
    split at h
    · rename_i m hm
      rcases List.mem_cons.1 he with rfl | he
      · simp [rowD, hm]
      · exact rowsB_ok h e he
    · cases h
def sumD (es : MEnts) : Nat := (es.map fun e => rowD e.2.2).sum
theorem sumD_le : ∀ {ds es : MEnts}, ds.Nodup → (∀ e ∈ ds, e ∈ es) → sumD ds ≤ sumD es
  | [], es, _, _ => by simp [sumD]
  | d :: ds, es, hn, h => by
    obtain ⟨s, t, rfl⟩ := List.append_of_mem (h d (by simp))
    rw [List.nodup_cons] at hn
    have := sumD_le (ds := ds) (es := s ++ t) hn.2 fun e he => by
      have := h e (by simp [he])
      simp only [List.mem_append, List.mem_cons] at this ⊢
      rcases this with h1 | h1 | h1
      · exact .inl h1
      · subst h1; exact (hn.1 he).elim
      · exact .inr h1
    simp [sumD] at this ⊢; omega
theorem sumD_eq {ds es : MEnts} (hd : ds.Nodup) (he : es.Nodup) (h1 : ∀ e ∈ ds, e ∈ es) (h2 : ∀ e ∈ es, e ∈ ds) : sumD ds = sumD es := Nat.le_antisymm (sumD_le hd h1) (sumD_le he h2)
theorem sumD_snoc (ds : MEnts) (e : Ent) : sumD (ds ++ [e]) = sumD ds + rowD e.2.2 := by simp [sumD]
theorem length_ok (v : AV) (m : Nat) (hv : rowLen v = some m) (h : AHeap) (Q : QT) (k : Q (I m) h) : C fn_store_length [v] h Q := by
  refine store_length_ok _ _ _ ?_
  unfold store_length
  refine ⟨?_⟩
  unfold rowLen at hv
  unfold pLenL
  split at hv <;> first | (cases hv; exact k) | cases hv
theorem count_ok {h : AHeap} {i o j : Nat} {es : MEnts} {clock : Nat} (hl : aload h 1 (.ptr i (o + 3)) = some [.map j]) (M : Meets h j es clock) (hr : rowsB es = true) (hs : sumD es ≤ 1000000) (Q : QT)
    (k : ∀ ds, Q (I (sumD es)) (h ++ [mit j clock ds])) : C fn_store_Store_Count [.ptr i o] h Q := by
  refine store_Store_Count_ok _ _ _ ?_
  unfold store_Store_Count
  show ACall Pg fn_store_Store_total _ h _
  refine store_Store_total_ok _ _ _ _ ?_
  unfold store_Store_total
  refine ⟨⟨⟨?_⟩⟩⟩
  simp only [pLoad1, hl]
  refine ⟨?_⟩
  simp only [eRangeM, M.map]
  refine range_loop M (fun ds vs => vs = [I (sumD ds)]) rfl fun ds vs next hnd hds hi hnext => ?_
  subst hi
  unfold store_Store_total_l4
  refine next_round M hds (fun hall => ?_) fun e he hn => ?_
  · refine ⟨?_⟩
    simp only [pExtract, List.getElem?_cons_zero, ifB]
    have : nthA [I (sumD ds)] 0 = I (sumD es) := by rw [sumD_eq hnd (nodup_of_born M.born) hds hall]; rfl
    rw [this]
    exact k ds
  · refine ⟨?_⟩
    simp only [pExtract, List.getElem?_cons_zero, ifB]
    refine entry_now M he ⟨?_⟩
    simp only [pExtract, List.getElem?_cons_succ, List.getElem?_cons_zero]
    refine length_ok _ _ (rowsB_ok hr e he) _ _ ⟨?_⟩
    have hle : sumD (ds ++ [e]) ≤ sumD es := sumD_le (by
      rw [List.nodup_append]
      exact ⟨hnd, by simp, fun a ha b hb => by simp at hb; subst hb; exact fun e => hn (e ▸ ha)⟩) fun x hx => by
      rcases List.mem_append.1 hx with hx | hx
      · exact hds x hx
      · simp at hx; subst hx; exact he
    rw [sumD_snoc] at hle
    simp only [nthA, List.getElem?_cons_zero, Option.getD_some, pBin, binLit, if_true, intBin]
    rw [IntWalk.i64_in _ (by omega)]
    refine hnext e _ he hn ?_
    rw [sumD_snoc]; simp
def rowSum : MEnts → Nat → Nat
  | [], n => n
  | e :: es, n => rowSum es (Nat.add n (rowD e.2.2))
theorem rowSum_eq : ∀ (es : MEnts) (n : Nat), rowSum es n = n + sumD es
  | [], n => by simp [rowSum, sumD]
  | e :: es, n => by
    have h1 : rowSum (e :: es) n = rowSum es (n + rowD e.2.2) := rfl
    have h2 : sumD (e :: es) = rowD e.2.2 + sumD es := by simp [sumD]
    rw [h1, rowSum_eq es, h2]; omega
def spCount (args : List AV) (t : HT) (n : Nat) (K : AV → HT → Nat → Bool) : Bool := match args with
  | [.ptr i o] => match tload t 1 (.ptr i (o + 3)) with
    | some [.map j] => (match t.get j with
      | some (.amap es clock) => bA (bornUp 0 clock es) (bA (oneAll es) (bA (rowsB es) (fN (rowSum es 0) fun s => bA (Nat.ble s 1000000) (K (I (.ofNat s)) t (n + 1)))))
      | _ => false)
    | _ => false
  | _ => false
theorem spCount_ok {args : List AV} {t : HT} {n : Nat} {h : AHeap} {K : AV → HT → Nat → Bool} (hr : HR t n h) (k : spCount args t n K = true) : C fn_store_Store_Count args h (KH K) := by
  unfold spCount at k
  split at k
  · split at k
    · rename_i j hl
      split at k
      · rename_i es clock hj
        simp only [bA_eq, fN_eq, rowSum_eq, Nat.zero_add] at k
        obtain ⟨k1, k2, k3, k4, k5⟩ := k
        exact count_ok (tload_eq hr hl) ⟨hr.at_ _ _ hj, k1, k2⟩ k3 (Nat.le_of_ble_eq_true k4) _ fun ds => ⟨t, n + 1, hr.more [mit j clock ds], k5⟩
      · cases k
    · cases k
  · cases k
def keyI : Value → Option Int
  | .int .i64 k => some k
  | _ => none
def keysB : MEnts → Bool
  | [] => true
  | e :: es => match keyI e.1 with | some _ => keysB es | none => false
theorem keysB_ok : ∀ {es : MEnts}, keysB es = true → ∀ e ∈ es, ∃ k, e.1 = .int .i64 k
  | [], _, e, he => by cases he
  | x :: es, h, e, he => by
    unfold keysB at h
    split at h
    · rename_i m hm
      rcases List.mem_cons.1 he with rfl | he
      · unfold keyI at hm; split at hm
        · rename_i k hk; exact ⟨k, hk⟩
        · cases hm
      · exact keysB_ok h e he
    · cases h
def IsMin (now : Int) (ds : MEnts) (m : Int) : Prop := m ≤ now ∧ (∀ e ∈ ds, ∀ k, e.1 = .int .i64 k → m ≤ k) ∧ (m = now ∨ ∃ e ∈ ds, e.1 = .int .i64 m)
theorem IsMin.nil (now : Int) : IsMin now [] now := ⟨Int.le_refl _, fun e he => (by cases he), .inl rfl⟩
theorem IsMin.uniq {now : Int} {ds es : MEnts} {a b : Int} (h1 : ∀ e ∈ ds, e ∈ es) (h2 : ∀ e ∈ es, e ∈ ds) (ha : IsMin now ds a) (hb : IsMin now es b) : a = b := by
  obtain ⟨a1, a2, a3⟩ := ha
  obtain ⟨b1, b2, b3⟩ := hb
  have : a ≤ b := by
    rcases b3 with rfl | ⟨e, he, hk⟩
    · exact a1
    · exact a2 e (h2 e he) b hk
  have : b ≤ a := by
    rcases a3 with rfl | ⟨e, he, hk⟩
    · exact b1
    · exact b2 e (h1 e he) a hk
  omega
def minK : MEnts → Int → Int
  | [], m => m
  | e :: es, m => match e.1 with
    | .int .i64 k => minK es (if k < m then k else m)
    | _ => minK es m
theorem minK_is : ∀ (es ds : MEnts) (now m : Int), IsMin now ds m → IsMin now (ds ++ es) (minK es m)
  | [], ds, now, m, h => by simpa [minK] using h
  | e :: es, ds, now, m, h => by
    have hd : ds ++ e :: es = (ds ++ [e]) ++ es := by simp
    rw [hd]
    obtain ⟨h1, h2, h3⟩ := h
    unfold minK
    split
    · rename_i k hk
      refine minK_is es (ds ++ [e]) now _ ⟨by split <;> omega, fun x hx q hq => ?_, ?_⟩
      · rcases List.mem_append.1 hx with hx | hx
        · have := h2 x hx q hq; split <;> omega
        · simp at hx; subst hx; rw [hk] at hq; cases hq; split <;> omega
      · split
        · exact .inr ⟨e, by simp, hk⟩
        · rcases h3 with h3 | ⟨x, hx, hq⟩
          · exact .inl h3
          · exact .inr ⟨x, by simp [hx], hq⟩
    · rename_i hk
      refine minK_is es (ds ++ [e]) now _ ⟨h1, fun x hx q hq => ?_, ?_⟩
      · rcases List.mem_append.1 hx with hx | hx
        · exact h2 x hx q hq
        · simp at hx; subst hx; exact (hk q hq).elim
      · rcases h3 with h3 | ⟨x, hx, hq⟩
        · exact .inl h3
        · exact .inr ⟨x, by simp [hx], hq⟩
theorem least_ok {h : AHeap} {j : Nat} {es : MEnts} {clock : Nat} {now : Int} (M : Meets h j es clock) (hk : keysB es = true) (Q : QT)
    (k : ∀ ds, Q (I (minK es now)) (h ++ [mit j clock ds])) : C fn_store_pins_least [.map j, I now] h Q := by
  refine store_pins_least_ok _ _ _ _ ?_
  unfold store_pins_least
  refine ⟨?_⟩
  simp only [eRangeM, M.map]
  refine range_loop M (fun ds vs => ∃ m, vs = [I m] ∧ IsMin now ds m) ⟨now, rfl, IsMin.nil now⟩ fun ds vs next hnd hds hi hnext => ?_
  obtain ⟨m, rfl, hm⟩ := hi
  unfold store_pins_least_l3
  refine next_round M hds (fun hall => ?_) fun e he hn => ?_
  · refine ⟨?_⟩
    simp only [pExtract, List.getElem?_cons_zero, ifB]
    have : m = minK es now := IsMin.uniq hds hall hm (by have := minK_is es [] now now (IsMin.nil now); simpa using this)
    rw [this]
    exact k ds
  · refine ⟨?_⟩
    simp only [pExtract, List.getElem?_cons_zero, ifB]
    refine entry_now M he ⟨?_⟩
    simp only [pExtract, List.getElem?_cons_zero]
    obtain ⟨q, hq⟩ := keysB_ok hk e he
    refine ⟨?_⟩
    simp only [nthA, List.getElem?_cons_zero, Option.getD_some, pMin, hq]
    refine hnext e _ he hn ⟨_, rfl, ?_⟩
    have := minK_is [e] ds now m hm
    simp only [minK, hq] at this
    exact this
def spLeast (args : List AV) (t : HT) (n : Nat) (K : AV → HT → Nat → Bool) : Bool := match args with
  | [.map j, .lit (.int .i64 now)] => (match t.get j with
      | some (.amap es clock) => bA (bornUp 0 clock es) (bA (oneAll es) (bA (keysB es) (fI (minK es now) fun s => K (I s) t (n + 1))))
      | _ => false)
  | _ => false
theorem spLeast_ok {args : List AV} {t : HT} {n : Nat} {h : AHeap} {K : AV → HT → Nat → Bool} (hr : HR t n h) (k : spLeast args t n K = true) : C fn_store_pins_least args h (KH K) := by
  unfold spLeast at k
  split at k
  · split at k
    · rename_i es clock hj
      simp only [bA_eq, fI_eq] at k
      obtain ⟨k1, k2, k3, k4⟩ := k
      exact least_ok ⟨hr.at_ _ _ hj, k1, k2⟩ k3 _ fun ds => ⟨t, n + 1, hr.more [mit _ clock ds], k4⟩
    · cases k
  · cases k
def chgB (t : HT) (si so : Nat) (key : Value) (at_ : Int) : Option Bool := match tload t 1 (.ptr si (so + 3)) with
  | some [.map j] => (match t.get j with
    | some (.amap es _) => (match bA (kOk .string key) (kAll .string es) with
      | true => (match tfind key es 0 with
        | none => some false
        | some (_, _, .full 0 _) => some false
        | some (_, _, .sl a off len sz) => (match Nat.beq sz 4 with
          | true => (match len with
            | 0 => some false
            | len + 1 => (match Nat.ble len 1000000 with
              | true => (match tload t 1 (.ptr a (off + len * 4 + 3)) with
                | some [.lit (.int .i64 st)] => some (iLt at_ st)
                | _ => none)
              | false => none))
          | false => none)
        | _ => none)
      | false => none)
    | _ => none)
  | _ => none
theorem chg_ok {t : HT} {n : Nat} {h : AHeap} (hr : HR t n h) {si so : Nat} {key : Value} {at_ : Int} {b : Bool} (e : chgB t si so key at_ = some b) (Q : QT) (k : Q (B b) h) : C fn_store_Store_Changed [.ptr si so, .lit key, I at_] h Q := by
  refine store_Store_Changed_ok _ _ _ _ _ ?_
  unfold store_Store_Changed
  unfold chgB at e
  split at e
  · rename_i j hl
    split at e
    · rename_i es clock hj
      split at e
      · rename_i hk
        rw [bA_eq, kAll_eq] at hk
        refine ⟨⟨⟨?_⟩⟩⟩
        simp only [pLoad1, tload_eq hr hl]
        refine ⟨?_⟩
        simp only [pLookup, hr.at_ _ _ hj]
        rw [if_pos (by simp [hk.1, hk.2]), ← tfind_eq]
        split at e
        · rename_i hf
          cases e
          simp only [hf, Bool.false_eq_true, if_false]
          refine ⟨⟨?_⟩⟩
          simp only [pBin, binLit, if_true, intBin]
          exact k
        · rename_i hf
          cases e
          simp only [hf, Bool.false_eq_true, if_false]
          refine ⟨⟨?_⟩⟩
          simp only [pBin, binLit, if_true, intBin]
          exact k
        · rename_i a off len sz hf
          split at e
          · rename_i hsz
            have hsz := Nat.eq_of_beq_eq_true hsz
            subst hsz
            simp only [hf, Bool.false_eq_true, if_false]
            refine ⟨⟨?_⟩⟩
            simp only [pBin, binLit, if_true, intBin]
            split at e
            · cases e
              exact k
            · rename_i len
              split at e
              · rename_i hb
                have hb := Nat.le_of_ble_eq_true hb
                split at e
                · rename_i st hst
                  cases e
                  have hpos : decide (((len + 1 : Nat) : Int) > 0) = true := by simp
                  simp only [hpos, ifB]
                  refine ⟨⟨?_⟩⟩
                  simp only [pBin, binLit, if_true, intBin]
                  rw [IntWalk.i64_in _ (by omega)]
                  have e1 : ((len + 1 : Nat) : Int) - 1 = (len : Int) := by omega
                  rw [e1]
                  refine ⟨?_⟩
                  simp only [pIndexAddr, asI, Int.toNat_natCast]
                  refine ⟨⟨by omega, by omega, trivial⟩, ⟨⟨?_⟩⟩⟩
                  simp only [pLoad1, tload_eq hr hst]
                  refine ⟨?_⟩
                  simp only [pBin, binLit, if_true, intBin]
                  have e2 : decide (st > at_) = iLt at_ st := by rw [Bool.eq_iff_iff, iLt_iff, decide_eq_true_eq]
                  rw [e2]
                  exact k
                · cases e
              · cases e
          · cases e
        · cases e
      · cases e
    · cases e
  · cases e
def chgAny (t : HT) (si so : Nat) (at_ : Int) : MEnts → Option Bool
  | [] => some false
  | e :: es => match chgB t si so e.1 at_ with
    | some b => (match chgAny t si so at_ es with | some c => some (bI b true c) | none => none)
    | none => none
theorem chgAny_ok {t : HT} {si so : Nat} {at_ : Int} : ∀ {es : MEnts} {c : Bool}, chgAny t si so at_ es = some c → (∀ e ∈ es, ∃ b, chgB t si so e.1 at_ = some b ∧ (b = true → c = true)) ∧ (c = true → ∃ e ∈ es, chgB t si so e.1 at_ = some true)
  | [], c, h => by cases h; exact ⟨fun e he => (by cases he), fun h => by cases h⟩
  | x :: es, c, h => by
    unfold chgAny at h
    split at h
    · rename_i b hb
      split at h
      · rename_i c' hc'
        cases h
        obtain ⟨i1, i2⟩ := chgAny_ok hc'
        refine ⟨fun e he => ?_, fun hc => ?_⟩
        · rcases List.mem_cons.1 he with rfl | he
          · exact ⟨b, hb, fun h => by subst h; rfl⟩
          · obtain ⟨b2, h1, h2⟩ := i1 e he
            exact ⟨b2, h1, fun h => by rw [h2 h]; cases b <;> rfl⟩
        · rcases (bI_eq _ _ _).1 hc with ⟨h1, _⟩ | ⟨_, h1⟩
          · subst h1; exact ⟨x, by simp, hb⟩
          · obtain ⟨e, he, h2⟩ := i2 h1
            exact ⟨e, by simp [he], h2⟩
      · cases h
    · cases h
def spChanged (args : List AV) (t : HT) (n : Nat) (K : AV → HT → Nat → Bool) : Bool := match args with
  | [.ptr i o] => match tload t 1 (.ptr i (o + 11)), tload t 1 (.ptr i (o + 0)), tload t 1 (.ptr i (o + 9)) with
    | some [.map j], some [.ptr si so], some [.lit (.int .i64 at_)] => (match t.get j with
      | some (.amap es clock) => bA (bornUp 0 clock es) (bA (oneAll es) (match chgAny t si so at_ es with | some c => fB c fun c => K (B c) t (n + 1) | none => false))
      | _ => false)
    | _, _, _ => false
  | _ => false
theorem spChanged_ok {args : List AV} {t : HT} {n : Nat} {h : AHeap} {K : AV → HT → Nat → Bool} (hr : HR t n h) (k : spChanged args t n K = true) : C fn_txn_Txn_changed args h (KH K) := by
  unfold spChanged at k
  split at k
  · rename_i i o
    split at k
    · rename_i j si so at_ l1 l2 l3
      split at k
      · rename_i es clock hj
        simp only [bA_eq] at k
        obtain ⟨k1, k2, k⟩ := k
        split at k
        · rename_i c hc
          rw [fB_eq] at k
          obtain ⟨c1, c2⟩ := chgAny_ok hc
          have M : Meets h j es clock := ⟨hr.at_ _ _ hj, k1, k2⟩
          refine txn_Txn_changed_ok _ _ _ ?_
          unfold txn_Txn_changed
          refine ⟨⟨⟨?_⟩⟩⟩
          simp only [pLoad1, tload_eq hr l1]
          refine ⟨?_⟩
          simp only [eRangeM, M.map]
          refine range_loop M (fun ds vs => vs = [B false] ∧ ∀ e ∈ ds, chgB t si so e.1 at_ = some false) ⟨rfl, fun e he => by cases he⟩ fun ds vs next hnd hds hi hnext => ?_
          obtain ⟨rfl, hall⟩ := hi
          unfold txn_Txn_changed_l4
          refine next_round M hds (fun hcov => ?_) fun e he hn => ?_
          · refine ⟨?_⟩
            simp only [pExtract, List.getElem?_cons_zero, ifB]
            have : c = false := by
              cases c with
              | false => rfl
              | true =>
                obtain ⟨e, he, h2⟩ := c2 rfl
                rw [hall e (hcov e he)] at h2; cases h2
            subst this
            exact ⟨t, n + 1, hr.more [mit j clock ds], k⟩
          · refine ⟨?_⟩
            simp only [pExtract, List.getElem?_cons_zero, ifB]
            refine entry_now M he ⟨?_⟩
            simp only [pExtract, List.getElem?_cons_zero]
            have hr2 : HR t (n + 1) (h ++ [mit j clock (ds ++ [e])]) := hr.more [mit j clock (ds ++ [e])]
            refine ⟨⟨⟨?_⟩⟩⟩
            simp only [pLoad1, tload_eq hr2 l2]
            refine ⟨⟨⟨?_⟩⟩⟩
            simp only [pLoad1, tload_eq hr2 l3]
            obtain ⟨b, hb, hbc⟩ := c1 e he
            refine chg_ok hr2 hb _ ?_
            cases b with
            | true =>
              simp only [ifB]
              rw [hbc rfl] at k
              exact ⟨t, n + 1, hr2, k⟩
            | false =>
              simp only [ifB]
              refine hnext e _ he hn ⟨rfl, fun x hx => ?_⟩
              rcases List.mem_append.1 hx with hx | hx
              · exact hall x hx
              · simp at hx; subst hx; exact hb
        · cases k
      · cases k
    · cases k
  · cases k
end
def sp10 : SpecB := fun f args t n K => match Nat.beq f fn_store_Store_Count with
  | true => some (spCount args t n K)
  | false => match Nat.beq f fn_store_pins_least with
    | true => some (spLeast args t n K)
    | false => match Nat.beq f fn_txn_Txn_changed with
      | true => some (spChanged args t n K)
      | false => spK f args t n K
theorem sp10_ok [Tabs5] : SpecOk Pg sp10 := fun f args t n h K hr k => by
  unfold sp10 at k
  split at k
  · rename_i hf; rw [Nat.eq_of_beq_eq_true hf]; exact spCount_ok hr (by simpa using k)
  split at k
  · rename_i hf; rw [Nat.eq_of_beq_eq_true hf]; exact spLeast_ok hr (by simpa using k)
  split at k
  · rename_i hf; rw [Nat.eq_of_beq_eq_true hf]; exact spChanged_ok hr (by simpa using k)
  exact spK_ok f args t n h K hr k
end
end Go.Proofs.YtamfimhaimaeiaaGreatDoor.AL
namespace Go.Proofs.YtamfimhaimaeiaaGreatDoor.AL
noncomputable section
class Ky (κ : Type) where
  dec : DecidableEq κ
  lt : κ → κ → Prop
  dlt : DecidableRel lt
  irr : ∀ a, ¬ lt a a
  trans : ∀ {a b c}, lt a b → lt b c → lt a c
  tri : ∀ {a b}, ¬ lt a b → a ≠ b → lt b a
  val : κ → Value
  kd : TypeDesc
  kok : ∀ k, kOk kd (val k) = true
  keq : ∀ a b, AL.keq (val a) (val b) = @decide (a = b) (dec a b)
  one : ∀ k, (val k).oneCell' = true
instance (κ : Type) [Ky κ] : DecidableEq κ := Ky.dec
instance (κ : Type) [Ky κ] : DecidableRel (Ky.lt (κ := κ)) := Ky.dlt
section
variable {κ α : Type} [Ky κ]
abbrev KM (κ α : Type) := List (κ × α)
abbrev KL (α : Type) := KM (List UInt8) α
def lookK (k : κ) : KM κ α → Option α
  | [] => none
  | (a, v) :: r => if k = a then some v else lookK k r
def insK (k : κ) (v : α) : KM κ α → KM κ α
  | [] => [(k, v)]
  | (a, w) :: r => if k = a then (k, v) :: r else if Ky.lt k a then (k, v) :: (a, w) :: r else (a, w) :: insK k v r
def SoK (l : KM κ α) : Prop := l.Pairwise fun a b => Ky.lt a.1 b.1
theorem lt_ne {a b : κ} (h : Ky.lt a b) : a ≠ b := fun e => by subst e; exact Ky.irr _ h
theorem lt_tri {a b : κ} (h1 : ¬ Ky.lt a b) (h2 : a ≠ b) : Ky.lt b a := Ky.tri h1 h2
theorem SoK.nd {l : KM κ α} (s : SoK l) : (l.map (·.1)).Nodup := by
  rw [List.nodup_iff_pairwise_ne, List.pairwise_map]
  exact s.imp fun h => lt_ne h
theorem insK_mem {k : κ} {v : α} : ∀ {l : KM κ α}, SoK l → ∀ x, x ∈ insK k v l ↔ x = (k, v) ∨ (x ∈ l ∧ x.1 ≠ k)
  | [], _, x => by simp [insK]
  | (a, w) :: r, s, x => by
    obtain ⟨s1, s2⟩ := List.pairwise_cons.1 s
    unfold insK
    by_cases h : k = a
    · subst h
      rw [if_pos rfl]
      simp only [List.mem_cons]
      constructor
      · rintro (h | h)
        · exact .inl h
        · exact .inr ⟨.inr h, fun e => lt_ne (s1 x h) e.symm⟩
      · rintro (h | ⟨h | h, h2⟩)
        · exact .inl h
        · subst h; exact (h2 rfl).elim
        · exact .inr h
    · rw [if_neg h]
      split
      · rename_i h1
        simp only [List.mem_cons]
        constructor
        · rintro (h2 | h2 | h2)
          · exact .inl h2
          · exact .inr ⟨.inl h2, by subst h2; exact Ne.symm h⟩
          · exact .inr ⟨.inr h2, fun e => lt_ne (Ky.trans h1 (s1 x h2)) e.symm⟩
        · rintro (h2 | ⟨h2, _⟩)
          · exact .inl h2
          · exact .inr h2
      · simp only [List.mem_cons, insK_mem s2 x]
        constructor
        · rintro (h2 | h2 | ⟨h2, h3⟩)
          · exact .inr ⟨.inl h2, by subst h2; exact Ne.symm h⟩
          · exact .inl h2
          · exact .inr ⟨.inr h2, h3⟩
        · rintro (h2 | ⟨h2 | h2, h3⟩)
          · exact .inr (.inl h2)
          · exact .inl h2
          · exact .inr (.inr ⟨h2, h3⟩)
theorem insK_so {k : κ} {v : α} : ∀ {l : KM κ α}, SoK l → SoK (insK k v l)
  | [], _ => by simp [insK, SoK]
  | (a, w) :: r, s => by
    obtain ⟨s1, s2⟩ := List.pairwise_cons.1 s
    unfold insK
    by_cases h : k = a
    · subst h
      rw [if_pos rfl]
      exact List.pairwise_cons.2 ⟨s1, s2⟩
    · rw [if_neg h]
      split
      · rename_i h1
        refine List.pairwise_cons.2 ⟨fun x hx => ?_, s⟩
        rcases List.mem_cons.1 hx with rfl | hx
        · exact h1
        · exact Ky.trans h1 (s1 x hx)
      · rename_i h1
        refine List.pairwise_cons.2 ⟨fun x hx => ?_, insK_so s2⟩
        rcases (insK_mem s2 x).1 hx with rfl | ⟨h2, _⟩
        · exact lt_tri h1 h
        · exact s1 x h2
theorem lookK_none {k : κ} : ∀ {l : KM κ α}, lookK k l = none ↔ ∀ x ∈ l, x.1 ≠ k
  | [] => by simp [lookK]
  | (a, w) :: r => by
    unfold lookK
    split
    · rename_i h; subst h; simp
    · rename_i h
      rw [lookK_none (l := r)]
      simp only [List.mem_cons, forall_eq_or_imp]
      exact ⟨fun hh => ⟨Ne.symm h, hh⟩, fun hh => hh.2⟩
theorem lookK_mem {k : κ} {v : α} : ∀ {l : KM κ α}, (l.map (·.1)).Nodup → (lookK k l = some v ↔ (k, v) ∈ l)
  | [], _ => by simp [lookK]
  | (a, w) :: r, nd => by
    simp only [List.map_cons, List.nodup_cons] at nd
    unfold lookK
    by_cases h : k = a
    · subst h
      rw [if_pos rfl]
      simp only [Option.some.injEq, List.mem_cons, Prod.mk.injEq, true_and]
      constructor
      · intro h; exact .inl h.symm
      · rintro (h | h)
        · exact h.symm
        · exact (nd.1 (List.mem_map.2 ⟨_, h, rfl⟩)).elim
    · rw [if_neg h, lookK_mem (l := r) nd.2]; simp [h]
theorem perm_of_mem {a b : KM κ α} (na : (a.map (·.1)).Nodup) (nb : (b.map (·.1)).Nodup) (e : ∀ x, x ∈ a ↔ x ∈ b) : a.Perm b :=
  (List.perm_ext_iff_of_nodup (List.Pairwise.of_map _ (fun _ _ h e => h (by rw [e])) na) (List.Pairwise.of_map _ (fun _ _ h e => h (by rw [e])) nb)).2 e
end
instance kyS : Ky (List UInt8) where
  dec := inferInstance
  lt := (· < ·)
  dlt := inferInstance
  irr _ := List.lt_irrefl _
  trans := List.lt_trans
  tri h1 h2 := Std.lt_of_le_of_ne (List.not_lt.1 h1) (Ne.symm h2)
  val k := .string ⟨⟨k⟩⟩
  kd := .string
  kok _ := rfl
  keq x y := by
    show ((⟨x⟩ : Array UInt8) == ⟨y⟩) = decide (x = y)
    rw [Bool.eq_iff_iff, decide_eq_true_eq]; simp
  one _ := rfl
instance kyI : Ky Int where
  dec := inferInstance
  lt := (· < ·)
  dlt := inferInstance
  irr _ := Int.lt_irrefl _
  trans := Int.lt_trans
  tri h1 h2 := by omega
  val k := .int .i64 k
  kd := .int .i64
  kok _ := rfl
  keq x y := by
    show (x == y) = decide (x = y)
    rw [Bool.eq_iff_iff, decide_eq_true_eq]; simp
  one _ := rfl
def mE {κ α : Type} [Ky κ] (enc : α → AV) (es : List (κ × Nat × α)) : MEnts := es.map fun e => (Ky.val e.1, e.2.1, enc e.2.2)
structure MapR {κ α : Type} [Ky κ] (enc : α → AV) (es : List (κ × Nat × α)) (n : Nat) (l : KM κ α) : Prop where
  up : (es.map (·.2.1)).Pairwise (· < ·)
  lt : ∀ e ∈ es, e.2.1 < n
  nd : (es.map (·.1)).Nodup
  eq : ∀ x, x ∈ es.map (fun e => (e.1, e.2.2)) ↔ x ∈ l
  so : SoK l
def MapS {κ α : Type} [Ky κ] (enc : α → AV) (l : KM κ α) (o : AObj) : Prop := ∃ (es : List (κ × Nat × α)) (n : Nat), o = .amap (mE enc es) n ∧ MapR enc es n l
theorem MapS.nil {κ α : Type} [Ky κ] (enc : α → AV) : MapS enc ([] : KM κ α) (.amap [] 0) := ⟨[], 0, rfl, by simp, by simp, by simp, by simp, by simp [SoK]⟩
section
variable {κ α : Type} [Ky κ] {enc : α → AV} {es : List (κ × Nat × α)} {n : Nat} {l : KM κ α}
theorem MapR.kv (m : MapR enc es n l) : ((es.map (fun e => (e.1, e.2.2))).map (·.1)).Nodup := by rw [List.map_map]; exact m.nd
theorem MapR.perm (m : MapR enc es n l) : (es.map (fun e => (e.1, e.2.2))).Perm l := perm_of_mem m.kv m.so.nd m.eq
theorem MapR.len (m : MapR enc es n l) : es.length = l.length := by have := m.perm.length_eq; simpa using this
theorem mE_one (es : List (κ × Nat × α)) : (mE enc es).all (fun e => e.1.oneCell') = true := by simp [mE, Ky.one]
variable [Tabs]
theorem mfind_mE (k : κ) : ∀ (i : Nat) (es : List (κ × Nat × α)), (mfind (Ky.val k) (mE enc es) i = none ∧ ∀ e ∈ es, e.1 ≠ k) ∨ ∃ j, ∃ hj : j < es.length, mfind (Ky.val k) (mE enc es) i = some (i + j, es[j].2.1, enc es[j].2.2) ∧ es[j].1 = k
  | i, [] => .inl ⟨rfl, by simp⟩
  | i, (a, b, v) :: r => by
    unfold mE
    rw [List.map_cons, mfind, Ky.keq]
    by_cases h : k = a
    · subst h
      exact .inr ⟨0, by simp, by simp, rfl⟩
    · rw [if_neg (by simpa using h)]
      rcases mfind_mE k (i + 1) r with ⟨h1, h2⟩ | ⟨j, hj, h1, h2⟩
      · exact .inl ⟨h1, by simpa using ⟨Ne.symm h, fun x y z => h2 (x, y, z)⟩⟩
      · exact .inr ⟨j + 1, by simpa using hj, by unfold mE at h1; rw [h1]; simp; omega, by simpa using h2⟩
theorem MapR.find (m : MapR enc es n l) (k : κ) : (mfind (Ky.val k) (mE enc es) 0 = none ∧ lookK k l = none ∧ ∀ e ∈ es, e.1 ≠ k) ∨ ∃ j, ∃ hj : j < es.length, mfind (Ky.val k) (mE enc es) 0 = some (j, es[j].2.1, enc es[j].2.2) ∧ es[j].1 = k ∧ lookK k l = some es[j].2.2 := by
  rcases mfind_mE (enc := enc) k 0 es with ⟨h1, h2⟩ | ⟨j, hj, h1, h2⟩
  · refine .inl ⟨h1, lookK_none.2 fun x hx => ?_, h2⟩
    obtain ⟨e, he, rfl⟩ := List.mem_map.1 ((m.eq x).2 hx)
    exact h2 e he
  · refine .inr ⟨j, hj, by simpa using h1, h2, ?_⟩
    rw [lookK_mem m.so.nd, ← m.eq]
    exact List.mem_map.2 ⟨es[j], List.getElem_mem _, by rw [h2]⟩
theorem MapR.app (m : MapR enc es n l) {k : κ} {v : α} (hn : ∀ e ∈ es, e.1 ≠ k) : MapR enc (es ++ [(k, n, v)]) (n + 1) (insK k v l) where
  up := by
    rw [List.map_append, List.pairwise_append]
    refine ⟨m.up, by simp, fun a ha b hb => ?_⟩
    obtain ⟨e, he, rfl⟩ := List.mem_map.1 ha
    simp at hb; subst hb; exact m.lt e he
  lt e he := by
    rcases List.mem_append.1 he with h | h
    · have := m.lt e h; omega
    · simp at h; subst h; simp
  nd := by
    rw [List.map_append, List.nodup_append]
    refine ⟨m.nd, by simp, fun a ha b hb e => ?_⟩
    obtain ⟨x, hx, rfl⟩ := List.mem_map.1 ha
    simp at hb; subst hb; exact hn x hx e
  eq x := by
    rw [List.map_append, List.mem_append, m.eq, insK_mem m.so]
    simp only [List.map_cons, List.map_nil, List.mem_singleton]
    constructor
    · rintro (h | h)
      · obtain ⟨e, he, rfl⟩ := List.mem_map.1 ((m.eq x).2 h)
        exact .inr ⟨h, hn e he⟩
      · exact .inl h
    · rintro (h | ⟨h, _⟩)
      · exact .inr h
      · exact .inl h
  so := insK_so m.so
theorem nd_inj {β : Type} {l : List β} (nd : l.Nodup) {i j : Nat} (hi : i < l.length) (hj : j < l.length) (e : l[i] = l[j]) : i = j := by
  rw [List.nodup_iff_pairwise_ne, List.pairwise_iff_getElem] at nd
  rcases Nat.lt_trichotomy i j with h | h | h
  · exact (nd i j hi hj h e).elim
  · exact h
  · exact (nd j i hj hi h e.symm).elim
theorem mem_setIx {β : Type} {l : List β} {i : Nat} (hi : i < l.length) (nd : l.Nodup) (b x : β) : x ∈ l.set i b ↔ x = b ∨ (x ∈ l ∧ x ≠ l[i]) := by
  constructor
  · intro h
    obtain ⟨j, hj, rfl⟩ := List.getElem_of_mem h
    rw [List.getElem_set]
    split
    · exact .inl rfl
    · rename_i hne
      rw [List.length_set] at hj
      exact .inr ⟨List.getElem_mem _, fun e => hne (nd_inj nd hj hi e).symm⟩
  · rintro (rfl | ⟨h, hne⟩)
    · exact List.mem_iff_getElem.2 ⟨i, by simpa using hi, by simp⟩
    · obtain ⟨j, hj, rfl⟩ := List.getElem_of_mem h
      refine List.mem_iff_getElem.2 ⟨j, by simpa using hj, ?_⟩
      rw [List.getElem_set, if_neg]
      intro e; subst e; exact hne rfl
theorem MapR.set (m : MapR enc es n l) {k : κ} {v : α} {j : Nat} (hj : j < es.length) (hk : es[j].1 = k) : MapR enc (es.set j (k, es[j].2.1, v)) n (insK k v l) := by
  have e1 : (es.set j (k, es[j].2.1, v)).map (·.2.1) = es.map (·.2.1) := by rw [List.map_set]; refine List.ext_getElem (by simp) fun i h1 h2 => ?_; rw [List.getElem_set]; split <;> simp_all
  have e2 : (es.set j (k, es[j].2.1, v)).map (·.1) = es.map (·.1) := by rw [List.map_set]; refine List.ext_getElem (by simp) fun i h1 h2 => ?_; rw [List.getElem_set]; split <;> simp_all
  refine ⟨by rw [e1]; exact m.up, fun e he => ?_, by rw [e2]; exact m.nd, fun x => ?_, insK_so m.so⟩
  · have : e.2.1 ∈ (es.set j (k, es[j].2.1, v)).map (·.2.1) := List.mem_map_of_mem he
    rw [e1] at this
    obtain ⟨x, hx, he⟩ := List.mem_map.1 this
    rw [← he]; exact m.lt x hx
  · rw [List.map_set, insK_mem m.so, ← m.eq]
    have nd : (es.map (fun e => (e.1, e.2.2))).Nodup := List.Pairwise.of_map _ (fun _ _ h e => h (by rw [e])) m.kv
    rw [mem_setIx (by simpa using hj) nd]
    refine or_congr Iff.rfl (and_congr_right fun hx => not_congr ?_)
    rw [List.getElem_map]
    constructor
    · intro h; rw [h]; exact hk
    · intro h
      obtain ⟨q, hq, rfl⟩ := List.getElem_of_mem hx
      rw [List.length_map] at hq
      simp only [List.getElem_map] at h ⊢
      have := nd_inj m.nd (i := q) (j := j) (by simpa using hq) (by simpa using hj) (by simp [h, hk])
      subst this; rfl
variable {h0 h : AHeap} {M : List Nat} {L L' : Own} {K : AV → Prop} {KH : QT} {KL' : AHeap → Prop}
theorem MapS.put {o : AObj} (m : MapS enc l o) (k : κ) (v : α) : ∃ (es : List (κ × Nat × α)) (n : Nat), o = .amap (mE enc es) n ∧ MapS enc (insK k v l) (mput (Ky.val k) (enc v) n (mE enc es)) := by
  obtain ⟨es, n, rfl, r⟩ := m
  refine ⟨es, n, rfl, ?_⟩
  unfold mput
  rcases r.find k with ⟨h1, h2, h3⟩ | ⟨j, hj, h1, h2, h3⟩
  · rw [h1]; exact ⟨_, _, by simp [mE], r.app h3⟩
  · rw [h1]; exact ⟨_, _, by simp [mE, List.map_set], r.set hj h2⟩
end
section
variable [Tabs]
variable {α : Type} {enc : α → AV} {h0 h : AHeap} {M : List Nat} {L L' : Own} {K : AV → Prop} {KS' : AHeap → Prop}
end
end
end Go.Proofs.YtamfimhaimaeiaaGreatDoor.AL
namespace Go.Proofs.YtamfimhaimaeiaaGreatDoor.AL
noncomputable section
open Go.RowKit Go.Maps Go.Sort Go.Shelf Go.WideElems Go.WideShapes
open Go.Proofs (encStr)
variable [Tabs]
section
variable {P : Program}
end
end
end Go.Proofs.YtamfimhaimaeiaaGreatDoor.AL
namespace Go.Proofs.YtamfimhaimaeiaaGreatDoor.AL
noncomputable section
variable [Tabs]
section
variable {P : Program} {G : Gh} {h : AHeap} {w : World}
def fzM (i : Nat) (cs : List AV) : MEnts → MEnts
  | [] => []
  | (k, n, a) :: es => (k, n, fz i cs a) :: fzM i cs es
def fzO (i : Nat) (cs : List AV) : AObj → AObj
  | .cells ds => .cells (fzL i cs ds)
  | .amap es n => .amap (fzM i cs es) n
  | o => o
theorem fzL_get {i : Nat} {cs : List AV} : ∀ (ds : List AV) (j : Nat), (fzL i cs ds)[j]? = (ds[j]?).map (fz i cs)
  | [], j => by simp [fzL]
  | a :: az, 0 => by simp [fzL]
  | a :: az, j + 1 => by simp [fzL, fzL_get az j]
theorem fzL_len {i : Nat} {cs : List AV} : ∀ (ds : List AV), (fzL i cs ds).length = ds.length
  | [] => by simp [fzL]
  | a :: az => by simp [fzL, fzL_len az]
theorem Frz.repE {G G' : Gh} {i : Nat} {cs : List AV} (z : Frz G G' i cs) : ∀ (es : MEnts) (l : List MapEntry), RepE G es l → RepE G' (fzM i cs es) l
  | [], l, h => h
  | (k, n, a) :: es, l, h => by
    simp only [RepE, fzM] at h ⊢
    obtain ⟨e, r, h1, h2, h3, h4, h5⟩ := h
    exact ⟨e, r, h1, h2, h3, z.rep a _ h4, z.repE es r h5⟩
theorem fzO_live {i : Nat} {cs : List AV} (o : AObj) : (fzO i cs o).live = o.live := by cases o <;> rfl
theorem Frz.objAt {G G' : Gh} {i : Nat} {cs : List AV} (z : Frz G G' i cs) {q : Nat} {o : AObj} (x : ObjAt G w q o) : ObjAt G' w q (fzO i cs o) := by
  cases o with
  | cells ds =>
    obtain ⟨b, o, arr, el, lo, hi, e1, e2, e3, e4, e5, e6⟩ := x
    refine ⟨b, o, arr, el, lo, hi, z.le.loc _ _ e1, e2, e3, by rw [z.le.cap _ _ e1, fzL_len]; exact e4, by rw [z.le.cap _ _ e1]; exact e5, fun j a ha => ?_⟩
    rw [fzL_get] at ha
    cases hj : ds[j]? with
    | none => rw [hj] at ha; cases ha
    | some d =>
      rw [hj] at ha; cases ha
      obtain ⟨v, h1, h2⟩ := e6 j d hj
      exact ⟨v, h1, z.rep d v h2⟩
  | amap es n =>
    obtain ⟨b, arr, e1, e2, e3⟩ := x
    exact ⟨b, arr, z.le.loc _ _ e1, e2, z.repE es _ e3⟩
  | _ => exact x.keep z.le fun p _ _ => rfl
theorem sim_frzIn (s : Sim G h w) {i : Nat} {cs : List AV} (hi : h[i]? = some (.cells cs)) {q : Nat} {oq : AObj} (hq : h[q]? = some oq) (hne : q ≠ i) :
    ∃ G', Sim G' ((h.set i .dead).set q (fzO i cs oq)) w ∧ Evo G h w G' ((h.set i .dead).set q (fzO i cs oq)) w ∧ Frz G G' i cs := by
  obtain ⟨G', s', ev, z⟩ := sim_frz s hi
  have hq' : (h.set i .dead)[q]? = some oq := by rw [List.getElem?_set_ne (Ne.symm hne)]; exact hq
  have hql := (List.getElem?_eq_some_iff.1 hq').1
  have key : ∀ (k : Nat) (ok : AObj), ((h.set i .dead).set q (fzO i cs oq))[k]? = some ok → ∃ ok', (h.set i .dead)[k]? = some ok' ∧ ok'.live = ok.live ∧ (k = q ∧ ok = fzO i cs oq ∨ k ≠ q ∧ ok = ok') := fun k ok hk => by
    by_cases e : k = q
    · subst e
      rw [List.getElem?_set_self hql] at hk
      cases hk
      exact ⟨oq, hq', (fzO_live oq).symm, .inl ⟨rfl, rfl⟩⟩
    · rw [List.getElem?_set_ne (Ne.symm e)] at hk
      exact ⟨ok, hk, rfl, .inr ⟨e, rfl⟩⟩
  refine ⟨G', ⟨fun k ok hk => ?_, fun k p hp => by simpa using s'.dom k p hp, fun a b oa ob p r ha hb la lb hp hr e => ?_, s'.frz, fun k ok p hk hl hp off => ?_, s'.tab⟩, ⟨ev.le, ev.size, ev.os, ev.tape, ev.output, ev.frame, fun b ⟨k, ok, p, hk, hl, hp, e⟩ => ?_, ev.fz⟩, z⟩
  · obtain ⟨ok', h1, h2, h3⟩ := key k ok hk
    rcases h3 with ⟨rfl, rfl⟩ | ⟨_, rfl⟩
    · exact z.objAt (s.obj _ _ hq)
    · exact s'.obj _ _ h1
  · obtain ⟨oa', a1, a2, _⟩ := key a oa ha
    obtain ⟨ob', b1, b2, _⟩ := key b ob hb
    exact s'.apart a b oa' ob' p r a1 b1 (a2.trans la) (b2.trans lb) hp hr e
  · obtain ⟨ok', h1, h2, _⟩ := key k ok hk
    exact s'.sep k ok' p h1 (h2.trans hl) hp off
  · obtain ⟨ok', h1, h2, _⟩ := key k ok hk
    exact ev.own b ⟨k, ok', p, h1, h2.trans hl, hp, e⟩
inductive ConvI : AV → AHeap → QT where
  | refl (r : AV) (h : AHeap) : ConvI r h r h
  | conv {r : AV} {h : AHeap} {r1 : AV} {h1 : AHeap} {r2 : AV} {h2 : AHeap} (c : Conv r h r1 h1) (k : ConvI r1 h1 r2 h2) : ConvI r h r2 h2
  | frzIn {r : AV} {h : AHeap} {r2 : AV} {h2 : AHeap} (i : Nat) (cs : List AV) (hi : h[i]? = some (.cells cs)) (q : Nat) (oq : AObj) (hq : h[q]? = some oq) (hne : q ≠ i) (k : ConvI (fz i cs r) ((h.set i .dead).set q (fzO i cs oq)) r2 h2) : ConvI r h r2 h2
theorem ConvI.ok {r : AV} {h : AHeap} {r2 : AV} {h2 : AHeap} (c : ConvI r h r2 h2) : ∀ {G : Gh} {w : World} {v : Value}, Sim G h w → Rep G r v → ∃ G', Sim G' h2 w ∧ Evo G h w G' h2 w ∧ Rep G' r2 v := by
  induction c with
  | refl r h => exact fun s hr => ⟨_, s, Evo.refl _ _ _, hr⟩
  | conv c k ih =>
    intro G w v s hr
    obtain ⟨G', s', ev, hr'⟩ := c.ok s hr
    obtain ⟨G2, s2, ev2, hr2⟩ := ih s' hr'
    exact ⟨G2, s2, ev.trans ev2, hr2⟩
  | frzIn i cs hi q oq hq hne k ih =>
    intro G w v s hr
    obtain ⟨G', s', ev, z⟩ := sim_frzIn s hi hq hne
    obtain ⟨G2, s2, ev2, hr2⟩ := ih s' (z.rep _ _ hr)
    exact ⟨G2, s2, ev.trans ev2, hr2⟩
theorem St.frzIn {h0 : AHeap} {M : List Nat} {L L' L2 : Own} {i q : Nat} {cs : List AV} {oq : AObj} (s : St h0 M h L) (d : Del L (i, true, .cells cs) L') (u : Sub L' (q, true, oq) L2 (q, true, fzO i cs oq)) : q ≠ i ∧ St h0 M ((h.set i .dead).set q (fzO i cs oq)) L2 :=
  ⟨d.ne s.nd _ u.mem, (s.kill d).turn u⟩
end
end
end Go.Proofs.YtamfimhaimaeiaaGreatDoor.AL
namespace Go.Proofs.YtamfimhaimaeiaaGreatDoor.AL
noncomputable section
section
variable [Tabs]
variable {κ α : Type} [Ky κ] {enc : α → AV} {es : List (κ × Nat × α)} {n : Nat} {l : KM κ α}
variable {h0 h : AHeap} {M : List Nat} {L L' : Own} {K : AV → Prop} {KH : QT} {KS' : AHeap → Prop}
abbrev iterS (j n : Nat) (seen : List Nat) : AObj := .miter (some j) n seen n
theorem st_rangeMS {j : Nat} (s : St h0 M h L) (e : h[j]? = some (.amap (mE enc es) n)) (k : ∀ i h', St h0 M h' ((i, true, iterS j n []) :: L) → KH (.ptr i 0) h') : qRangeM (.map j) h KH := ⟨by
  simp only [eRangeM, e]
  exact k _ _ (s.push _)⟩
theorem st_nextMS {j i : Nat} {seen : List Nat} (s : St h0 M h ((i, true, iterS j n seen) :: L)) (e : h[j]? = some (.amap (mE enc es) n)) (m : MapR enc es n l) (k0 : (∀ x ∈ es, x.2.1 ∈ seen) → KH (.tup [B false]) h)
    (k1 : ∀ x ∈ es, x.2.1 ∉ seen → ∀ h', St h0 M h' ((i, true, iterS j n (seen ++ [x.2.1])) :: L) → KH (.tup [B true, .lit (Ky.val x.1), enc x.2.2]) h') : qNextM (.ptr i 0) h KH := ⟨by
  simp only [eNextM, s.get (.head _), e]
  refine ⟨⟨mE_one es, ?_⟩, fun hall => k0 fun x hx => ?_, fun y hy hn => ?_⟩
  · cases es with
    | nil => simp [mE]
    | cons x r => have := m.lt x (by simp); simp [mE]; omega
  · rcases hall (Ky.val x.1, x.2.1, enc x.2.2) (List.mem_map.2 ⟨x, hx, rfl⟩) with h | h
    · exact h
    · have := m.lt x hx; simp at h; omega
  · obtain ⟨x, hx, rfl⟩ := List.mem_map.1 hy
    exact k1 x hx hn _ (s.turn .head)⟩
theorem bornFind_mE : ∀ (es : List (κ × Nat × α)) (x : κ × Nat × α), x ∈ es → (es.map (·.2.1)).Nodup → bornFind x.2.1 (mE enc es) = some (Ky.val x.1, enc x.2.2)
  | [], x, h, _ => by simp at h
  | y :: es, x, h, nd => by
    simp only [List.map_cons, List.nodup_cons] at nd
    show bornFind x.2.1 ((Ky.val y.1, y.2.1, enc y.2.2) :: mE enc es) = _
    unfold bornFind
    rcases List.mem_cons.1 h with rfl | h
    · rw [if_pos (by simp)]
    · rw [if_neg, bornFind_mE es x h nd.2]
      simp only [beq_iff_eq]
      intro e
      exact nd.1 (e ▸ List.mem_map_of_mem h)
theorem MapR.nb (m : MapR enc es n l) : (es.map (·.2.1)).Nodup := m.up.imp fun h => Nat.ne_of_lt h
theorem st_entryMS {j i : Nat} {b : Bool} {seen : List Nat} {x : κ × Nat × α} (s : St h0 M h L) (u : (i, b, iterS j n (seen ++ [x.2.1])) ∈ L) (e : h[j]? = some (.amap (mE enc es) n)) (m : MapR enc es n l) (hx : x ∈ es) (k : K (.tup [.lit (Ky.val x.1), enc x.2.2])) : qEntry (.ptr i 0) h K := ⟨by
  simp only [pEntry, s.get u, e, List.getLast?_concat]
  rw [bornFind_mE es x hx m.nb]
  simp only
  rw [if_pos (by simp [Ky.one])]
  exact k⟩
theorem done_perm {done : List (κ × Nat × α)} (m : MapR enc es n l) (hd : ∀ x ∈ done, x ∈ es) (nd : (done.map (·.2.1)).Nodup) (all : ∀ x ∈ es, x.2.1 ∈ done.map (·.2.1)) : done.Perm es := by
  have pe : ∀ {b : List (κ × Nat × α)}, (b.map (·.2.1)).Nodup → b.Nodup := fun nd => List.Pairwise.of_map _ (fun _ _ h e => h (by rw [e])) nd
  refine (List.perm_ext_iff_of_nodup (pe nd) (pe m.nb)).2 fun x => ⟨hd x, fun hx => ?_⟩
  obtain ⟨y, hy, e⟩ := List.mem_map.1 (all x hx)
  obtain ⟨p, hp, rfl⟩ := List.getElem_of_mem hx
  obtain ⟨q, hq, e2⟩ := List.getElem_of_mem (hd y hy)
  have := nd_inj m.nb (i := q) (j := p) (by simpa using hq) (by simpa using hp) (by simp [e2, e])
  subst this
  rw [e2]; exact hy
def kmap {β : Type} (f : α → β) (l : KM κ α) : KM κ β := l.map fun x => (x.1, f x.2)
theorem kmap_so {β : Type} {f : α → β} {l : KM κ α} : SoK l → SoK (kmap f l) := fun s => by
  unfold SoK kmap; rw [List.pairwise_map]; exact s
theorem fzM_mE (i : Nat) (cs : List AV) : ∀ es : List (κ × Nat × AV), fzM i cs (mE id es) = mE id (es.map fun x => (x.1, x.2.1, fz i cs x.2.2))
  | [] => rfl
  | x :: es => by
    show (Ky.val x.1, x.2.1, fz i cs x.2.2) :: fzM i cs (mE id es) = _
    rw [fzM_mE i cs es]; rfl
theorem MapS.fz {l : KM κ AV} {o : AObj} (m : MapS id l o) (i : Nat) (cs : List AV) : MapS id (kmap (AL.fz i cs) l) (fzO i cs o) := by
  obtain ⟨es, n, rfl, r⟩ := m
  refine ⟨es.map fun x => (x.1, x.2.1, AL.fz i cs x.2.2), n, by rw [← fzM_mE]; rfl, ⟨by rw [List.map_map]; exact r.up, fun e he => ?_, by rw [List.map_map]; exact r.nd, fun x => ?_, kmap_so r.so⟩⟩
  · obtain ⟨y, hy, rfl⟩ := List.mem_map.1 he; exact r.lt y hy
  · simp only [List.map_map, List.mem_map, Function.comp, kmap]
    constructor
    · rintro ⟨e, he, rfl⟩; exact ⟨(e.1, e.2.2), (r.eq _).1 (List.mem_map.2 ⟨e, he, rfl⟩), rfl⟩
    · rintro ⟨y, hy, rfl⟩
      obtain ⟨e, he, rfl⟩ := List.mem_map.1 ((r.eq y).2 hy)
      exact ⟨e, he, rfl⟩
theorem MapS.so {l : KM κ α} {o : AObj} (m : MapS enc l o) : SoK l := by obtain ⟨_, _, _, r⟩ := m; exact r.so
end
end
end Go.Proofs.YtamfimhaimaeiaaGreatDoor.AL
namespace Go.Proofs.YtamfimhaimaeiaaGreatDoor.AL
noncomputable section
variable [Tabs]
def dropB (c : UInt8) : Str → Str
  | [] => []
  | x :: l => if x = c then dropB c l else x :: l
end
end Go.Proofs.YtamfimhaimaeiaaGreatDoor.AL
namespace Go.Proofs.YtamfimhaimaeiaaGreatDoor.AL
noncomputable section
variable [Tabs]
end
end Go.Proofs.YtamfimhaimaeiaaGreatDoor.AL
namespace Go.Proofs.YtamfimhaimaeiaaGreatDoor.AL
noncomputable section
variable [Tabs]
end
end Go.Proofs.YtamfimhaimaeiaaGreatDoor.AL
namespace Go.Proofs.YtamfimhaimaeiaaGreatDoor.AL
noncomputable section
variable [Tabs]
def splitB (c : UInt8) : Str → List Str
  | [] => [[]]
  | x :: l => if x = c then [] :: splitB c l else match splitB c l with | [] => [[x]] | p :: ps => (x :: p) :: ps
end
end Go.Proofs.YtamfimhaimaeiaaGreatDoor.AL
namespace Go.Proofs.YtamfimhaimaeiaaGreatDoor.AL
noncomputable section
structure Rw where
  name : List UInt8
  bits : Nat
  kinds : List UInt8
end
end Go.Proofs.YtamfimhaimaeiaaGreatDoor.AL
set_option exponentiation.threshold 2000
namespace Go.Proofs.YtamfimhaimaeiaaGreatDoor.AL
noncomputable section
open Ieee
end
end Go.Proofs.YtamfimhaimaeiaaGreatDoor.AL
namespace Go.Proofs.YtamfimhaimaeiaaGreatDoor.AL
noncomputable section
variable [Tabs]
end
end Go.Proofs.YtamfimhaimaeiaaGreatDoor.AL
namespace Go.Proofs.YtamfimhaimaeiaaGreatDoor.AL
noncomputable section
variable [Tabs]
end
end Go.Proofs.YtamfimhaimaeiaaGreatDoor.AL
