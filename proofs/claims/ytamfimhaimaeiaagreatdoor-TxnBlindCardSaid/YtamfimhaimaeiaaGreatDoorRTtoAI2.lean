import Derived.Test.YtamfimhaimaeiaaGreatDoorSPK
import Derived.Test.YtamfimhaimaeiaaGreatDoorAL27toAL31
import Derived.Test.YtamfimhaimaeiaaGreatDoorAM4toAM6
import Derived.MapKept
import Derived.Test.YtamfimhaimaeiaaGreatDoorF5
import Derived.Lib.Index
set_option linter.all false
set_option autoImplicit true
set_option relaxedAutoImplicit true
set_option maxRecDepth 100000
namespace Go.Proofs.YtamfimhaimaeiaaGreatDoor.AL
noncomputable section
open Go.Proofs
section
variable [Tabs]
def rowLen : AV → Option Nat
  | .sl _ _ len _ => some len
  | .snap n _ => some n
  | .full n _ => some n
  | _ => none
def rowD (v : AV) : Nat := (rowLen v).getD 0
def rowsB : MEnts → Bool
  | [] => true
  | e :: es => match rowLen e.2.2 with | some _ => rowsB es | none => false
theorem rowsB_ok : ∀ {es : MEnts}, rowsB es = true → ∀ e ∈ es, rowLen e.2.2 = some (rowD e.2.2)
  | [], _, e, he => by cases he
  | x :: es, h, e, he => by
    unfold rowsB at h
    split at h
    · rename_i m hm
      rcases List.mem_cons.1 he with rfl | he
      · simp [rowD, hm]
      · exact rowsB_ok h e he
    · cases h
def sumD (es : MEnts) : Nat := (es.map fun e => rowD e.2.2).sum
theorem sumD_le : ∀ {ds es : MEnts}, ds.Nodup → (∀ e ∈ ds, e ∈ es) → sumD ds ≤ sumD es
  | [], es, _, _ => by simp [sumD]
  | d :: ds, es, hn, h => by
    obtain ⟨s, t, rfl⟩ := List.append_of_mem (h d (by simp))
    rw [List.nodup_cons] at hn
    have := sumD_le (ds := ds) (es := s ++ t) hn.2 fun e he => by
      have := h e (by simp [he])
      simp only [List.mem_append, List.mem_cons] at this ⊢
      rcases this with h1 | h1 | h1
      · exact .inl h1
      · subst h1; exact (hn.1 he).elim
      · exact .inr h1
    simp [sumD] at this ⊢; omega
theorem sumD_eq {ds es : MEnts} (hd : ds.Nodup) (he : es.Nodup) (h1 : ∀ e ∈ ds, e ∈ es) (h2 : ∀ e ∈ es, e ∈ ds) : sumD ds = sumD es := Nat.le_antisymm (sumD_le hd h1) (sumD_le he h2)
theorem sumD_snoc (ds : MEnts) (e : Ent) : sumD (ds ++ [e]) = sumD ds + rowD e.2.2 := by simp [sumD]
theorem length_ok (v : AV) (m : Nat) (hv : rowLen v = some m) (h : AHeap) (Q : QT) (k : Q (I m) h) : C fn_store_length [v] h Q := by
  refine store_length_ok _ _ _ ?_
  unfold store_length
  refine ⟨?_⟩
  unfold rowLen at hv
  unfold pLenL
  split at hv <;> first | (cases hv; exact k) | cases hv
theorem count_ok {h : AHeap} {i o j : Nat} {es : MEnts} {clock : Nat} (hl : aload h 1 (.ptr i (o + 3)) = some [.map j]) (M : Meets h j es clock) (hr : rowsB es = true) (hs : sumD es ≤ 1000000) (Q : QT)
    (k : ∀ ds, Q (I (sumD es)) (h ++ [mit j clock ds])) : C fn_store_Store_Count [.ptr i o] h Q := by
  refine store_Store_Count_ok _ _ _ ?_
  unfold store_Store_Count
  show ACall Pg fn_store_Store_total _ h _
  refine store_Store_total_ok _ _ _ _ ?_
  unfold store_Store_total
  refine ⟨⟨⟨?_⟩⟩⟩
  simp only [pLoad1, hl]
  refine ⟨?_⟩
  simp only [eRangeM, M.map]
  refine range_loop M (fun ds vs => vs = [I (sumD ds)]) rfl fun ds vs next hnd hds hi hnext => ?_
  subst hi
  unfold store_Store_total_l4
  refine next_round M hds (fun hall => ?_) fun e he hn => ?_
  · refine ⟨?_⟩
    simp only [pExtract, List.getElem?_cons_zero, ifB]
    have : nthA [I (sumD ds)] 0 = I (sumD es) := by rw [sumD_eq hnd (nodup_of_born M.born) hds hall]; rfl
    rw [this]
    exact k ds
  · refine ⟨?_⟩
    simp only [pExtract, List.getElem?_cons_zero, ifB]
    refine entry_now M he ⟨?_⟩
    simp only [pExtract, List.getElem?_cons_succ, List.getElem?_cons_zero]
    refine length_ok _ _ (rowsB_ok hr e he) _ _ ⟨?_⟩
    have hle : sumD (ds ++ [e]) ≤ sumD es := sumD_le (by
      rw [List.nodup_append]
      exact ⟨hnd, by simp, fun a ha b hb => by simp at hb; subst hb; exact fun e => hn (e ▸ ha)⟩) fun x hx => by
      rcases List.mem_append.1 hx with hx | hx
      · exact hds x hx
      · simp at hx; subst hx; exact he
    rw [sumD_snoc] at hle
    simp only [nthA, List.getElem?_cons_zero, Option.getD_some, pBin, binLit, if_true, intBin]
    rw [IntWalk.i64_in _ (by omega)]
    refine hnext e _ he hn ?_
    rw [sumD_snoc]; simp
def rowSum : MEnts → Nat → Nat
  | [], n => n
  | e :: es, n => rowSum es (Nat.add n (rowD e.2.2))
theorem rowSum_eq : ∀ (es : MEnts) (n : Nat), rowSum es n = n + sumD es
  | [], n => by simp [rowSum, sumD]
  | e :: es, n => by
    have h1 : rowSum (e :: es) n = rowSum es (n + rowD e.2.2) := rfl
    have h2 : sumD (e :: es) = rowD e.2.2 + sumD es := by simp [sumD]
    rw [h1, rowSum_eq es, h2]; omega
def spCount (args : List AV) (t : HT) (n : Nat) (K : AV → HT → Nat → Bool) : Bool := match args with
  | [.ptr i o] => match tload t 1 (.ptr i (o + 3)) with
    | some [.map j] => (match t.get j with
      | some (.amap es clock) => bA (bornUp 0 clock es) (bA (oneAll es) (bA (rowsB es) (fN (rowSum es 0) fun s => bA (Nat.ble s 1000000) (K (I (.ofNat s)) t (n + 1)))))
      | _ => false)
    | _ => false
  | _ => false
theorem spCount_ok {args : List AV} {t : HT} {n : Nat} {h : AHeap} {K : AV → HT → Nat → Bool} (hr : HR t n h) (k : spCount args t n K = true) : C fn_store_Store_Count args h (KH K) := by
  unfold spCount at k
  split at k
  · split at k
    · rename_i j hl
      split at k
      · rename_i es clock hj
        simp only [bA_eq, fN_eq, rowSum_eq, Nat.zero_add] at k
        obtain ⟨k1, k2, k3, k4, k5⟩ := k
        exact count_ok (tload_eq hr hl) ⟨hr.at_ _ _ hj, k1, k2⟩ k3 (Nat.le_of_ble_eq_true k4) _ fun ds => ⟨t, n + 1, hr.more [mit j clock ds], k5⟩
      · cases k
    · cases k
  · cases k
def keyI : Value → Option Int
  | .int .i64 k => some k
  | _ => none
def keysB : MEnts → Bool
  | [] => true
  | e :: es => match keyI e.1 with | some _ => keysB es | none => false
theorem keysB_ok : ∀ {es : MEnts}, keysB es = true → ∀ e ∈ es, ∃ k, e.1 = .int .i64 k
  | [], _, e, he => by cases he
  | x :: es, h, e, he => by
    unfold keysB at h
    split at h
    · rename_i m hm
      rcases List.mem_cons.1 he with rfl | he
      · unfold keyI at hm; split at hm
        · rename_i k hk; exact ⟨k, hk⟩
        · cases hm
      · exact keysB_ok h e he
    · cases h
def IsMin (now : Int) (ds : MEnts) (m : Int) : Prop := m ≤ now ∧ (∀ e ∈ ds, ∀ k, e.1 = .int .i64 k → m ≤ k) ∧ (m = now ∨ ∃ e ∈ ds, e.1 = .int .i64 m)
theorem IsMin.nil (now : Int) : IsMin now [] now := ⟨Int.le_refl _, fun e he => (by cases he), .inl rfl⟩
theorem IsMin.uniq {now : Int} {ds es : MEnts} {a b : Int} (h1 : ∀ e ∈ ds, e ∈ es) (h2 : ∀ e ∈ es, e ∈ ds) (ha : IsMin now ds a) (hb : IsMin now es b) : a = b := by
  obtain ⟨a1, a2, a3⟩ := ha
  obtain ⟨b1, b2, b3⟩ := hb
  have : a ≤ b := by
    rcases b3 with rfl | ⟨e, he, hk⟩
    · exact a1
    · exact a2 e (h2 e he) b hk
  have : b ≤ a := by
    rcases a3 with rfl | ⟨e, he, hk⟩
    · exact b1
    · exact b2 e (h1 e he) a hk
  omega
def minK : MEnts → Int → Int
  | [], m => m
  | e :: es, m => match e.1 with
    | .int .i64 k => minK es (if k < m then k else m)
    | _ => minK es m
theorem minK_is : ∀ (es ds : MEnts) (now m : Int), IsMin now ds m → IsMin now (ds ++ es) (minK es m)
  | [], ds, now, m, h => by simpa [minK] using h
  | e :: es, ds, now, m, h => by
    have hd : ds ++ e :: es = (ds ++ [e]) ++ es := by simp
    rw [hd]
    obtain ⟨h1, h2, h3⟩ := h
    unfold minK
    split
    · rename_i k hk
      refine minK_is es (ds ++ [e]) now _ ⟨by split <;> omega, fun x hx q hq => ?_, ?_⟩
      · rcases List.mem_append.1 hx with hx | hx
        · have := h2 x hx q hq; split <;> omega
        · simp at hx; subst hx; rw [hk] at hq; cases hq; split <;> omega
      · split
        · exact .inr ⟨e, by simp, hk⟩
        · rcases h3 with h3 | ⟨x, hx, hq⟩
          · exact .inl h3
          · exact .inr ⟨x, by simp [hx], hq⟩
    · rename_i hk
      refine minK_is es (ds ++ [e]) now _ ⟨h1, fun x hx q hq => ?_, ?_⟩
      · rcases List.mem_append.1 hx with hx | hx
        · exact h2 x hx q hq
        · simp at hx; subst hx; exact (hk q hq).elim
      · rcases h3 with h3 | ⟨x, hx, hq⟩
        · exact .inl h3
        · exact .inr ⟨x, by simp [hx], hq⟩
theorem least_ok {h : AHeap} {j : Nat} {es : MEnts} {clock : Nat} {now : Int} (M : Meets h j es clock) (hk : keysB es = true) (Q : QT)
    (k : ∀ ds, Q (I (minK es now)) (h ++ [mit j clock ds])) : C fn_store_pins_least [.map j, I now] h Q := by
  refine store_pins_least_ok _ _ _ _ ?_
  unfold store_pins_least
  refine ⟨?_⟩
  simp only [eRangeM, M.map]
  refine range_loop M (fun ds vs => ∃ m, vs = [I m] ∧ IsMin now ds m) ⟨now, rfl, IsMin.nil now⟩ fun ds vs next hnd hds hi hnext => ?_
  obtain ⟨m, rfl, hm⟩ := hi
  unfold store_pins_least_l3
  refine next_round M hds (fun hall => ?_) fun e he hn => ?_
  · refine ⟨?_⟩
    simp only [pExtract, List.getElem?_cons_zero, ifB]
    have : m = minK es now := IsMin.uniq hds hall hm (by have := minK_is es [] now now (IsMin.nil now); simpa using this)
    rw [this]
    exact k ds
  · refine ⟨?_⟩
    simp only [pExtract, List.getElem?_cons_zero, ifB]
    refine entry_now M he ⟨?_⟩
    simp only [pExtract, List.getElem?_cons_zero]
    obtain ⟨q, hq⟩ := keysB_ok hk e he
    refine ⟨?_⟩
    simp only [nthA, List.getElem?_cons_zero, Option.getD_some, pMin, hq]
    refine hnext e _ he hn ⟨_, rfl, ?_⟩
    have := minK_is [e] ds now m hm
    simp only [minK, hq] at this
    exact this
def spLeast (args : List AV) (t : HT) (n : Nat) (K : AV → HT → Nat → Bool) : Bool := match args with
  | [.map j, .lit (.int .i64 now)] => (match t.get j with
      | some (.amap es clock) => bA (bornUp 0 clock es) (bA (oneAll es) (bA (keysB es) (fI (minK es now) fun s => K (I s) t (n + 1))))
      | _ => false)
  | _ => false
theorem spLeast_ok {args : List AV} {t : HT} {n : Nat} {h : AHeap} {K : AV → HT → Nat → Bool} (hr : HR t n h) (k : spLeast args t n K = true) : C fn_store_pins_least args h (KH K) := by
  unfold spLeast at k
  split at k
  · split at k
    · rename_i es clock hj
      simp only [bA_eq, fI_eq] at k
      obtain ⟨k1, k2, k3, k4⟩ := k
      exact least_ok ⟨hr.at_ _ _ hj, k1, k2⟩ k3 _ fun ds => ⟨t, n + 1, hr.more [mit _ clock ds], k4⟩
    · cases k
  · cases k
def chgB (t : HT) (si so : Nat) (key : Value) (at_ : Int) : Option Bool := match tload t 1 (.ptr si (so + 3)) with
  | some [.map j] => (match t.get j with
    | some (.amap es _) => (match bA (kOk .string key) (kAll .string es) with
      | true => (match tfind key es 0 with
        | none => some false
        | some (_, _, .full 0 _) => some false
        | some (_, _, .sl a off len sz) => (match Nat.beq sz 4 with
          | true => (match len with
            | 0 => some false
            | len + 1 => (match Nat.ble len 1000000 with
              | true => (match tload t 1 (.ptr a (off + len * 4 + 3)) with
                | some [.lit (.int .i64 st)] => some (iLt at_ st)
                | _ => none)
              | false => none))
          | false => none)
        | _ => none)
      | false => none)
    | _ => none)
  | _ => none
theorem chg_ok {t : HT} {n : Nat} {h : AHeap} (hr : HR t n h) {si so : Nat} {key : Value} {at_ : Int} {b : Bool} (e : chgB t si so key at_ = some b) (Q : QT) (k : Q (B b) h) : C fn_store_Store_Changed [.ptr si so, .lit key, I at_] h Q := by
  refine store_Store_Changed_ok _ _ _ _ _ ?_
  unfold store_Store_Changed
  unfold chgB at e
  split at e
  · rename_i j hl
    split at e
    · rename_i es clock hj
      split at e
      · rename_i hk
        rw [bA_eq, kAll_eq] at hk
        refine ⟨⟨⟨?_⟩⟩⟩
        simp only [pLoad1, tload_eq hr hl]
        refine ⟨?_⟩
        simp only [pLookup, hr.at_ _ _ hj]
        rw [if_pos (by simp [hk.1, hk.2]), ← tfind_eq]
        split at e
        · rename_i hf
          cases e
          simp only [hf, Bool.false_eq_true, if_false]
          refine ⟨⟨?_⟩⟩
          simp only [pBin, binLit, if_true, intBin]
          exact k
        · rename_i hf
          cases e
          simp only [hf, Bool.false_eq_true, if_false]
          refine ⟨⟨?_⟩⟩
          simp only [pBin, binLit, if_true, intBin]
          exact k
        · rename_i a off len sz hf
          split at e
          · rename_i hsz
            have hsz := Nat.eq_of_beq_eq_true hsz
            subst hsz
            simp only [hf, Bool.false_eq_true, if_false]
            refine ⟨⟨?_⟩⟩
            simp only [pBin, binLit, if_true, intBin]
            split at e
            · cases e
              exact k
            · rename_i len
              split at e
              · rename_i hb
                have hb := Nat.le_of_ble_eq_true hb
                split at e
                · rename_i st hst
                  cases e
                  have hpos : decide (((len + 1 : Nat) : Int) > 0) = true := by simp
                  simp only [hpos, ifB]
                  refine ⟨⟨?_⟩⟩
                  simp only [pBin, binLit, if_true, intBin]
                  rw [IntWalk.i64_in _ (by omega)]
                  have e1 : ((len + 1 : Nat) : Int) - 1 = (len : Int) := by omega
                  rw [e1]
                  refine ⟨?_⟩
                  simp only [pIndexAddr, asI, Int.toNat_natCast]
                  refine ⟨⟨by omega, by omega, trivial⟩, ⟨⟨?_⟩⟩⟩
                  simp only [pLoad1, tload_eq hr hst]
                  refine ⟨?_⟩
                  simp only [pBin, binLit, if_true, intBin]
                  have e2 : decide (st > at_) = iLt at_ st := by rw [Bool.eq_iff_iff, iLt_iff, decide_eq_true_eq]
                  rw [e2]
                  exact k
                · cases e
              · cases e
          · cases e
        · cases e
      · cases e
    · cases e
  · cases e
def chgAny (t : HT) (si so : Nat) (at_ : Int) : MEnts → Option Bool
  | [] => some false
  | e :: es => match chgB t si so e.1 at_ with
    | some b => (match chgAny t si so at_ es with | some c => some (bI b true c) | none => none)
    | none => none
theorem chgAny_ok {t : HT} {si so : Nat} {at_ : Int} : ∀ {es : MEnts} {c : Bool}, chgAny t si so at_ es = some c → (∀ e ∈ es, ∃ b, chgB t si so e.1 at_ = some b ∧ (b = true → c = true)) ∧ (c = true → ∃ e ∈ es, chgB t si so e.1 at_ = some true)
  | [], c, h => by cases h; exact ⟨fun e he => (by cases he), fun h => by cases h⟩
  | x :: es, c, h => by
    unfold chgAny at h
    split at h
    · rename_i b hb
      split at h
      · rename_i c' hc'
        cases h
        obtain ⟨i1, i2⟩ := chgAny_ok hc'
        refine ⟨fun e he => ?_, fun hc => ?_⟩
        · rcases List.mem_cons.1 he with rfl | he
          · exact ⟨b, hb, fun h => by subst h; rfl⟩
          · obtain ⟨b2, h1, h2⟩ := i1 e he
            exact ⟨b2, h1, fun h => by rw [h2 h]; cases b <;> rfl⟩
        · rcases (bI_eq _ _ _).1 hc with ⟨h1, _⟩ | ⟨_, h1⟩
          · subst h1; exact ⟨x, by simp, hb⟩
          · obtain ⟨e, he, h2⟩ := i2 h1
            exact ⟨e, by simp [he], h2⟩
      · cases h
    · cases h
def spChanged (args : List AV) (t : HT) (n : Nat) (K : AV → HT → Nat → Bool) : Bool := match args with
  | [.ptr i o] => match tload t 1 (.ptr i (o + 11)), tload t 1 (.ptr i (o + 0)), tload t 1 (.ptr i (o + 9)) with
    | some [.map j], some [.ptr si so], some [.lit (.int .i64 at_)] => (match t.get j with
      | some (.amap es clock) => bA (bornUp 0 clock es) (bA (oneAll es) (match chgAny t si so at_ es with | some c => fB c fun c => K (B c) t (n + 1) | none => false))
      | _ => false)
    | _, _, _ => false
  | _ => false
theorem spChanged_ok {args : List AV} {t : HT} {n : Nat} {h : AHeap} {K : AV → HT → Nat → Bool} (hr : HR t n h) (k : spChanged args t n K = true) : C fn_txn_Txn_changed args h (KH K) := by
  unfold spChanged at k
  split at k
  · rename_i i o
    split at k
    · rename_i j si so at_ l1 l2 l3
      split at k
      · rename_i es clock hj
        simp only [bA_eq] at k
        obtain ⟨k1, k2, k⟩ := k
        split at k
        · rename_i c hc
          rw [fB_eq] at k
          obtain ⟨c1, c2⟩ := chgAny_ok hc
          have M : Meets h j es clock := ⟨hr.at_ _ _ hj, k1, k2⟩
          refine txn_Txn_changed_ok _ _ _ ?_
          unfold txn_Txn_changed
          refine ⟨⟨⟨?_⟩⟩⟩
          simp only [pLoad1, tload_eq hr l1]
          refine ⟨?_⟩
          simp only [eRangeM, M.map]
          refine range_loop M (fun ds vs => vs = [B false] ∧ ∀ e ∈ ds, chgB t si so e.1 at_ = some false) ⟨rfl, fun e he => by cases he⟩ fun ds vs next hnd hds hi hnext => ?_
          obtain ⟨rfl, hall⟩ := hi
          unfold txn_Txn_changed_l4
          refine next_round M hds (fun hcov => ?_) fun e he hn => ?_
          · refine ⟨?_⟩
            simp only [pExtract, List.getElem?_cons_zero, ifB]
            have : c = false := by
              cases c with
              | false => rfl
              | true =>
                obtain ⟨e, he, h2⟩ := c2 rfl
                rw [hall e (hcov e he)] at h2; cases h2
            subst this
            exact ⟨t, n + 1, hr.more [mit j clock ds], k⟩
          · refine ⟨?_⟩
            simp only [pExtract, List.getElem?_cons_zero, ifB]
            refine entry_now M he ⟨?_⟩
            simp only [pExtract, List.getElem?_cons_zero]
            have hr2 : HR t (n + 1) (h ++ [mit j clock (ds ++ [e])]) := hr.more [mit j clock (ds ++ [e])]
            refine ⟨⟨⟨?_⟩⟩⟩
            simp only [pLoad1, tload_eq hr2 l2]
            refine ⟨⟨⟨?_⟩⟩⟩
            simp only [pLoad1, tload_eq hr2 l3]
            obtain ⟨b, hb, hbc⟩ := c1 e he
            refine chg_ok hr2 hb _ ?_
            cases b with
            | true =>
              simp only [ifB]
              rw [hbc rfl] at k
              exact ⟨t, n + 1, hr2, k⟩
            | false =>
              simp only [ifB]
              refine hnext e _ he hn ⟨rfl, fun x hx => ?_⟩
              rcases List.mem_append.1 hx with hx | hx
              · exact hall x hx
              · simp at hx; subst hx; exact hb
        · cases k
      · cases k
    · cases k
  · cases k
end
def sp10 : SpecB := fun f args t n K => match Nat.beq f fn_store_Store_Count with
  | true => some (spCount args t n K)
  | false => match Nat.beq f fn_store_pins_least with
    | true => some (spLeast args t n K)
    | false => match Nat.beq f fn_txn_Txn_changed with
      | true => some (spChanged args t n K)
      | false => spK f args t n K
theorem sp10_ok [Tabs5] : SpecOk Pg sp10 := fun f args t n h K hr k => by
  unfold sp10 at k
  split at k
  · rename_i hf; rw [Nat.eq_of_beq_eq_true hf]; exact spCount_ok hr (by simpa using k)
  split at k
  · rename_i hf; rw [Nat.eq_of_beq_eq_true hf]; exact spLeast_ok hr (by simpa using k)
  split at k
  · rename_i hf; rw [Nat.eq_of_beq_eq_true hf]; exact spChanged_ok hr (by simpa using k)
  exact spK_ok f args t n h K hr k
end
end Go.Proofs.YtamfimhaimaeiaaGreatDoor.AL
namespace Go.Proofs.YtamfimhaimaeiaaGreatDoor.AL
noncomputable section
class Ky (κ : Type) where
  dec : DecidableEq κ
  lt : κ → κ → Prop
  dlt : DecidableRel lt
  irr : ∀ a, ¬ lt a a
  trans : ∀ {a b c}, lt a b → lt b c → lt a c
  tri : ∀ {a b}, ¬ lt a b → a ≠ b → lt b a
  val : κ → Value
  kd : TypeDesc
  kok : ∀ k, kOk kd (val k) = true
  keq : ∀ a b, AL.keq (val a) (val b) = @decide (a = b) (dec a b)
  one : ∀ k, (val k).oneCell' = true
instance (κ : Type) [Ky κ] : DecidableEq κ := Ky.dec
instance (κ : Type) [Ky κ] : DecidableRel (Ky.lt (κ := κ)) := Ky.dlt
section
variable {κ α : Type} [Ky κ]
abbrev KM (κ α : Type) := List (κ × α)
abbrev KL (α : Type) := KM (List UInt8) α
def lookK (k : κ) : KM κ α → Option α
  | [] => none
  | (a, v) :: r => if k = a then some v else lookK k r
def insK (k : κ) (v : α) : KM κ α → KM κ α
  | [] => [(k, v)]
  | (a, w) :: r => if k = a then (k, v) :: r else if Ky.lt k a then (k, v) :: (a, w) :: r else (a, w) :: insK k v r
def delK (k : κ) (l : KM κ α) : KM κ α := l.filter fun x => decide (x.1 ≠ k)
def SoK (l : KM κ α) : Prop := l.Pairwise fun a b => Ky.lt a.1 b.1
theorem lt_ne {a b : κ} (h : Ky.lt a b) : a ≠ b := fun e => by subst e; exact Ky.irr _ h
theorem lt_tri {a b : κ} (h1 : ¬ Ky.lt a b) (h2 : a ≠ b) : Ky.lt b a := Ky.tri h1 h2
theorem SoK.nd {l : KM κ α} (s : SoK l) : (l.map (·.1)).Nodup := by
  rw [List.nodup_iff_pairwise_ne, List.pairwise_map]
  exact s.imp fun h => lt_ne h
theorem insK_mem {k : κ} {v : α} : ∀ {l : KM κ α}, SoK l → ∀ x, x ∈ insK k v l ↔ x = (k, v) ∨ (x ∈ l ∧ x.1 ≠ k)
  | [], _, x => by simp [insK]
  | (a, w) :: r, s, x => by
    obtain ⟨s1, s2⟩ := List.pairwise_cons.1 s
    unfold insK
    by_cases h : k = a
    · subst h
      rw [if_pos rfl]
      simp only [List.mem_cons]
      constructor
      · rintro (h | h)
        · exact .inl h
        · exact .inr ⟨.inr h, fun e => lt_ne (s1 x h) e.symm⟩
      · rintro (h | ⟨h | h, h2⟩)
        · exact .inl h
        · subst h; exact (h2 rfl).elim
        · exact .inr h
    · rw [if_neg h]
      split
      · rename_i h1
        simp only [List.mem_cons]
        constructor
        · rintro (h2 | h2 | h2)
          · exact .inl h2
          · exact .inr ⟨.inl h2, by subst h2; exact Ne.symm h⟩
          · exact .inr ⟨.inr h2, fun e => lt_ne (Ky.trans h1 (s1 x h2)) e.symm⟩
        · rintro (h2 | ⟨h2, _⟩)
          · exact .inl h2
          · exact .inr h2
      · simp only [List.mem_cons, insK_mem s2 x]
        constructor
        · rintro (h2 | h2 | ⟨h2, h3⟩)
          · exact .inr ⟨.inl h2, by subst h2; exact Ne.symm h⟩
          · exact .inl h2
          · exact .inr ⟨.inr h2, h3⟩
        · rintro (h2 | ⟨h2 | h2, h3⟩)
          · exact .inr (.inl h2)
          · exact .inl h2
          · exact .inr (.inr ⟨h2, h3⟩)
theorem insK_so {k : κ} {v : α} : ∀ {l : KM κ α}, SoK l → SoK (insK k v l)
  | [], _ => by simp [insK, SoK]
  | (a, w) :: r, s => by
    obtain ⟨s1, s2⟩ := List.pairwise_cons.1 s
    unfold insK
    by_cases h : k = a
    · subst h
      rw [if_pos rfl]
      exact List.pairwise_cons.2 ⟨s1, s2⟩
    · rw [if_neg h]
      split
      · rename_i h1
        refine List.pairwise_cons.2 ⟨fun x hx => ?_, s⟩
        rcases List.mem_cons.1 hx with rfl | hx
        · exact h1
        · exact Ky.trans h1 (s1 x hx)
      · rename_i h1
        refine List.pairwise_cons.2 ⟨fun x hx => ?_, insK_so s2⟩
        rcases (insK_mem s2 x).1 hx with rfl | ⟨h2, _⟩
        · exact lt_tri h1 h
        · exact s1 x h2
theorem delK_mem {k : κ} {l : KM κ α} (x : κ × α) : x ∈ delK k l ↔ x ∈ l ∧ x.1 ≠ k := by simp [delK]
theorem delK_so {k : κ} {l : KM κ α} (s : SoK l) : SoK (delK k l) := s.filter _
theorem lookK_none {k : κ} : ∀ {l : KM κ α}, lookK k l = none ↔ ∀ x ∈ l, x.1 ≠ k
  | [] => by simp [lookK]
  | (a, w) :: r => by
    unfold lookK
    split
    · rename_i h; subst h; simp
    · rename_i h
      rw [lookK_none (l := r)]
      simp only [List.mem_cons, forall_eq_or_imp]
      exact ⟨fun hh => ⟨Ne.symm h, hh⟩, fun hh => hh.2⟩
theorem lookK_mem {k : κ} {v : α} : ∀ {l : KM κ α}, (l.map (·.1)).Nodup → (lookK k l = some v ↔ (k, v) ∈ l)
  | [], _ => by simp [lookK]
  | (a, w) :: r, nd => by
    simp only [List.map_cons, List.nodup_cons] at nd
    unfold lookK
    by_cases h : k = a
    · subst h
      rw [if_pos rfl]
      simp only [Option.some.injEq, List.mem_cons, Prod.mk.injEq, true_and]
      constructor
      · intro h; exact .inl h.symm
      · rintro (h | h)
        · exact h.symm
        · exact (nd.1 (List.mem_map.2 ⟨_, h, rfl⟩)).elim
    · rw [if_neg h, lookK_mem (l := r) nd.2]; simp [h]
theorem lookK_insK {k k' : κ} {v : α} {l : KM κ α} (s : SoK l) : lookK k' (insK k v l) = if k' = k then some v else lookK k' l := by
  split
  · rename_i h; subst h
    rw [lookK_mem (insK_so s).nd, insK_mem s]; exact .inl rfl
  · rename_i h
    cases h1 : lookK k' l with
    | none =>
      rw [lookK_none] at h1 ⊢
      intro x hx
      rcases (insK_mem s x).1 hx with rfl | ⟨h2, _⟩
      · exact Ne.symm h
      · exact h1 x h2
    | some w =>
      rw [lookK_mem s.nd] at h1
      rw [lookK_mem (insK_so s).nd, insK_mem s]; exact .inr ⟨h1, h⟩
theorem perm_of_mem {a b : KM κ α} (na : (a.map (·.1)).Nodup) (nb : (b.map (·.1)).Nodup) (e : ∀ x, x ∈ a ↔ x ∈ b) : a.Perm b :=
  (List.perm_ext_iff_of_nodup (List.Pairwise.of_map _ (fun _ _ h e => h (by rw [e])) na) (List.Pairwise.of_map _ (fun _ _ h e => h (by rw [e])) nb)).2 e
end
instance kyS : Ky (List UInt8) where
  dec := inferInstance
  lt := (· < ·)
  dlt := inferInstance
  irr _ := List.lt_irrefl _
  trans := List.lt_trans
  tri h1 h2 := Std.lt_of_le_of_ne (List.not_lt.1 h1) (Ne.symm h2)
  val k := .string ⟨⟨k⟩⟩
  kd := .string
  kok _ := rfl
  keq x y := by
    show ((⟨x⟩ : Array UInt8) == ⟨y⟩) = decide (x = y)
    rw [Bool.eq_iff_iff, decide_eq_true_eq]; simp
  one _ := rfl
instance kyI : Ky Int where
  dec := inferInstance
  lt := (· < ·)
  dlt := inferInstance
  irr _ := Int.lt_irrefl _
  trans := Int.lt_trans
  tri h1 h2 := by omega
  val k := .int .i64 k
  kd := .int .i64
  kok _ := rfl
  keq x y := by
    show (x == y) = decide (x = y)
    rw [Bool.eq_iff_iff, decide_eq_true_eq]; simp
  one _ := rfl
def mE {κ α : Type} [Ky κ] (enc : α → AV) (es : List (κ × Nat × α)) : MEnts := es.map fun e => (Ky.val e.1, e.2.1, enc e.2.2)
structure MapR {κ α : Type} [Ky κ] (enc : α → AV) (es : List (κ × Nat × α)) (n : Nat) (l : KM κ α) : Prop where
  up : (es.map (·.2.1)).Pairwise (· < ·)
  lt : ∀ e ∈ es, e.2.1 < n
  nd : (es.map (·.1)).Nodup
  eq : ∀ x, x ∈ es.map (fun e => (e.1, e.2.2)) ↔ x ∈ l
  so : SoK l
def MapS {κ α : Type} [Ky κ] (enc : α → AV) (l : KM κ α) (o : AObj) : Prop := ∃ (es : List (κ × Nat × α)) (n : Nat), o = .amap (mE enc es) n ∧ MapR enc es n l
theorem MapS.nil {κ α : Type} [Ky κ] (enc : α → AV) : MapS enc ([] : KM κ α) (.amap [] 0) := ⟨[], 0, rfl, by simp, by simp, by simp, by simp, by simp [SoK]⟩
section
variable {κ α : Type} [Ky κ] {enc : α → AV} {es : List (κ × Nat × α)} {n : Nat} {l : KM κ α}
theorem MapR.kv (m : MapR enc es n l) : ((es.map (fun e => (e.1, e.2.2))).map (·.1)).Nodup := by rw [List.map_map]; exact m.nd
theorem MapR.perm (m : MapR enc es n l) : (es.map (fun e => (e.1, e.2.2))).Perm l := perm_of_mem m.kv m.so.nd m.eq
theorem MapR.len (m : MapR enc es n l) : es.length = l.length := by have := m.perm.length_eq; simpa using this
theorem mE_kOk (es : List (κ × Nat × α)) : (mE enc es).all (fun e => kOk (Ky.kd κ) e.1) = true := by simp [mE, Ky.kok]
theorem mE_one (es : List (κ × Nat × α)) : (mE enc es).all (fun e => e.1.oneCell') = true := by simp [mE, Ky.one]
variable [Tabs]
theorem mfind_mE (k : κ) : ∀ (i : Nat) (es : List (κ × Nat × α)), (mfind (Ky.val k) (mE enc es) i = none ∧ ∀ e ∈ es, e.1 ≠ k) ∨ ∃ j, ∃ hj : j < es.length, mfind (Ky.val k) (mE enc es) i = some (i + j, es[j].2.1, enc es[j].2.2) ∧ es[j].1 = k
  | i, [] => .inl ⟨rfl, by simp⟩
  | i, (a, b, v) :: r => by
    unfold mE
    rw [List.map_cons, mfind, Ky.keq]
    by_cases h : k = a
    · subst h
      exact .inr ⟨0, by simp, by simp, rfl⟩
    · rw [if_neg (by simpa using h)]
      rcases mfind_mE k (i + 1) r with ⟨h1, h2⟩ | ⟨j, hj, h1, h2⟩
      · exact .inl ⟨h1, by simpa using ⟨Ne.symm h, fun x y z => h2 (x, y, z)⟩⟩
      · exact .inr ⟨j + 1, by simpa using hj, by unfold mE at h1; rw [h1]; simp; omega, by simpa using h2⟩
theorem MapR.find (m : MapR enc es n l) (k : κ) : (mfind (Ky.val k) (mE enc es) 0 = none ∧ lookK k l = none ∧ ∀ e ∈ es, e.1 ≠ k) ∨ ∃ j, ∃ hj : j < es.length, mfind (Ky.val k) (mE enc es) 0 = some (j, es[j].2.1, enc es[j].2.2) ∧ es[j].1 = k ∧ lookK k l = some es[j].2.2 := by
  rcases mfind_mE (enc := enc) k 0 es with ⟨h1, h2⟩ | ⟨j, hj, h1, h2⟩
  · refine .inl ⟨h1, lookK_none.2 fun x hx => ?_, h2⟩
    obtain ⟨e, he, rfl⟩ := List.mem_map.1 ((m.eq x).2 hx)
    exact h2 e he
  · refine .inr ⟨j, hj, by simpa using h1, h2, ?_⟩
    rw [lookK_mem m.so.nd, ← m.eq]
    exact List.mem_map.2 ⟨es[j], List.getElem_mem _, by rw [h2]⟩
theorem MapR.app (m : MapR enc es n l) {k : κ} {v : α} (hn : ∀ e ∈ es, e.1 ≠ k) : MapR enc (es ++ [(k, n, v)]) (n + 1) (insK k v l) where
  up := by
    rw [List.map_append, List.pairwise_append]
    refine ⟨m.up, by simp, fun a ha b hb => ?_⟩
    obtain ⟨e, he, rfl⟩ := List.mem_map.1 ha
    simp at hb; subst hb; exact m.lt e he
  lt e he := by
    rcases List.mem_append.1 he with h | h
    · have := m.lt e h; omega
    · simp at h; subst h; simp
  nd := by
    rw [List.map_append, List.nodup_append]
    refine ⟨m.nd, by simp, fun a ha b hb e => ?_⟩
    obtain ⟨x, hx, rfl⟩ := List.mem_map.1 ha
    simp at hb; subst hb; exact hn x hx e
  eq x := by
    rw [List.map_append, List.mem_append, m.eq, insK_mem m.so]
    simp only [List.map_cons, List.map_nil, List.mem_singleton]
    constructor
    · rintro (h | h)
      · obtain ⟨e, he, rfl⟩ := List.mem_map.1 ((m.eq x).2 h)
        exact .inr ⟨h, hn e he⟩
      · exact .inl h
    · rintro (h | ⟨h, _⟩)
      · exact .inr h
      · exact .inl h
  so := insK_so m.so
theorem nd_inj {β : Type} {l : List β} (nd : l.Nodup) {i j : Nat} (hi : i < l.length) (hj : j < l.length) (e : l[i] = l[j]) : i = j := by
  rw [List.nodup_iff_pairwise_ne, List.pairwise_iff_getElem] at nd
  rcases Nat.lt_trichotomy i j with h | h | h
  · exact (nd i j hi hj h e).elim
  · exact h
  · exact (nd j i hj hi h e.symm).elim
theorem eraseIdx_mapL {β γ : Type} (f : β → γ) : ∀ (l : List β) (j : Nat), (l.map f).eraseIdx j = (l.eraseIdx j).map f
  | [], j => rfl
  | a :: l, 0 => rfl
  | a :: l, j + 1 => by simp [eraseIdx_mapL f l j]
theorem mem_setIx {β : Type} {l : List β} {i : Nat} (hi : i < l.length) (nd : l.Nodup) (b x : β) : x ∈ l.set i b ↔ x = b ∨ (x ∈ l ∧ x ≠ l[i]) := by
  constructor
  · intro h
    obtain ⟨j, hj, rfl⟩ := List.getElem_of_mem h
    rw [List.getElem_set]
    split
    · exact .inl rfl
    · rename_i hne
      rw [List.length_set] at hj
      exact .inr ⟨List.getElem_mem _, fun e => hne (nd_inj nd hj hi e).symm⟩
  · rintro (rfl | ⟨h, hne⟩)
    · exact List.mem_iff_getElem.2 ⟨i, by simpa using hi, by simp⟩
    · obtain ⟨j, hj, rfl⟩ := List.getElem_of_mem h
      refine List.mem_iff_getElem.2 ⟨j, by simpa using hj, ?_⟩
      rw [List.getElem_set, if_neg]
      intro e; subst e; exact hne rfl
theorem MapR.set (m : MapR enc es n l) {k : κ} {v : α} {j : Nat} (hj : j < es.length) (hk : es[j].1 = k) : MapR enc (es.set j (k, es[j].2.1, v)) n (insK k v l) := by
  have e1 : (es.set j (k, es[j].2.1, v)).map (·.2.1) = es.map (·.2.1) := by rw [List.map_set]; refine List.ext_getElem (by simp) fun i h1 h2 => ?_; rw [List.getElem_set]; split <;> simp_all
  have e2 : (es.set j (k, es[j].2.1, v)).map (·.1) = es.map (·.1) := by rw [List.map_set]; refine List.ext_getElem (by simp) fun i h1 h2 => ?_; rw [List.getElem_set]; split <;> simp_all
  refine ⟨by rw [e1]; exact m.up, fun e he => ?_, by rw [e2]; exact m.nd, fun x => ?_, insK_so m.so⟩
  · have : e.2.1 ∈ (es.set j (k, es[j].2.1, v)).map (·.2.1) := List.mem_map_of_mem he
    rw [e1] at this
    obtain ⟨x, hx, he⟩ := List.mem_map.1 this
    rw [← he]; exact m.lt x hx
  · rw [List.map_set, insK_mem m.so, ← m.eq]
    have nd : (es.map (fun e => (e.1, e.2.2))).Nodup := List.Pairwise.of_map _ (fun _ _ h e => h (by rw [e])) m.kv
    rw [mem_setIx (by simpa using hj) nd]
    refine or_congr Iff.rfl (and_congr_right fun hx => not_congr ?_)
    rw [List.getElem_map]
    constructor
    · intro h; rw [h]; exact hk
    · intro h
      obtain ⟨q, hq, rfl⟩ := List.getElem_of_mem hx
      rw [List.length_map] at hq
      simp only [List.getElem_map] at h ⊢
      have := nd_inj m.nd (i := q) (j := j) (by simpa using hq) (by simpa using hj) (by simp [h, hk])
      subst this; rfl
theorem MapR.del (m : MapR enc es n l) {k : κ} {j : Nat} (hj : j < es.length) (hk : es[j].1 = k) : MapR enc (es.eraseIdx j) n (delK k l) := by
  have sub := List.eraseIdx_sublist es j
  refine ⟨m.up.sublist (sub.map _), fun e he => m.lt e (sub.mem he), m.nd.sublist (sub.map _), fun x => ?_, delK_so m.so⟩
  rw [delK_mem, ← m.eq]
  constructor
  · intro h
    obtain ⟨e, he, rfl⟩ := List.mem_map.1 h
    refine ⟨List.mem_map.2 ⟨e, sub.mem he, rfl⟩, fun hx => ?_⟩
    obtain ⟨q, hq, hne, rfl⟩ := List.mem_eraseIdx_iff_getElem.1 he
    exact hne (nd_inj m.nd (i := q) (j := j) (by simpa using hq) (by simpa using hj) (by simp [hk]; exact hx))
  · rintro ⟨h, hne⟩
    obtain ⟨e, he, rfl⟩ := List.mem_map.1 h
    refine List.mem_map.2 ⟨e, ?_, rfl⟩
    obtain ⟨q, hq, rfl⟩ := List.getElem_of_mem he
    refine List.mem_eraseIdx_iff_getElem.2 ⟨q, hq, fun e => hne (by subst e; exact hk), rfl⟩
theorem MapR.delNone (m : MapR enc es n l) {k : κ} (hn : lookK k l = none) : delK k l = l := by
  rw [lookK_none] at hn
  exact List.filter_eq_self.2 fun x hx => by simpa using hn x hx
variable {h0 h : AHeap} {M : List Nat} {L L' : Own} {K : AV → Prop} {KH : QT} {KL' : AHeap → Prop}
theorem st_lookS0G {o : AObj} {j : Nat} {k : κ} {z : AV} (e : h[j]? = some o) (m : MapS enc l o) (q : K (((lookK k l).map enc).getD z)) : qLookup (Ky.kd κ) false z (.map j) (.lit (Ky.val k)) h K := ⟨by
  obtain ⟨es, n, rfl, r⟩ := m
  simp only [pLookup, e]
  rw [if_pos (by rw [mE_kOk, Ky.kok]; rfl)]
  rcases r.find k with ⟨h1, h2, _⟩ | ⟨j, hj, h1, h2, h3⟩
  · rw [h1]; rw [h2] at q; exact q
  · rw [h1]; rw [h3] at q; exact q⟩
theorem MapS.put {o : AObj} (m : MapS enc l o) (k : κ) (v : α) : ∃ (es : List (κ × Nat × α)) (n : Nat), o = .amap (mE enc es) n ∧ MapS enc (insK k v l) (mput (Ky.val k) (enc v) n (mE enc es)) := by
  obtain ⟨es, n, rfl, r⟩ := m
  refine ⟨es, n, rfl, ?_⟩
  unfold mput
  rcases r.find k with ⟨h1, h2, h3⟩ | ⟨j, hj, h1, h2, h3⟩
  · rw [h1]; exact ⟨_, _, by simp [mE], r.app h3⟩
  · rw [h1]; exact ⟨_, _, by simp [mE, List.map_set], r.set hj h2⟩
theorem st_putSG {o : AObj} {j : Nat} {k : κ} {v : α} (s : St h0 M h L) (e : (j, true, o) ∈ L) (m : MapS enc l o) (q : ∀ o', MapS enc (insK k v l) o' → (∀ {L'}, Sub L (j, true, o) L' (j, true, o') → St h0 M (h.set j o') L') → KL' (h.set j o')) : qMapUpdate (Ky.kd κ) (.map j) (.lit (Ky.val k)) (enc v) h KL' := ⟨by
  obtain ⟨es, n, rfl, m'⟩ := m.put k v
  simp only [eMapUpdate, s.get e]
  rw [if_pos (by rw [mE_kOk, Ky.kok]; rfl)]
  exact q _ m' fun u => s.turn u⟩
theorem st_delSG {o : AObj} {j : Nat} {k : κ} (s : St h0 M h L) (e : (j, true, o) ∈ L) (m : MapS enc l o) (q : ∀ o' h', MapS enc (delK k l) o' → (∀ {L'}, Sub L (j, true, o) L' (j, true, o') → St h0 M h' L') → KL' h') : qDelete (Ky.kd κ) (.map j) (.lit (Ky.val k)) h KL' := ⟨by
  obtain ⟨es, n, rfl, r⟩ := m
  simp only [eDelete, s.get e]
  rw [if_pos (by rw [mE_kOk, Ky.kok]; rfl)]
  rcases r.find k with ⟨h1, h2, h3⟩ | ⟨j, hj, h1, h2, h3⟩
  · rw [h1]
    refine q _ _ ⟨es, n, rfl, by rw [r.delNone h2]; exact r⟩ fun u => ?_
    have := s.turn u
    rwa [list_set_self (s.get e)] at this
  · rw [h1]
    exact q _ _ ⟨es.eraseIdx j, n, by simp [mE, eraseIdx_mapL], r.del hj h2⟩ fun u => s.turn u⟩
end
section
variable [Tabs]
variable {α : Type} {enc : α → AV} {h0 h : AHeap} {M : List Nat} {L L' : Own} {K : AV → Prop} {KS' : AHeap → Prop}
theorem st_lookS0 {l : KL α} {o : AObj} {j : Nat} {k : Str} {z : AV} (e : h[j]? = some o) (m : MapS enc l o) (q : K (((lookK k l).map enc).getD z)) : qLookup .string false z (.map j) (T k) h K := st_lookS0G (κ := List UInt8) e m q
theorem st_putS {l : KL α} {o : AObj} {j : Nat} {k : Str} {v : α} (s : St h0 M h L) (e : (j, true, o) ∈ L) (m : MapS enc l o) (q : ∀ o', MapS enc (insK k v l) o' → (∀ {L'}, Sub L (j, true, o) L' (j, true, o') → St h0 M (h.set j o') L') → KS' (h.set j o')) : qMapUpdate .string (.map j) (T k) (enc v) h KS' := st_putSG (κ := List UInt8) s e m q
theorem st_delS {l : KL α} {o : AObj} {j : Nat} {k : Str} (s : St h0 M h L) (e : (j, true, o) ∈ L) (m : MapS enc l o) (q : ∀ o' h', MapS enc (delK k l) o' → (∀ {L'}, Sub L (j, true, o) L' (j, true, o') → St h0 M h' L') → KS' h') : qDelete .string (.map j) (T k) h KS' := st_delSG (κ := List UInt8) s e m q
theorem st_lookI0 {l : KM Int α} {o : AObj} {j : Nat} {k : Int} {z : AV} (e : h[j]? = some o) (m : MapS enc l o) (q : K (((lookK k l).map enc).getD z)) : qLookup (.int .i64) false z (.map j) (I k) h K := st_lookS0G (κ := Int) e m q
theorem st_putI {l : KM Int α} {o : AObj} {j : Nat} {k : Int} {v : α} (s : St h0 M h L) (e : (j, true, o) ∈ L) (m : MapS enc l o) (q : ∀ o', MapS enc (insK k v l) o' → (∀ {L'}, Sub L (j, true, o) L' (j, true, o') → St h0 M (h.set j o') L') → KS' (h.set j o')) : qMapUpdate (.int .i64) (.map j) (I k) (enc v) h KS' := st_putSG (κ := Int) s e m q
theorem st_delI {l : KM Int α} {o : AObj} {j : Nat} {k : Int} (s : St h0 M h L) (e : (j, true, o) ∈ L) (m : MapS enc l o) (q : ∀ o' h', MapS enc (delK k l) o' → (∀ {L'}, Sub L (j, true, o) L' (j, true, o') → St h0 M h' L') → KS' h') : qDelete (.int .i64) (.map j) (I k) h KS' := st_delSG (κ := Int) s e m q
end
end
end Go.Proofs.YtamfimhaimaeiaaGreatDoor.AL
namespace Go.Proofs.YtamfimhaimaeiaaGreatDoor.AL
noncomputable section
open Go.RowKit Go.Maps Go.Sort Go.Shelf Go.WideElems Go.WideShapes
open Go.Proofs (encStr)
variable [Tabs]
section
variable {P : Program}
theorem keys_sp {f g : FuncId} {tm : TypeId} (hK : KeysIs P f g tm) {j : Nat} {h : AHeap} {o : AObj} (e : h[j]? = some o) {Q : QT} (k : Q (.fn (.func g) [] [.ptr h.length 0]) (h ++ [.keys j])) : ACall P f [.map j] h Q := by
  refine ⟨hK.1, fun G w vs s r => ?_⟩
  obtain ⟨x, rfl, hx⟩ := r.single
  simp only [Rep] at hx
  obtain ⟨b, hb, rfl⟩ := hx
  refine (hK.2 b w).mono fun e w' ⟨he, hw⟩ => ?_
  subst hw
  have x : ObjAt (G.add h.length (w.heap.size, 0) 0) (w.alloc (.cells #[.map (some b)] tm)) h.length (.keys j) := by
    have hj : j ≠ h.length := fun e => by have := s.fresh; rw [← e, hb] at this; cases this
    refine ⟨w.heap.size, tm, b, by simp [Gh.add], ?_, by simp only [Gh.add]; rw [if_neg hj]; exact hb⟩
    show (w.heap.push _)[w.heap.size]? = _
    simp
  obtain ⟨s', ev⟩ := sim_push s _ _ 0 x
  refine ⟨.fn (.func g) [] [.ptr h.length 0], _, _, _, he, ?_, k, s', ev⟩
  simp only [Rep, RepL]
  refine ⟨[], [.pointer (some ⟨w.heap.size, 0, none⟩)], rfl, rfl, _, _, rfl, ⟨w.heap.size, 0, ?_, rfl⟩, rfl⟩
  simp [Gh.add]
theorem sorted_sp {α : Type} {enc : α → AV} {l : KL α} {f g : FuncId} {ks : TypeId} (hS : SortedIs P f g ks) {i j : Nat} {h : AHeap} {o : AObj} (hi : h[i]? = some (.keys j)) (hj : h[j]? = some o) (m : MapS enc l o) (hlen : l.length ≤ 1000000) (hsz : ∀ x ∈ l, x.1.length ≤ 1000000)
    {Q : QT} (k0 : l = [] → Q (.full 0 []) h) (k1 : l ≠ [] → Q (.sl h.length 0 l.length 1) (h ++ [.cells (l.map fun x => strAV x.1)])) : ACall P f [.fn (.func g) [] [.ptr i 0]] h Q := by
  obtain ⟨es, clock, rfl, mr⟩ := m
  have hel := mr.len
  have hkp : (es.map (·.1)).Perm (l.map (·.1)) := by have := mr.perm.map (·.1); rwa [List.map_map] at this
  refine ⟨hS.1, fun G w vs s r => ?_⟩
  obtain ⟨x, rfl, hx⟩ := r.single
  simp only [Rep, RepL] at hx
  obtain ⟨_, _, rfl, rfl, y, _, rfl, ⟨b0, o0, hb0, rfl⟩, rfl⟩ := hx
  obtain ⟨b1, el, q, e1, e2, e3⟩ := s.obj i _ hi
  rw [hb0] at e1; cases e1
  obtain ⟨b2, arr, e4, e5, e6⟩ := s.obj j _ hj
  rw [e3] at e4; cases e4
  obtain ⟨m1, m2⟩ := repE_maps e6
  have m1 : arr.toList.map (·.key) = (es.map (·.1)).map fun a => Value.string ⟨⟨a⟩⟩ := by rw [m1]; simp only [mE, List.map_map]; rfl
  have m2 : arr.toList.map (·.born) = es.map (·.2.1) := by rw [m2]; simp [mE]
  have harr : arr.toList.length = es.length := by have := e6.length; simpa [mE] using this
  have hsz' : ∀ a ∈ es.map (·.1), a.length ≤ 1000000 := fun a ha => by
    obtain ⟨x, hx, rfl⟩ := List.mem_map.1 (hkp.mem_iff.1 ha)
    exact hsz x hx
  let R : Value → Option (DataW Unit × List MemPlace) := fun _ => some (.nil, [])
  have hkey : ∀ x ∈ arr.toList, ∃ a ∈ es.map (·.1), x.key = .string ⟨⟨a⟩⟩ := fun x hx => by
    have : x.key ∈ arr.toList.map (·.key) := List.mem_map_of_mem hx
    rw [m1] at this
    obtain ⟨a, ha, e⟩ := List.mem_map.1 this
    exact ⟨a, ha, e.symm⟩
  have hrd : ∀ x ∈ arr.toList, ∀ a, x.key = .string ⟨⟨a⟩⟩ → a.length ≤ 1000000 → Go.WideElems.rd P ks R x = some (.string a, .nil) := fun x hx a e ha => by
    have : (⟨⟨a⟩⟩ : ByteArray).size ≤ maxLen := by show a.length ≤ maxLen; unfold maxLen; omega
    simp [Go.WideElems.rd, keyOf, mapKey, hS.2.1, e, this, R]
  have hfit : Fit P ks R arr clock := by
    refine ⟨?_, ⟨fun x hx => ?_, ?_, ?_⟩, fun x hx => ?_⟩
    · have : arr.size = es.length := by simpa using harr
      unfold maxLen; omega
    · have : x.born ∈ arr.toList.map (·.born) := List.mem_map_of_mem hx
      rw [m2] at this
      obtain ⟨e, he, hb⟩ := List.mem_map.1 this
      rw [← hb]; exact mr.lt e he
    · rw [m2]; exact mr.up.imp fun h => Nat.ne_of_lt h
    · rw [m1]
      refine List.pairwise_map.2 (mr.nd.imp fun h e => h ?_)
      simpa using e
    · obtain ⟨a, ha, e⟩ := hkey x hx
      exact ⟨_, hrd x hx a e (hsz' a ha)⟩
  have hsk : (strKeys (.map ((arr.toList.map (rg P ks R)).foldr DataW.insert []) : DataW Unit)).Perm (es.map (·.1)) := by
    show ((arr.toList.map (rg P ks R)).foldr DataW.insert []).map (fun p => strOf p.1) |>.Perm _
    refine ((sorted_perm _).map _).trans ?_
    rw [List.map_map]
    have : arr.toList.map ((fun p : Lit × DataW Unit => strOf p.1) ∘ rg P ks R) = es.map (·.1) := by
      have e1 : arr.toList.map ((fun p : Lit × DataW Unit => strOf p.1) ∘ rg P ks R) = arr.toList.map fun x => (match x.key with | .string s => s.data.toList | _ => []) := by
        refine List.map_congr_left fun x hx => ?_
        obtain ⟨a, ha, e⟩ := hkey x hx
        simp only [Function.comp, rg, hrd x hx a e (hsz' a ha), Option.getD_some, strOf, e]
      rw [e1]
      have e2 : arr.toList.map (fun x => (match x.key with | .string s => s.data.toList | _ => [])) = (arr.toList.map (·.key)).map fun v => (match v with | .string s => s.data.toList | _ => []) := by rw [List.map_map]; rfl
      rw [e2, m1, List.map_map]
      exact List.map_id'' (fun a => rfl) _
    rw [this]
  have hsize : Maps.size (.map ((arr.toList.map (rg P ks R)).foldr DataW.insert []) : DataW Unit) ≤ 1000000 := by
    show ((arr.toList.map (rg P ks R)).foldr DataW.insert []).length ≤ _
    rw [length_sorted, List.length_map, harr, hel]; exact hlen
  have hcell : w.cell? ⟨b0, 0, none⟩ = some (.map (some q)) := by simp [World.cell?, e2]
  have hlt : b0 < w.heap.size := (Array.getElem?_eq_some_iff.1 e2).1
  refine (hS.2.2 b0 q arr.size _ R w hlt hcell ⟨arr, clock, e5, hfit, Nat.le_refl _, rfl⟩ hsize).mono fun e w' ⟨v, ss, he, hp, hrow, hnil, hb⟩ => ?_
  have hms : ss.mergeSort (fun x y => decide (x ≤ y)) = l.map (·.1) := by
    have h1 : ss.mergeSort (fun x y => decide (x ≤ y)) = sortL (es.map (·.1)) := mergeSort_sortL (hp.trans hsk)
    rw [h1]
    refine List.Perm.eq_of_pairwise (le := fun a b : List UInt8 => a ≤ b) (fun a b _ _ h1 h2 => List.le_antisymm h1 h2) (sortL_sorted _) ?_ ((sortL_perm _).trans hkp)
    rw [List.pairwise_map]
    exact mr.so.imp fun h => List.le_of_lt h
  rw [hms] at hrow
  have hslen : ss.length = l.length := by have := congrArg List.length hms; rw [List.length_mergeSort, List.length_map] at this; exact this
  rw [hslen] at hrow
  by_cases hl : l = []
  · have hss : ss = [] := List.length_eq_zero_iff.1 (by rw [hslen, hl]; rfl)
    obtain ⟨s', ev⟩ := sim_below s hb
    exact ⟨.full 0 [], v, h, G, he, by rw [hnil.2 hss]; simp [Rep], k0 hl, s', ev⟩
  · rcases hrow.2 with ⟨hv, hz⟩ | ⟨gb, cap, cur, hv, hbase, hgb, c1, c2, c3, c4⟩
    · simp at hz; exact (hl hz).elim
    · have x : ObjAt (G.add h.length (gb, 0) cap) w' h.length (.cells (l.map fun x => strAV x.1)) := by
        refine ⟨gb, 0, cur, ks, 0, 0, by simp [Gh.add], hgb, fun k _ hk => by omega, ?_, by simp [Gh.add, c3], fun j' a' ha' => ?_⟩
        · simp [Gh.add]; simpa using c1
        · have hjl : j' < (l.map fun x => strAV x.1).length := (List.getElem?_eq_some_iff.1 ha').1
          rw [List.getElem?_map] at ha'
          cases hjj : l[j']? with
          | none => rw [hjj] at ha'; cases ha'
          | some z =>
            rw [hjj] at ha'
            cases ha'
            refine ⟨encStr z.1, ?_, by simp [Rep, strAV, encStr, Value.oneCell']⟩
            have hj3 : (cur.toList.take (l.length * 1))[j']? = some (encStr z.1) := by rw [c4, List.getElem?_map, List.getElem?_map, hjj]; rfl
            rw [List.getElem?_take] at hj3
            split at hj3
            · simpa using hj3
            · cases hj3
      obtain ⟨s', ev⟩ := sim_adopt s hb gb hbase _ cap x
      refine ⟨.sl h.length 0 l.length 1, v, _, _, he, ?_, k1 hl, s', ev⟩
      rw [hv]
      simp only [Rep]
      exact ⟨gb, 0, cap, 0, by simp [Gh.add], by simp [Gh.add], by simpa using c1, fun _ => rfl, rfl⟩
end
end
end Go.Proofs.YtamfimhaimaeiaaGreatDoor.AL
namespace Go.Proofs.YtamfimhaimaeiaaGreatDoor.AL
noncomputable section
variable [Tabs]
section
variable {P : Program} {G : Gh} {h : AHeap} {w : World}
def fzM (i : Nat) (cs : List AV) : MEnts → MEnts
  | [] => []
  | (k, n, a) :: es => (k, n, fz i cs a) :: fzM i cs es
def fzO (i : Nat) (cs : List AV) : AObj → AObj
  | .cells ds => .cells (fzL i cs ds)
  | .amap es n => .amap (fzM i cs es) n
  | o => o
theorem fzL_get {i : Nat} {cs : List AV} : ∀ (ds : List AV) (j : Nat), (fzL i cs ds)[j]? = (ds[j]?).map (fz i cs)
  | [], j => by simp [fzL]
  | a :: az, 0 => by simp [fzL]
  | a :: az, j + 1 => by simp [fzL, fzL_get az j]
theorem fzL_len {i : Nat} {cs : List AV} : ∀ (ds : List AV), (fzL i cs ds).length = ds.length
  | [] => by simp [fzL]
  | a :: az => by simp [fzL, fzL_len az]
theorem Frz.repE {G G' : Gh} {i : Nat} {cs : List AV} (z : Frz G G' i cs) : ∀ (es : MEnts) (l : List MapEntry), RepE G es l → RepE G' (fzM i cs es) l
  | [], l, h => h
  | (k, n, a) :: es, l, h => by
    simp only [RepE, fzM] at h ⊢
    obtain ⟨e, r, h1, h2, h3, h4, h5⟩ := h
    exact ⟨e, r, h1, h2, h3, z.rep a _ h4, z.repE es r h5⟩
theorem fzO_live {i : Nat} {cs : List AV} (o : AObj) : (fzO i cs o).live = o.live := by cases o <;> rfl
theorem Frz.objAt {G G' : Gh} {i : Nat} {cs : List AV} (z : Frz G G' i cs) {q : Nat} {o : AObj} (x : ObjAt G w q o) : ObjAt G' w q (fzO i cs o) := by
  cases o with
  | cells ds =>
    obtain ⟨b, o, arr, el, lo, hi, e1, e2, e3, e4, e5, e6⟩ := x
    refine ⟨b, o, arr, el, lo, hi, z.le.loc _ _ e1, e2, e3, by rw [z.le.cap _ _ e1, fzL_len]; exact e4, by rw [z.le.cap _ _ e1]; exact e5, fun j a ha => ?_⟩
    rw [fzL_get] at ha
    cases hj : ds[j]? with
    | none => rw [hj] at ha; cases ha
    | some d =>
      rw [hj] at ha; cases ha
      obtain ⟨v, h1, h2⟩ := e6 j d hj
      exact ⟨v, h1, z.rep d v h2⟩
  | amap es n =>
    obtain ⟨b, arr, e1, e2, e3⟩ := x
    exact ⟨b, arr, z.le.loc _ _ e1, e2, z.repE es _ e3⟩
  | _ => exact x.keep z.le fun p _ _ => rfl
theorem sim_frzIn (s : Sim G h w) {i : Nat} {cs : List AV} (hi : h[i]? = some (.cells cs)) {q : Nat} {oq : AObj} (hq : h[q]? = some oq) (hne : q ≠ i) :
    ∃ G', Sim G' ((h.set i .dead).set q (fzO i cs oq)) w ∧ Evo G h w G' ((h.set i .dead).set q (fzO i cs oq)) w ∧ Frz G G' i cs := by
  obtain ⟨G', s', ev, z⟩ := sim_frz s hi
  have hq' : (h.set i .dead)[q]? = some oq := by rw [List.getElem?_set_ne (Ne.symm hne)]; exact hq
  have hql := (List.getElem?_eq_some_iff.1 hq').1
  have key : ∀ (k : Nat) (ok : AObj), ((h.set i .dead).set q (fzO i cs oq))[k]? = some ok → ∃ ok', (h.set i .dead)[k]? = some ok' ∧ ok'.live = ok.live ∧ (k = q ∧ ok = fzO i cs oq ∨ k ≠ q ∧ ok = ok') := fun k ok hk => by
    by_cases e : k = q
    · subst e
      rw [List.getElem?_set_self hql] at hk
      cases hk
      exact ⟨oq, hq', (fzO_live oq).symm, .inl ⟨rfl, rfl⟩⟩
    · rw [List.getElem?_set_ne (Ne.symm e)] at hk
      exact ⟨ok, hk, rfl, .inr ⟨e, rfl⟩⟩
  refine ⟨G', ⟨fun k ok hk => ?_, fun k p hp => by simpa using s'.dom k p hp, fun a b oa ob p r ha hb la lb hp hr e => ?_, s'.frz, fun k ok p hk hl hp off => ?_, s'.tab⟩, ⟨ev.le, ev.size, ev.os, ev.tape, ev.output, ev.frame, fun b ⟨k, ok, p, hk, hl, hp, e⟩ => ?_, ev.fz⟩, z⟩
  · obtain ⟨ok', h1, h2, h3⟩ := key k ok hk
    rcases h3 with ⟨rfl, rfl⟩ | ⟨_, rfl⟩
    · exact z.objAt (s.obj _ _ hq)
    · exact s'.obj _ _ h1
  · obtain ⟨oa', a1, a2, _⟩ := key a oa ha
    obtain ⟨ob', b1, b2, _⟩ := key b ob hb
    exact s'.apart a b oa' ob' p r a1 b1 (a2.trans la) (b2.trans lb) hp hr e
  · obtain ⟨ok', h1, h2, _⟩ := key k ok hk
    exact s'.sep k ok' p h1 (h2.trans hl) hp off
  · obtain ⟨ok', h1, h2, _⟩ := key k ok hk
    exact ev.own b ⟨k, ok', p, h1, h2.trans hl, hp, e⟩
inductive ConvI : AV → AHeap → QT where
  | refl (r : AV) (h : AHeap) : ConvI r h r h
  | conv {r : AV} {h : AHeap} {r1 : AV} {h1 : AHeap} {r2 : AV} {h2 : AHeap} (c : Conv r h r1 h1) (k : ConvI r1 h1 r2 h2) : ConvI r h r2 h2
  | frzIn {r : AV} {h : AHeap} {r2 : AV} {h2 : AHeap} (i : Nat) (cs : List AV) (hi : h[i]? = some (.cells cs)) (q : Nat) (oq : AObj) (hq : h[q]? = some oq) (hne : q ≠ i) (k : ConvI (fz i cs r) ((h.set i .dead).set q (fzO i cs oq)) r2 h2) : ConvI r h r2 h2
theorem ConvI.ok {r : AV} {h : AHeap} {r2 : AV} {h2 : AHeap} (c : ConvI r h r2 h2) : ∀ {G : Gh} {w : World} {v : Value}, Sim G h w → Rep G r v → ∃ G', Sim G' h2 w ∧ Evo G h w G' h2 w ∧ Rep G' r2 v := by
  induction c with
  | refl r h => exact fun s hr => ⟨_, s, Evo.refl _ _ _, hr⟩
  | conv c k ih =>
    intro G w v s hr
    obtain ⟨G', s', ev, hr'⟩ := c.ok s hr
    obtain ⟨G2, s2, ev2, hr2⟩ := ih s' hr'
    exact ⟨G2, s2, ev.trans ev2, hr2⟩
  | frzIn i cs hi q oq hq hne k ih =>
    intro G w v s hr
    obtain ⟨G', s', ev, z⟩ := sim_frzIn s hi hq hne
    obtain ⟨G2, s2, ev2, hr2⟩ := ih s' (z.rep _ _ hr)
    exact ⟨G2, s2, ev.trans ev2, hr2⟩
theorem ACall.convI {f : FuncId} {args : List AV} {K : QT} (c : ACall P f args h fun r h' => ∃ r2 h2, ConvI r h' r2 h2 ∧ K r2 h2) : ACall P f args h K :=
  ⟨c.1, fun G w vs s hr => (c.2 G w vs s hr).mono fun e w' ⟨r, v, h', G', he, h1, ⟨r2, h2, cv, hk⟩, h3, h4⟩ => by
    obtain ⟨G2, s2, ev2, hr2⟩ := cv.ok h3 h1
    exact ⟨r2, v, h2, G2, he, hr2, hk, s2, h4.trans ev2⟩⟩
theorem St.frzIn {h0 : AHeap} {M : List Nat} {L L' L2 : Own} {i q : Nat} {cs : List AV} {oq : AObj} (s : St h0 M h L) (d : Del L (i, true, .cells cs) L') (u : Sub L' (q, true, oq) L2 (q, true, fzO i cs oq)) : q ≠ i ∧ St h0 M ((h.set i .dead).set q (fzO i cs oq)) L2 :=
  ⟨d.ne s.nd _ u.mem, (s.kill d).turn u⟩
end
end
end Go.Proofs.YtamfimhaimaeiaaGreatDoor.AL
namespace Go.Proofs.YtamfimhaimaeiaaGreatDoor.AL
noncomputable section
section
variable [Tabs]
variable {κ α : Type} [Ky κ] {enc : α → AV} {es : List (κ × Nat × α)} {n : Nat} {l : KM κ α}
variable {h0 h : AHeap} {M : List Nat} {L L' : Own} {K : AV → Prop} {KH : QT} {KS' : AHeap → Prop}
abbrev iterS (j n : Nat) (seen : List Nat) : AObj := .miter (some j) n seen n
theorem st_rangeMS {j : Nat} (s : St h0 M h L) (e : h[j]? = some (.amap (mE enc es) n)) (k : ∀ i h', St h0 M h' ((i, true, iterS j n []) :: L) → KH (.ptr i 0) h') : qRangeM (.map j) h KH := ⟨by
  simp only [eRangeM, e]
  exact k _ _ (s.push _)⟩
theorem st_nextMS {j i : Nat} {seen : List Nat} (s : St h0 M h ((i, true, iterS j n seen) :: L)) (e : h[j]? = some (.amap (mE enc es) n)) (m : MapR enc es n l) (k0 : (∀ x ∈ es, x.2.1 ∈ seen) → KH (.tup [B false]) h)
    (k1 : ∀ x ∈ es, x.2.1 ∉ seen → ∀ h', St h0 M h' ((i, true, iterS j n (seen ++ [x.2.1])) :: L) → KH (.tup [B true, .lit (Ky.val x.1), enc x.2.2]) h') : qNextM (.ptr i 0) h KH := ⟨by
  simp only [eNextM, s.get (.head _), e]
  refine ⟨⟨mE_one es, ?_⟩, fun hall => k0 fun x hx => ?_, fun y hy hn => ?_⟩
  · cases es with
    | nil => simp [mE]
    | cons x r => have := m.lt x (by simp); simp [mE]; omega
  · rcases hall (Ky.val x.1, x.2.1, enc x.2.2) (List.mem_map.2 ⟨x, hx, rfl⟩) with h | h
    · exact h
    · have := m.lt x hx; simp at h; omega
  · obtain ⟨x, hx, rfl⟩ := List.mem_map.1 hy
    exact k1 x hx hn _ (s.turn .head)⟩
theorem bornFind_mE : ∀ (es : List (κ × Nat × α)) (x : κ × Nat × α), x ∈ es → (es.map (·.2.1)).Nodup → bornFind x.2.1 (mE enc es) = some (Ky.val x.1, enc x.2.2)
  | [], x, h, _ => by simp at h
  | y :: es, x, h, nd => by
    simp only [List.map_cons, List.nodup_cons] at nd
    show bornFind x.2.1 ((Ky.val y.1, y.2.1, enc y.2.2) :: mE enc es) = _
    unfold bornFind
    rcases List.mem_cons.1 h with rfl | h
    · rw [if_pos (by simp)]
    · rw [if_neg, bornFind_mE es x h nd.2]
      simp only [beq_iff_eq]
      intro e
      exact nd.1 (e ▸ List.mem_map_of_mem h)
theorem MapR.nb (m : MapR enc es n l) : (es.map (·.2.1)).Nodup := m.up.imp fun h => Nat.ne_of_lt h
theorem st_entryMS {j i : Nat} {b : Bool} {seen : List Nat} {x : κ × Nat × α} (s : St h0 M h L) (u : (i, b, iterS j n (seen ++ [x.2.1])) ∈ L) (e : h[j]? = some (.amap (mE enc es) n)) (m : MapR enc es n l) (hx : x ∈ es) (k : K (.tup [.lit (Ky.val x.1), enc x.2.2])) : qEntry (.ptr i 0) h K := ⟨by
  simp only [pEntry, s.get u, e, List.getLast?_concat]
  rw [bornFind_mE es x hx m.nb]
  simp only
  rw [if_pos (by simp [Ky.one])]
  exact k⟩
theorem done_perm {done : List (κ × Nat × α)} (m : MapR enc es n l) (hd : ∀ x ∈ done, x ∈ es) (nd : (done.map (·.2.1)).Nodup) (all : ∀ x ∈ es, x.2.1 ∈ done.map (·.2.1)) : done.Perm es := by
  have pe : ∀ {b : List (κ × Nat × α)}, (b.map (·.2.1)).Nodup → b.Nodup := fun nd => List.Pairwise.of_map _ (fun _ _ h e => h (by rw [e])) nd
  refine (List.perm_ext_iff_of_nodup (pe nd) (pe m.nb)).2 fun x => ⟨hd x, fun hx => ?_⟩
  obtain ⟨y, hy, e⟩ := List.mem_map.1 (all x hx)
  obtain ⟨p, hp, rfl⟩ := List.getElem_of_mem hx
  obtain ⟨q, hq, e2⟩ := List.getElem_of_mem (hd y hy)
  have := nd_inj m.nb (i := q) (j := p) (by simpa using hq) (by simpa using hp) (by simp [e2, e])
  subst this
  rw [e2]; exact hy
def kmap {β : Type} (f : α → β) (l : KM κ α) : KM κ β := l.map fun x => (x.1, f x.2)
theorem kmap_so {β : Type} {f : α → β} {l : KM κ α} : SoK l → SoK (kmap f l) := fun s => by
  unfold SoK kmap; rw [List.pairwise_map]; exact s
theorem kmap_len {β : Type} {f : α → β} {l : KM κ α} : (kmap f l).length = l.length := List.length_map _
theorem lookK_kmap {β : Type} (f : α → β) (k : κ) : ∀ l : KM κ α, lookK k (kmap f l) = (lookK k l).map f
  | [] => rfl
  | (a, v) :: r => by
    show (if k = a then some (f v) else lookK k (kmap f r)) = _
    rw [lookK_kmap f k r]
    show _ = Option.map f (if k = a then some v else lookK k r)
    split <;> rfl
theorem insK_kmap {β : Type} (f : α → β) (k : κ) (v : α) : ∀ l : KM κ α, insK k (f v) (kmap f l) = kmap f (insK k v l)
  | [] => rfl
  | (a, w) :: r => by
    show (if k = a then (k, f v) :: kmap f r else if Ky.lt k a then (k, f v) :: (a, f w) :: kmap f r else (a, f w) :: insK k (f v) (kmap f r)) = _
    rw [insK_kmap f k v r]
    show _ = kmap f (if k = a then (k, v) :: r else if Ky.lt k a then (k, v) :: (a, w) :: r else (a, w) :: insK k v r)
    split
    · rfl
    · split <;> rfl
theorem kmap_kmap {β γ : Type} (f : α → β) (g : β → γ) (l : KM κ α) : kmap g (kmap f l) = kmap (fun x => g (f x)) l := by
  unfold kmap; rw [List.map_map]; rfl
theorem kmap_congr {β : Type} {f g : α → β} {l : KM κ α} (h : ∀ x ∈ l, f x.2 = g x.2) : kmap f l = kmap g l := List.map_congr_left fun x hx => by rw [h x hx]
theorem fzM_mE (i : Nat) (cs : List AV) : ∀ es : List (κ × Nat × AV), fzM i cs (mE id es) = mE id (es.map fun x => (x.1, x.2.1, fz i cs x.2.2))
  | [] => rfl
  | x :: es => by
    show (Ky.val x.1, x.2.1, fz i cs x.2.2) :: fzM i cs (mE id es) = _
    rw [fzM_mE i cs es]; rfl
theorem MapS.fz {l : KM κ AV} {o : AObj} (m : MapS id l o) (i : Nat) (cs : List AV) : MapS id (kmap (AL.fz i cs) l) (fzO i cs o) := by
  obtain ⟨es, n, rfl, r⟩ := m
  refine ⟨es.map fun x => (x.1, x.2.1, AL.fz i cs x.2.2), n, by rw [← fzM_mE]; rfl, ⟨by rw [List.map_map]; exact r.up, fun e he => ?_, by rw [List.map_map]; exact r.nd, fun x => ?_, kmap_so r.so⟩⟩
  · obtain ⟨y, hy, rfl⟩ := List.mem_map.1 he; exact r.lt y hy
  · simp only [List.map_map, List.mem_map, Function.comp, kmap]
    constructor
    · rintro ⟨e, he, rfl⟩; exact ⟨(e.1, e.2.2), (r.eq _).1 (List.mem_map.2 ⟨e, he, rfl⟩), rfl⟩
    · rintro ⟨y, hy, rfl⟩
      obtain ⟨e, he, rfl⟩ := List.mem_map.1 ((r.eq y).2 hy)
      exact ⟨e, he, rfl⟩
theorem MapS.so {l : KM κ α} {o : AObj} (m : MapS enc l o) : SoK l := by obtain ⟨_, _, _, r⟩ := m; exact r.so
end
end
end Go.Proofs.YtamfimhaimaeiaaGreatDoor.AL
namespace Go.Proofs.YtamfimhaimaeiaaGreatDoor.AL
noncomputable section
variable [Tabs]
def dropB (c : UInt8) : Str → Str
  | [] => []
  | x :: l => if x = c then dropB c l else x :: l
end
end Go.Proofs.YtamfimhaimaeiaaGreatDoor.AL
namespace Go.Proofs.YtamfimhaimaeiaaGreatDoor.AL
noncomputable section
variable [Tabs]
end
end Go.Proofs.YtamfimhaimaeiaaGreatDoor.AL
namespace Go.Proofs.YtamfimhaimaeiaaGreatDoor.AL
noncomputable section
variable [Tabs]
theorem index_string_sp (x : Str) (l : List (Str)) (hl : l.length < 4611686018427387904) {v : AV} {h : AHeap} (r : Row (fun x : Str => [T x]) 1 h v l) {Q : QT} (k : Q (I (findI (fun y => decide (x = y)) l)) h) : C fn_slices_Index__string_string [v, T x] h Q := by
  refine slices_Index__string_string_ok _ _ _ _ ?_
  unfold slices_Index__string_string
  refine r.len ?_
  refine st_loop (fun n vs h' => h' = h ∧ ∃ i : Nat, ∃ b, vs = [b, I (i : Nat)] ∧ n + i = l.length ∧ ∀ j (hj : j < i) (hj2 : j < l.length), decide (x = l[j]) = false) l.length ⟨rfl, 0, _, rfl, by omega, fun j hj => by omega⟩ ?_
  rintro n vs h' ⟨rfl, i, b, rfl, hn, ha⟩
  unfold slices_Index__string_string_l1
  (repeat refine st_lss ?_)
  refine st_if (fun hb => ?_) (fun hb => ?_) <;> simp only [za, zb, zc, zd, ze, zf, zg, zh, zi, u8i, zj, zk, zl] at hb
  · have hi : i < l.length := hb
    refine r.idx (fun _ => rfl) hi fun q t => ?_
    refine st_pload1 t ?_
    refine st_seq ?_
    cases hpi : decide (x = l[i]) with
    | true =>
      refine st_if (fun _ => ?_) (fun hb => by cases hb)
      rw [findI_some (p := fun y => decide (x = y)) hi hpi fun j hj => ha j hj (by omega)] at k
      exact k
    | false =>
      refine st_if (fun hb => by cases hb) (fun _ => ?_)
      (repeat refine st_add (by omega) ?_)
      refine ⟨n - 1, by omega, rfl, i + 1, _, rfl, by omega, fun j hj hj2 => ?_⟩
      rcases Nat.lt_or_eq_of_le (Nat.le_of_lt_succ hj) with h1 | h1
      · exact ha j h1 hj2
      · subst h1; exact hpi
  · rw [findI_none (p := fun y => decide (x = y)) fun j hj => ha j (by omega) hj] at k
    exact k
theorem contains_string_sp (x : Str) (l : List (Str)) (hl : l.length < 4611686018427387904) {v : AV} {h : AHeap} (r : Row (fun x : Str => [T x]) 1 h v l) {Q : QT} (k : Q (B (l.any fun y => decide (x = y))) h) : C fn_slices_Contains__string_string [v, T x] h Q := by
  refine slices_Contains__string_string_ok _ _ _ _ ?_
  unfold slices_Contains__string_string
  refine index_string_sp x l hl r ?_
  (repeat refine st_geq ?_)
  have : decide (0 ≤ findI (fun y => decide (x = y)) l) = l.any fun y => decide (x = y) := by rw [Bool.eq_iff_iff, decide_eq_true_eq]; exact findI_ge _ l
  rw [this]; exact k
theorem clone_string_sp {n : Nat} {cs : List AV} (hb : n * 16 ≤ 1099511627776) {v : AV} {h : AHeap} (r : Rd h 1 v n cs) {Q : QT} (k : ∀ h', Fr [] h h' → Q (.snap n cs) h') : C fn_slices_Clone__string_string [v] h Q := by
  refine ACall.conv ?_
  refine slices_Clone__string_string_ok _ _ _ ?_
  unfold slices_Clone__string_string
  have hl := r.len
  refine st_isNilS r (fun h0 => ?_) ?_
  · refine st_if (fun _ => ?_) (fun hb => by cases hb)
    subst h0
    have : cs = [] := by simpa using hl
    subst this
    exact conv_full (k _ (Fr.refl _ _))
  · refine st_if (fun hb => by cases hb) (fun _ => ?_)
    refine st_buildS rfl rfl ?_
    refine st_app0 (St.start h) r hb (fun h0 => ?_) fun i h1 hn s => ?_
    · subst h0
      have : cs = [] := by simpa using hl
      subst this
      exact conv_full (k _ (Fr.refl _ _))
    · exact conv_sl (s.get (.head _)) hl (k _ (s.kill .head).fr)
end
end Go.Proofs.YtamfimhaimaeiaaGreatDoor.AL
namespace Go.Proofs.YtamfimhaimaeiaaGreatDoor.AL
noncomputable section
variable [Tabs]
theorem toUInt8_id (c : UInt8) : c.toNat.toUInt8 = c := by simp
theorem st_extC {l : Str} {c : UInt8} {K : AV → Prop} (k : K (I (l.count c : Nat))) : qExt .count [T l, U8 c] K := ⟨by
  simp only [pExt, Int.toNat_natCast, toUInt8_id, Lib.countByte]; exact k⟩
def splitB (c : UInt8) : Str → List Str
  | [] => [[]]
  | x :: l => if x = c then [] :: splitB c l else match splitB c l with | [] => [[x]] | p :: ps => (x :: p) :: ps
omit [Tabs] in
theorem splitB_len (c : UInt8) : ∀ l : Str, (splitB c l).length = l.count c + 1
  | [] => rfl
  | x :: l => by
    have ih := splitB_len c l
    unfold splitB
    by_cases hx : x = c
    · subst hx; simp [ih]
    · rw [if_neg hx, List.count_cons_of_ne (by simpa using hx)]
      cases h : splitB c l with
      | nil => rw [h] at ih; simp at ih
      | cons p ps => rw [h] at ih; simpa using ih
omit [Tabs] in
theorem splitB_no {c : UInt8} : ∀ {l : Str}, c ∉ l → splitB c l = [l]
  | [], _ => rfl
  | x :: l, h => by
    simp only [List.mem_cons, not_or] at h
    unfold splitB
    rw [if_neg (Ne.symm h.1), splitB_no h.2]
omit [Tabs] in
theorem splitB_cut {c : UInt8} : ∀ {a b : Str}, c ∉ a → splitB c (a ++ c :: b) = a :: splitB c b
  | [], b, _ => by simp [splitB]
  | x :: a, b, h => by
    simp only [List.mem_cons, not_or] at h
    rw [List.cons_append, splitB, if_neg (Ne.symm h.1), splitB_cut h.2]
omit [Tabs] in
theorem index1_none {c : UInt8} {l : Str} (h : c ∉ l) : Lib.index l [c] = -1 := Lib.index_none fun j hj => by
  unfold Lib.occAt
  rw [Bool.eq_false_iff]; intro hp
  have := List.isPrefixOf_iff_prefix.1 hp
  have hm : c ∈ l.drop j := this.subset (by simp)
  exact h (List.mem_of_mem_drop hm)
omit [Tabs] in
theorem index1_some {c : UInt8} {a b : Str} (h : c ∉ a) : Lib.index (a ++ c :: b) [c] = a.length := Lib.index_first (by simp) (by simp [Lib.occAt]) fun j hj => by
  unfold Lib.occAt
  rw [Bool.eq_false_iff]; intro hp
  have := List.isPrefixOf_iff_prefix.1 hp
  rw [List.drop_append_of_le_length (by omega), List.drop_eq_getElem_cons hj] at this
  simp only [List.cons_append, List.cons_prefix_cons] at this
  exact h (this.1 ▸ List.getElem_mem _)
omit [Tabs] in
theorem cut_at {c : UInt8} : ∀ {l : Str}, c ∈ l → ∃ a b, l = a ++ c :: b ∧ c ∉ a
  | [], h => by simp at h
  | x :: l, h => by
    by_cases hx : x = c
    · subst hx; exact ⟨[], l, rfl, by simp⟩
    · obtain ⟨a, b, rfl, h2⟩ := cut_at (l := l) (by simpa [Ne.symm hx] using h)
      exact ⟨x :: a, b, rfl, by simp [Ne.symm hx, h2]⟩
def IndexOk : Prop := ∀ (s sub : Str) (h : AHeap) (Q : QT), s.length < 4294967281 → Q (I (Lib.index s sub)) h → C fn_strings_Index [T s, T sub] h Q
theorem splitB_ne (c : UInt8) (l : Str) : 0 < (splitB c l).length := by rw [splitB_len]; omega
theorem replicate_T (n : Nat) : List.replicate n (T []) = (List.replicate n ([] : Str)).flatMap fun x => [T x] := by
  induction n with
  | zero => rfl
  | succ n ih => simp [List.replicate_succ, ih]
theorem flatT (l : List Str) : (l.flatMap fun x => [T x]) = l.map T := by induction l <;> simp_all
theorem splice_put {l : List Str} {k : Nat} {x : Str} (h : k < l.length) : splice (l.flatMap fun x => [T x]) k [T x] = (l.set k x).flatMap fun x => [T x] := by
  rw [flatT, flatT]
  apply List.ext_getElem?; intro j
  rw [splice_get (by simp; omega)]
  simp only [List.length_cons, List.length_nil, List.getElem?_map, List.getElem?_set]
  split
  · rw [if_neg (by omega)]
  · split
    · have : j = k := by omega
      subst this; simp [h]
    · rw [if_neg (by omega)]
theorem splitO_sp (hI : IndexOk) (c : UInt8) (l : Str) (hl : l.length < 4000000000) {h : AHeap} {Q : QT} (k : ∀ i h', St h [] h' [(i, true, .cells ((splitB c l).flatMap fun x => [T x]))] → Q (.sl i 0 (splitB c l).length 1) h') : C fn_strings_Split [T l, T [c]] h Q := by
  refine strings_Split_ok _ _ _ _ ?_
  unfold strings_Split
  refine strings_genSplit_ok _ _ _ _ _ _ ?_
  unfold strings_genSplit
  (repeat (first | refine st_lss ?_ | refine st_eql ?_ | refine st_seq ?_))
  refine strings_Count_ok _ _ _ _ ?_
  unfold strings_Count
  (repeat (first | refine st_lenS ?_ | refine st_eql ?_))
  refine st_if (fun _ => ?_) (fun hb => (by exfalso; first | (simp at hb; done) | (simp at hb; omega) | (revert hb; decide) | omega))
  refine st_indexN (l := [c]) (i := 0) (by simp) ?_
  refine st_extC (c := c) ?_
  have hcnt := List.count_le_length (a := c) (l := l)
  have hsl := splitB_len c l
  (repeat (first | refine st_lenS ?_ | refine st_add (by omega) ?_ | refine st_min ?_))
  have e1 : min ((l.count c : Int) + 1) ((l.length : Int) + 1) = ((splitB c l).length : Nat) := by rw [hsl]; omega
  rw [e1]
  refine st_makeSlice (St.start h) (Nat.le_refl _) (by omega) (by omega) fun i h1 s => ?_
  have s : St h [] h1 [(i, true, .cells (List.replicate (splitB c l).length (T [])))] := s
  rw [replicate_T] at s
  refine st_sub (by omega) ?_
  have e2 : ((splitB c l).length : Int) - 1 = (((splitB c l).length - 1 : Nat) : Int) := by have := splitB_ne c l; omega
  rw [e2]
  refine st_loop (fun n vs h' => ∃ (m : Nat) (r : Str) (ps : List Str), vs = [T r, I (m : Nat)] ∧ r.length ≤ l.length ∧ n + m = (splitB c l).length ∧ ps.length = m ∧ splitB c l = ps ++ splitB c r ∧ St h [] h' [(i, true, .cells ((ps ++ List.replicate n []).flatMap fun x => [T x]))]) (splitB c l).length ⟨0, l, [], rfl, Nat.le_refl _, by omega, rfl, rfl, by simpa using s⟩ ?_
  rintro n vs h' ⟨m, r, ps, rfl, hr, hn, hps, hsp, s1⟩
  have hne := splitB_ne c r
  have hrl := splitB_len c r
  have hlen : (splitB c l).length = m + (splitB c r).length := by rw [hsp]; simp [hps]
  have fin : c ∉ r → strings_genSplit_b7 (T r) (I (m : Nat)) (.sl i 0 (splitB c l).length 1) h' Q := by
    intro hc
    rw [splitB_no hc] at hlen hsp
    simp at hlen
    have hn1 : n = 1 := by omega
    subst hn1
    unfold strings_genSplit_b7 strings_genSplit_j6
    have R : Rd h' 1 (.sl i 0 (splitB c l).length 1) (splitB c l).length ((ps ++ List.replicate 1 []).flatMap fun x => [T x]) := by
      have := Rd.sl (sz := 1) (n := (splitB c l).length) (o := 0) (s1.get (.head _)) (by rw [flat_len _ 1 (fun _ => rfl)]; simp; omega)
      rwa [List.drop_zero, List.take_of_length_le (by rw [flat_len _ 1 (fun _ => rfl)]; simp; omega)] at this
    refine st_ixSl (by omega) ?_
    rw [Nat.mul_one]
    refine st_store s1 .head rfl rfl rfl (by rw [flat_len _ 1 (fun _ => rfl)]; simp; omega) fun h2 s2 => ?_
    rw [show (T r).cells = [T r] from rfl, splice_put (by simp; omega)] at s2
    refine st_add (by omega) ?_
    refine st_cutSl (by omega) (by omega) ?_
    have e3 : (ps ++ List.replicate 1 []).set m r = splitB c l := by
      rw [hsp, List.set_append_right _ _ (by omega), hps]; simp
    rw [e3] at s2
    have e5 : ((m : Int) + 1).toNat = (splitB c l).length := by rw [hsp]; simp [hps]
    rw [e5]
    exact k _ _ s2
  unfold strings_genSplit_l9
  (repeat refine st_lss ?_)
  refine st_if (fun hb => ?_) (fun hb => ?_) <;> simp only [za, zb, zc, zd, ze, zf, zg, zh, zi, u8i, zj, zk, zl] at hb
  · refine hI r [c] _ _ (by omega) ?_
    by_cases hc : c ∈ r
    · obtain ⟨a, b, rfl, ha⟩ := cut_at hc
      rw [index1_some ha]
      (repeat refine st_lss ?_)
      refine st_if (fun hb => (by exfalso; first | (simp at hb; done) | (simp at hb; omega) | (revert hb; decide) | omega)) (fun _ => ?_)
      refine st_add (by simp at hr; omega) ?_
      have e3 : ((a.length : Int) + 0) = (a.length : Nat) := by omega
      rw [e3]
      refine st_cutl (by omega) (by simp; omega) ?_
      rw [Int.toNat_natCast, List.take_left]
      rw [splitB_cut ha] at hlen
      have hnp := splitB_ne c b
      refine st_ixSl (by simp at hlen; omega) ?_
      rw [Nat.mul_one]
      refine st_store s1 .head rfl rfl rfl (by rw [flat_len _ 1 (fun _ => rfl)]; simp; omega) fun h2 s2 => ?_
      rw [show (T a).cells = [T a] from rfl, splice_put (by simp; omega)] at s2
      refine st_lenS ?_
      refine st_add (by simp at hr ⊢; omega) ?_
      have e4 : ((a.length : Int) + (([c] : Str).length : Nat)) = ((a.length + 1 : Nat) : Int) := by simp
      rw [e4]
      refine st_cutr (by omega) (by simp; omega) ?_
      rw [Int.toNat_natCast, show a.length + 1 = (a ++ [c]).length by simp, show a ++ c :: b = (a ++ [c]) ++ b by simp, List.drop_left]
      (repeat refine st_add (by omega) ?_)
      rw [splitB_cut ha] at hsp
      simp at hlen
      refine ⟨n - 1, by omega, m + 1, b, ps ++ [a], rfl, by simp at hr; omega, by omega, by simp [hps], by rw [hsp]; simp, ?_⟩
      have e5 : (ps ++ List.replicate n []).set m a = ps ++ [a] ++ List.replicate (n - 1) [] := by
        rw [List.set_append_right _ _ (by omega), hps, Nat.sub_self]
        obtain ⟨q, rfl⟩ : ∃ q, n = q + 1 := ⟨n - 1, by omega⟩
        simp [List.replicate_succ]
      rw [e5] at s2; exact s2
    · rw [index1_none hc]
      (repeat refine st_lss ?_)
      refine st_if (fun _ => ?_) (fun hb => (by exfalso; first | (simp at hb; done) | (simp at hb; omega) | (revert hb; decide) | omega))
      exact fin hc
  · refine fin fun hc => ?_
    have : 0 < r.count c := List.count_pos_iff.2 hc
    simp [nthA] at hb
    omega
theorem split_sp (hI : IndexOk) (c : UInt8) (l : Str) (hl : l.length < 4000000000) {h : AHeap} {Q : QT} (k : ∀ h', Fr [] h h' → Q (.snap (splitB c l).length ((splitB c l).flatMap fun x => [T x])) h') : C fn_strings_Split [T l, T [c]] h Q := by
  refine ACall.conv ?_
  refine splitO_sp hI c l hl fun i h' s => ?_
  exact conv_sl (s.get (.head _)) (flat_len _ 1 (fun _ => rfl) _) (k _ (s.kill .head).fr)
end
end Go.Proofs.YtamfimhaimaeiaaGreatDoor.AL
namespace Go.Proofs.YtamfimhaimaeiaaGreatDoor.AL
noncomputable section
structure Rw where
  name : List UInt8
  bits : Nat
  kinds : List UInt8
end
end Go.Proofs.YtamfimhaimaeiaaGreatDoor.AL
set_option exponentiation.threshold 2000
namespace Go.Proofs.YtamfimhaimaeiaaGreatDoor.AL
noncomputable section
open Ieee
end
end Go.Proofs.YtamfimhaimaeiaaGreatDoor.AL
namespace Go.Proofs.YtamfimhaimaeiaaGreatDoor.AL
noncomputable section
variable [Tabs]
end
end Go.Proofs.YtamfimhaimaeiaaGreatDoor.AL
namespace Go.Proofs.YtamfimhaimaeiaaGreatDoor.AL
noncomputable section
variable [Tabs]
end
end Go.Proofs.YtamfimhaimaeiaaGreatDoor.AL
