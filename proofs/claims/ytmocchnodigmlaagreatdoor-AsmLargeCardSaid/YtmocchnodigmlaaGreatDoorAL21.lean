import Derived.Test.YtmocchnodigmlaaGreatDoorAL20
set_option linter.all false
set_option autoImplicit true
set_option relaxedAutoImplicit true
set_option linter.unusedVariables false
set_option linter.unusedSimpArgs false
/-! A memory that is quick to be looked up, and the steps over it. -/
namespace Go.Proofs.YtmocchnodigmlaaGreatDoor.AL
noncomputable section

/-! ### Values brought to a form -/
def bI (c t e : Bool) : Bool := @Bool.casesOn (fun _ => Bool) c e t
theorem bI_eq (c t e : Bool) : bI c t e = true ↔ (c = true ∧ t = true) ∨ (c = false ∧ e = true) := by cases c <;> simp [bI]
def bA (c t : Bool) : Bool := @Bool.casesOn (fun _ => Bool) c false t
theorem bA_eq (c t : Bool) : bA c t = true ↔ c = true ∧ t = true := by cases c <;> simp [bA]
def fN (m : Nat) (K : Nat → Bool) : Bool := @Nat.casesOn (fun _ => Bool) m (K 0) (fun m => K (Nat.succ m))
theorem fN_eq (m : Nat) (K : Nat → Bool) : fN m K = K m := by cases m <;> rfl
def fI (n : Int) (K : Int → Bool) : Bool := @Int.casesOn (fun _ => Bool) n (fun m => fN m fun m => K (.ofNat m)) (fun m => fN m fun m => K (.negSucc m))
theorem fI_eq (n : Int) (K : Int → Bool) : fI n K = K n := by cases n <;> simp [fI, fN_eq]
def fB (b : Bool) (K : Bool → Bool) : Bool := @Bool.casesOn (fun _ => Bool) b (K false) (K true)
theorem fB_eq (b : Bool) (K : Bool → Bool) : fB b K = K b := by cases b <;> rfl

theorem nbF {a b : Nat} (h : ¬ a = b) : Nat.beq a b = false := by
  cases e : Nat.beq a b
  · rfl
  · exact (h (Nat.eq_of_beq_eq_true e)).elim
/-! ### A tree of numbers -/
inductive Tr (α : Type) where
  | leaf
  | node (l : Tr α) (v : Option α) (r : Tr α)
namespace Tr
variable {α : Type}
def getI : Tr α → Nat → Option α
  | .leaf, _ => none
  | .node l v r, i => if i = 0 then v else if i % 2 = 1 then getI l (i / 2) else getI r (i / 2 - 1)
def singI (x : α) : Nat → Nat → Tr α
  | 0, _ => .leaf
  | f + 1, i => if i = 0 then .node .leaf (some x) .leaf else if i % 2 = 1 then .node (singI x f (i / 2)) none .leaf else .node .leaf none (singI x f (i / 2 - 1))
def setI (t : Tr α) (x : α) (i : Nat) : Tr α := match t with
  | .leaf => singI x (i + 1) i
  | .node l v r => if i = 0 then .node l (some x) r else if i % 2 = 1 then .node (setI l x (i / 2)) v r else .node l v (setI r x (i / 2 - 1))
def get (t : Tr α) : Nat → Option α :=
  @Tr.rec α (fun _ => Nat → Option α) (fun _ => none) (fun _ v _ gl gr i => @Bool.rec (fun _ => Option α) (@Bool.rec (fun _ => Option α) (gr (Nat.sub (Nat.div i 2) 1)) (gl (Nat.div i 2)) (Nat.beq (Nat.mod i 2) 1)) v (Nat.beq i 0)) t
def sing (x : α) : Nat → Nat → Tr α :=
  fun f => @Nat.rec (fun _ => Nat → Tr α) (fun _ => .leaf) (fun _ ih i => @Bool.rec (fun _ => Tr α) (@Bool.rec (fun _ => Tr α) (.node .leaf none (ih (Nat.sub (Nat.div i 2) 1))) (.node (ih (Nat.div i 2)) none .leaf) (Nat.beq (Nat.mod i 2) 1)) (.node .leaf (some x) .leaf) (Nat.beq i 0)) f
def set (t : Tr α) (x : α) : Nat → Tr α :=
  @Tr.rec α (fun _ => Nat → Tr α) (fun i => sing x (Nat.succ i) i) (fun l v r sl sr i => @Bool.rec (fun _ => Tr α) (@Bool.rec (fun _ => Tr α) (.node l v (sr (Nat.sub (Nat.div i 2) 1))) (.node (sl (Nat.div i 2)) v r) (Nat.beq (Nat.mod i 2) 1)) (.node l (some x) r) (Nat.beq i 0)) t

theorem get_leaf (i : Nat) : (Tr.leaf : Tr α).get i = none := rfl
theorem get_node (l : Tr α) (v : Option α) (r : Tr α) (i : Nat) : (Tr.node l v r).get i = if i = 0 then v else if i % 2 = 1 then l.get (i / 2) else r.get (i / 2 - 1) := by
  show @Bool.rec (fun _ => Option α) (@Bool.rec (fun _ => Option α) (r.get (i / 2 - 1)) (l.get (i / 2)) (Nat.beq (i % 2) 1)) v (Nat.beq i 0) = _
  by_cases h0 : i = 0
  · subst h0; rfl
  · have : Nat.beq i 0 = false := nbF h0
    rw [this, if_neg h0]
    by_cases h1 : i % 2 = 1
    · have : Nat.beq (i % 2) 1 = true := Nat.beq_eq.mpr h1
      rw [this, if_pos h1]
    · have : Nat.beq (i % 2) 1 = false := nbF h1
      rw [this, if_neg h1]
theorem sing_succ (x : α) (f i : Nat) : sing x (f + 1) i = if i = 0 then .node .leaf (some x) .leaf else if i % 2 = 1 then .node (sing x f (i / 2)) none .leaf else .node .leaf none (sing x f (i / 2 - 1)) := by
  show @Bool.rec (fun _ => Tr α) (@Bool.rec (fun _ => Tr α) (.node .leaf none (sing x f (i / 2 - 1))) (.node (sing x f (i / 2)) none .leaf) (Nat.beq (i % 2) 1)) (.node .leaf (some x) .leaf) (Nat.beq i 0) = _
  by_cases h0 : i = 0
  · subst h0; rfl
  · have : Nat.beq i 0 = false := nbF h0
    rw [this, if_neg h0]
    by_cases h1 : i % 2 = 1
    · have : Nat.beq (i % 2) 1 = true := Nat.beq_eq.mpr h1
      rw [this, if_pos h1]
    · have : Nat.beq (i % 2) 1 = false := nbF h1
      rw [this, if_neg h1]
theorem set_leaf (x : α) (i : Nat) : (Tr.leaf : Tr α).set x i = sing x (i + 1) i := rfl
theorem set_node (l : Tr α) (v : Option α) (r : Tr α) (x : α) (i : Nat) : (Tr.node l v r).set x i = if i = 0 then .node l (some x) r else if i % 2 = 1 then .node (l.set x (i / 2)) v r else .node l v (r.set x (i / 2 - 1)) := by
  show @Bool.rec (fun _ => Tr α) (@Bool.rec (fun _ => Tr α) (.node l v (r.set x (i / 2 - 1))) (.node (l.set x (i / 2)) v r) (Nat.beq (i % 2) 1)) (.node l (some x) r) (Nat.beq i 0) = _
  by_cases h0 : i = 0
  · subst h0; rfl
  · have : Nat.beq i 0 = false := nbF h0
    rw [this, if_neg h0]
    by_cases h1 : i % 2 = 1
    · have : Nat.beq (i % 2) 1 = true := Nat.beq_eq.mpr h1
      rw [this, if_pos h1]
    · have : Nat.beq (i % 2) 1 = false := nbF h1
      rw [this, if_neg h1]
theorem sing_get (x : α) : ∀ (f i j : Nat), i < f → (sing x f i).get j = if j = i then some x else none
  | 0, i, j, h => by omega
  | f + 1, i, j, h => by
    rw [sing_succ]
    by_cases h0 : i = 0
    · rw [if_pos h0, get_node]
      subst h0
      split
      · rfl
      · split <;> rfl
    · rw [if_neg h0]
      by_cases h1 : i % 2 = 1
      · rw [if_pos h1, get_node]
        by_cases hj : j = 0
        · rw [if_pos hj, if_neg (by omega)]
        · rw [if_neg hj]
          by_cases hj1 : j % 2 = 1
          · rw [if_pos hj1, sing_get x f (i / 2) (j / 2) (by omega)]
            by_cases e : j / 2 = i / 2
            · rw [if_pos e, if_pos (by omega)]
            · rw [if_neg e, if_neg (fun h => e (by rw [h]))]
          · rw [if_neg hj1, get_leaf, if_neg (fun h => by subst h; omega)]
      · rw [if_neg h1, get_node]
        by_cases hj : j = 0
        · rw [if_pos hj, if_neg (by omega)]
        · rw [if_neg hj]
          by_cases hj1 : j % 2 = 1
          · rw [if_pos hj1, get_leaf, if_neg (fun h => by subst h; omega)]
          · rw [if_neg hj1, sing_get x f (i / 2 - 1) (j / 2 - 1) (by omega)]
            by_cases e : j / 2 - 1 = i / 2 - 1
            · rw [if_pos e, if_pos (by omega)]
            · rw [if_neg e, if_neg (fun h => e (by rw [h]))]
theorem get_set (x : α) : ∀ (t : Tr α) (i j : Nat), (t.set x i).get j = if j = i then some x else t.get j
  | .leaf, i, j => by rw [set_leaf, sing_get x _ _ _ (Nat.lt_succ_self _), get_leaf]
  | .node l v r, i, j => by
    rw [set_node, get_node]
    by_cases h0 : i = 0
    · subst h0
      rw [if_pos rfl, get_node]
      by_cases hj : j = 0
      · rw [if_pos hj, if_pos hj]
      · rw [if_neg hj, if_neg hj, if_neg hj]
    · rw [if_neg h0]
      by_cases h1 : i % 2 = 1
      · rw [if_pos h1, get_node]
        by_cases hj : j = 0
        · subst hj; rw [if_pos rfl, if_neg (Ne.symm h0), if_pos rfl]
        · rw [if_neg hj, if_neg hj]
          by_cases hj1 : j % 2 = 1
          · rw [if_pos hj1, if_pos hj1, get_set x l]
            by_cases e : j / 2 = i / 2
            · rw [if_pos e, if_pos (by omega)]
            · rw [if_neg e, if_neg (fun h => e (by rw [h]))]
          · rw [if_neg hj1, if_neg hj1, if_neg (fun h => by subst h; omega)]
      · rw [if_neg h1, get_node]
        by_cases hj : j = 0
        · subst hj; rw [if_pos rfl, if_neg (Ne.symm h0), if_pos rfl]
        · rw [if_neg hj, if_neg hj]
          by_cases hj1 : j % 2 = 1
          · rw [if_pos hj1, if_pos hj1, if_neg (fun h => by subst h; omega)]
          · rw [if_neg hj1, if_neg hj1, get_set x r]
            by_cases e : j / 2 - 1 = i / 2 - 1
            · rw [if_pos e, if_pos (by omega)]
            · rw [if_neg e, if_neg (fun h => e (by rw [h]))]
end Tr

abbrev HT := Tr AObj
structure HR (t : HT) (n : Nat) (h : AHeap) : Prop where
  len : h.length = n
  at_ : ∀ i x, t.get i = some x → h[i]? = some x
theorem HR.set {t : HT} {n : Nat} {h : AHeap} (r : HR t n h) {i : Nat} {o x : AObj} (hi : t.get i = some x) : HR (t.set o i) n (h.set i o) where
  len := by simp [r.len]
  at_ := fun j y hy => by
    have hl : i < h.length := (List.getElem?_eq_some_iff.1 (r.at_ i x hi)).1
    rw [Tr.get_set] at hy
    rw [List.getElem?_set]
    by_cases e : j = i
    · subst e; rw [if_pos rfl] at hy; rw [if_pos rfl, if_pos hl]; exact hy
    · rw [if_neg e] at hy; rw [if_neg (Ne.symm e)]; exact r.at_ j y hy
theorem HR.push {t : HT} {n : Nat} {h : AHeap} (r : HR t n h) (o : AObj) : HR (t.set o n) (n + 1) (h ++ [o]) where
  len := by simp [r.len]
  at_ := fun j y hy => by
    have hl := r.len
    rw [Tr.get_set] at hy
    by_cases e : j = n
    · subst e; rw [if_pos rfl] at hy; rw [List.getElem?_append_right (by omega)]; simp [hl]; cases hy; rfl
    · rw [if_neg e] at hy
      have := r.at_ j y hy
      have hj : j < h.length := (List.getElem?_eq_some_iff.1 this).1
      rw [List.getElem?_append_left hj]; exact this
theorem HR.more {t : HT} {n : Nat} {h : AHeap} (r : HR t n h) (l : AHeap) : HR t (n + l.length) (h ++ l) where
  len := by simp [r.len]
  at_ := fun j y hy => by
    have := r.at_ j y hy
    have hj : j < h.length := (List.getElem?_eq_some_iff.1 this).1
    rw [List.getElem?_append_left hj]; exact this
theorem HR.none {n : Nat} {h : AHeap} (e : h.length = n) : HR .leaf n h := ⟨e, fun i x hx => by cases hx⟩

/-- Memory as a list, of a fast one. -/
def KH (K : AV → HT → Nat → Bool) (r : AV) (h : AHeap) : Prop := ∃ t n, HR t n h ∧ K r t n = true
def KS (K : HT → Nat → Bool) (h : AHeap) : Prop := ∃ t n, HR t n h ∧ K t n = true

/-! ### Steps -/
section
variable {t : HT} {n : Nat} {h : AHeap}
def tload (t : HT) (m : Nat) (v : AV) : Option (List AV) := match v with
  | .ptr i o => match t.get i with
    | some (.cells cs) => if o + m ≤ cs.length then some ((cs.drop o).take m) else none
    | _ => none
  | .cptr cs => if m ≤ cs.length then some (cs.take m) else none
  | _ => none
theorem tload_eq (r : HR t n h) {m : Nat} {v : AV} {l : List AV} (e : tload t m v = some l) : aload h m v = some l := by
  unfold tload at e
  unfold aload
  split at e
  · split at e
    · rename_i hc; simp only [r.at_ _ _ hc]; exact e
    · cases e
  · exact e
  · cases e
def tLoadA (m : Nat) (v : AV) (t : HT) (K : AV → Bool) : Bool := match tload t m v with | some l => K (.agg l) | none => false
def tLoad1 (v : AV) (t : HT) (K : AV → Bool) : Bool := match tload t 1 v with | some [a] => K a | _ => false
theorem tLoadA_ok (r : HR t n h) {m : Nat} {v : AV} {K : AV → Bool} (k : tLoadA m v t K = true) : pLoadA m v h (fun r => K r = true) := by
  unfold tLoadA at k
  unfold pLoadA
  split at k
  · rename_i hl; simp only [tload_eq r hl]; exact k
  · cases k
theorem tLoad1_ok (r : HR t n h) {v : AV} {K : AV → Bool} (k : tLoad1 v t K = true) : pLoad1 v h (fun r => K r = true) := by
  unfold tLoad1 at k
  unfold pLoad1
  split at k
  · rename_i hl; simp only [tload_eq r hl]; exact k
  · cases k

def tNew (cs : List AV) (t : HT) (n : Nat) (K : AV → HT → Nat → Bool) : Bool := fN n fun n => K (.ptr n 0) (t.set (.cells cs) n) (n + 1)
theorem tNew_ok (r : HR t n h) {cs : List AV} {K : AV → HT → Nat → Bool} (k : tNew cs t n K = true) : eNew cs h (KH K) := by
  unfold tNew at k; rw [fN_eq] at k
  unfold eNew
  rw [r.len]
  exact ⟨_, _, r.push _, k⟩
def tBox (v : AV) (t : HT) (n : Nat) (K : AV → HT → Nat → Bool) : Bool := bI v.isTup false (tNew v.cells t n K)
theorem tBox_ok (r : HR t n h) {v : AV} {K : AV → HT → Nat → Bool} (k : tBox v t n K = true) : eBox v h (KH K) := by
  unfold tBox at k
  rcases (bI_eq _ _ _).1 k with ⟨_, k⟩ | ⟨hv, k⟩
  · cases k
  · exact ⟨hv, tNew_ok r k⟩
def tStore (m : Nat) (v u : AV) (t : HT) (n : Nat) (K : HT → Nat → Bool) : Bool :=
  match v with
  | .ptr i o => (match t.get i with
    | some (.cells cs) => decide (u.isTup = false ∧ u.cells.length = m ∧ u.cells.all AV.one = true ∧ o + m ≤ cs.length) && K (t.set (.cells (splice cs o u.cells)) i) n
    | _ => false)
  | _ => false
theorem tStore_ok (r : HR t n h) {m : Nat} {v u : AV} {K : HT → Nat → Bool} (k : tStore m v u t n K = true) : eStore m v u h (KS K) := by
  unfold tStore at k
  unfold eStore
  split at k
  · rename_i i o
    skip
    split at k
    · rename_i cs hc
      simp only [r.at_ _ _ hc]
      simp only [Bool.and_eq_true, decide_eq_true_eq] at k
      exact ⟨k.1, _, _, r.set hc, k.2⟩
    · cases k
  · cases k
def tElems (t : HT) (size : Nat) (v : AV) : Option (Nat × List AV) := match v with
  | .snap n cs => if cs.length = n * size then some (n, cs) else none
  | .full n cs => if cs.length = n * size then some (n, cs) else none
  | .sl i off len sz => match t.get i with
    | some (.cells cs) => if sz = size ∧ off + len * size ≤ cs.length then some (len, (cs.drop off).take (len * size)) else none
    | _ => none
  | .lit (.string s) => if size = 1 then some (s.size, s.data.toList.map fun b => .lit (.int .u8 b.toNat)) else none
  | _ => none
theorem tElems_eq (r : HR t n h) {m : Nat} {v : AV} {x : Nat × List AV} (e : tElems t m v = some x) : aElems h m v = some x := by
  unfold tElems at e
  unfold aElems
  split at e
  · exact e
  · exact e
  · split at e
    · rename_i hc; simp only [r.at_ _ _ hc]; exact e
    · cases e
  · exact e
  · cases e
def tAppend (size bytes : Nat) (v x : AV) (t : HT) (n : Nat) (K : AV → HT → Nat → Bool) : Bool :=
  match tElems t size x with
  | none => false
  | some (m, xs) => match v with
    | .full n0 cs => decide (cs.length = n0 * size ∧ (n0 + m) * bytes ≤ 1099511627776) && (bI (Nat.beq m 0) (K (.full n0 cs) t n) (fN n fun n => fN (n0 + m) fun l => K (.sl n 0 l size) (t.set (.cells (cs ++ xs)) n) (n + 1)))
    | .sl i off len sz => (match t.get i with
      | some (.cells cs) => decide (sz = size ∧ off + len * size = cs.length ∧ xs.all AV.one = true ∧ (len + m) * bytes ≤ 1099511627776) && fN n fun n => fN (len + m) fun l => K (.sl n 0 l size) ((t.set .dead i).set (.cells (cs.drop off ++ xs)) n) (n + 1)
      | _ => false)
    | _ => false
theorem tAppend_ok (r : HR t n h) {size bytes : Nat} {v x : AV} {K : AV → HT → Nat → Bool} (k : tAppend size bytes v x t n K = true) : eAppend size bytes v x h (KH K) := by
  unfold tAppend at k
  unfold eAppend
  split at k
  · cases k
  · rename_i m xs hx
    simp only [tElems_eq r hx]
    split at k
    · simp only [Bool.and_eq_true, decide_eq_true_eq, bI_eq, fN_eq] at k
      refine ⟨k.1, ?_⟩
      rcases k.2 with ⟨h0, k⟩ | ⟨h0, k⟩
      · rw [if_pos (Nat.eq_of_beq_eq_true h0)]; exact ⟨t, n, r, k⟩
      · rw [if_neg (fun e => by rw [Nat.beq_eq.mpr e] at h0; cases h0), r.len]; exact ⟨_, _, r.push _, k⟩
    · rename_i i off len sz
      skip
      split at k
      · rename_i cs hc
        simp only [r.at_ _ _ hc]
        simp only [Bool.and_eq_true, decide_eq_true_eq, fN_eq] at k
        refine ⟨k.1, ?_⟩
        rw [r.len]
        exact ⟨_, _, (r.set hc).push _, k.2⟩
      · cases k
    · cases k
def tBytesStr (x : AV) (t : HT) (K : AV → Bool) : Bool :=
  bA (isRow x) (match tElems t 1 x with
    | some (_, xs) => (match bytesOf xs with | some l => K (S ⟨l.toArray⟩) | none => false)
    | none => false)
theorem tBytesStr_ok (r : HR t n h) {x : AV} {K : AV → Bool} (k : tBytesStr x t K = true) : pBytesStr x h (fun r => K r = true) := by
  unfold tBytesStr at k
  unfold pBytesStr
  rw [bA_eq] at k
  rw [if_pos k.1]
  have k := k.2
  split at k
  · rename_i hx
    simp only [tElems_eq r hx]
    split at k
    · simp only [*]
    · cases k
  · cases k
def tStrBytes (x : AV) (t : HT) (n : Nat) (K : AV → HT → Nat → Bool) : Bool :=
  match x with
  | .lit (.string s) => fN n fun n => fN s.size fun l => K (.sl n 0 l 1) (t.set (.cells (s.data.toList.map fun b => .lit (.int .u8 b.toNat))) n) (n + 1)
  | _ => false
theorem tStrBytes_ok (r : HR t n h) {x : AV} {K : AV → HT → Nat → Bool} (k : tStrBytes x t n K = true) : eStrBytes x h (KH K) := by
  unfold tStrBytes at k
  unfold eStrBytes
  split at k
  · simp only [fN_eq] at k
    rw [r.len]
    exact ⟨_, _, r.push _, k⟩
  · cases k
def tMakeSlice (bytes : Nat) (z l c : AV) (t : HT) (n : Nat) (K : AV → HT → Nat → Bool) : Bool :=
  match l, c with
  | .lit (.int _ l), .lit (.int _ c) => decide (0 ≤ l ∧ l ≤ c ∧ (bytes : Int) * c ≤ 1099511627776 ∧ c ≤ 1099511627776) && fN n fun n => fN l.toNat fun l => K (.sl n 0 l 1) (t.set (.cells (List.replicate c.toNat z)) n) (n + 1)
  | _, _ => false
theorem tMakeSlice_ok (r : HR t n h) {bytes : Nat} {z l c : AV} {K : AV → HT → Nat → Bool} (k : tMakeSlice bytes z l c t n K = true) : eMakeSlice bytes z l c h (KH K) := by
  unfold tMakeSlice at k
  unfold eMakeSlice
  split at k
  · simp only [fN_eq, Bool.and_eq_true, decide_eq_true_eq] at k
    rw [r.len]
    exact ⟨k.1, _, _, r.push _, k.2⟩
  · cases k
def tLenM (v : AV) (t : HT) (K : AV → Bool) : Bool := match v with | .map i => (match t.get i with | some (.amap es _) => fN es.length fun l => K (I l) | _ => false) | _ => false
theorem tLenM_ok (r : HR t n h) {v : AV} {K : AV → Bool} (k : tLenM v t K = true) : pLenM v h (fun r => K r = true) := by
  unfold tLenM at k
  unfold pLenM
  split at k
  · split at k
    · rename_i hc
      simp only [fN_eq] at k; simp only [r.at_ _ _ hc]; exact k
    · cases k
  · cases k

/-! ### Maps -/
def uEq (a b : UInt8) : Bool := Nat.beq a.toNat b.toNat
theorem uEq_eq (a b : UInt8) : uEq a b = (a == b) := by
  rw [Bool.eq_iff_iff, uEq, Nat.beq_eq, beq_iff_eq, UInt8.toNat_inj]
def lEq : List UInt8 → List UInt8 → Bool
  | [], [] => true
  | a :: l, b :: m => bA (uEq a b) (lEq l m)
  | _, _ => false
theorem lEq_eq : ∀ a b : List UInt8, lEq a b = true ↔ a = b
  | [], [] => by simp [lEq]
  | [], b :: m => by simp [lEq]
  | a :: l, [] => by simp [lEq]
  | a :: l, b :: m => by simp only [lEq, bA_eq, uEq_eq, beq_iff_eq, lEq_eq l m, List.cons.injEq]
def sEq (a b : ByteArray) : Bool := lEq a.data.toList b.data.toList
theorem sEq_iff (a b : ByteArray) : sEq a b = true ↔ a = b := by
  unfold sEq
  rw [lEq_eq]
  constructor
  · intro h
    rcases a with ⟨⟨a⟩⟩; rcases b with ⟨⟨b⟩⟩
    simp at h; subst h; rfl
  · rintro rfl; rfl
theorem sEq_eq (a b : ByteArray) : sEq a b = (a == b) := by
  rw [Bool.eq_iff_iff, sEq_iff]
  show a = b ↔ (a.data == b.data) = true
  rw [beq_iff_eq]
  exact ⟨fun h => by rw [h], fun h => by cases a; cases b; simp at h; rw [h]⟩
def iEq (a b : Int) : Bool := @Int.casesOn (fun _ => Bool) a (fun m => @Int.casesOn (fun _ => Bool) b (fun k => Nat.beq m k) (fun _ => false)) (fun m => @Int.casesOn (fun _ => Bool) b (fun _ => false) (fun k => Nat.beq m k))
theorem iEq_iff (a b : Int) : iEq a b = true ↔ a = b := by
  cases a <;> cases b <;> simp [iEq]
  exact ⟨fun h => by rw [h], fun h => Int.ofNat.inj h⟩
theorem iEq_eq (a b : Int) : iEq a b = (a == b) := by
  rw [Bool.eq_iff_iff, iEq_iff, beq_iff_eq]
def tkeq : Value → Value → Bool
  | .string a, .string b => sEq a b
  | .int _ a, .int _ b => iEq a b
  | _, _ => false
theorem tkeq_eq (a b : Value) : tkeq a b = keq a b := by
  unfold tkeq keq
  split <;> simp_all [sEq_eq, iEq_eq]
def tfind (k : Value) : MEnts → Nat → Option (Nat × Nat × AV)
  | [], _ => none
  | (k', n, v) :: r, i => match tkeq k k' with
    | true => some (i, n, v)
    | false => tfind k r (i + 1)
theorem tfind_eq (k : Value) : ∀ (es : MEnts) (i : Nat), tfind k es i = mfind k es i
  | [], _ => rfl
  | (k', n, v) :: r, i => by
    simp only [tfind, mfind]
    rw [tkeq_eq]
    cases h : keq k k'
    · simp [tfind_eq k r]
    · simp
def tput (k : Value) (v : AV) (clock : Nat) (es : MEnts) : AObj :=
  match tfind k es 0 with
  | some (i, n, _) => .amap (es.set i (k, n, v)) clock
  | none => .amap (es ++ [(k, clock, v)]) (clock + 1)
theorem tput_eq (k : Value) (v : AV) (clock : Nat) (es : MEnts) : tput k v clock es = mput k v clock es := by
  unfold tput mput; rw [tfind_eq]
  split <;> simp_all
def kAll (d : TypeDesc) : MEnts → Bool
  | [] => true
  | e :: es => bA (kOk d e.1) (kAll d es)
theorem kAll_eq (d : TypeDesc) : ∀ es : MEnts, kAll d es = es.all fun e => kOk d e.1
  | [] => rfl
  | e :: es => by
    simp only [kAll, List.all_cons, ← kAll_eq d es]
    cases kOk d e.1 <;> rfl
def tLookup (d : TypeDesc) (ok : Bool) (z x key : AV) (t : HT) (K : AV → Bool) : Bool :=
  match key with
  | .lit k => match x with
    | .lit (.map none) => bA (kOk d k) (K (if ok then .tup [z, B false] else z))
    | .map i => match t.get i with
      | some (.amap es _) => bA (kOk d k) (bA (kAll d es) (match tfind k es 0 with
        | some (_, _, v) => K (if ok then .tup [v, B true] else v)
        | none => K (if ok then .tup [z, B false] else z)))
      | _ => false
    | _ => false
  | _ => false
theorem tLookup_ok (r : HR t n h) {d : TypeDesc} {ok : Bool} {z x key : AV} {K : AV → Bool} (k : tLookup d ok z x key t K = true) : pLookup d ok z x key h (fun r => K r = true) := by
  unfold tLookup at k
  unfold pLookup
  split at k
  · split at k
    · rw [bA_eq] at k; simp only [if_pos k.1]; exact k.2
    · split at k
      · rename_i hc
        simp only [r.at_ _ _ hc]
        rw [bA_eq, bA_eq, kAll_eq, tfind_eq] at k
        rw [if_pos (by simp [k.1, k.2.1])]
        have k := k.2.2
        split at k <;> simp only [*]
      · cases k
    · cases k
  · cases k
def tMapUpdate (d : TypeDesc) (x key v : AV) (t : HT) (n : Nat) (K : HT → Nat → Bool) : Bool :=
  match key, x with
  | .lit k, .map i => (match t.get i with
    | some (.amap es clock) => bA (kOk d k) (bA (kAll d es) (K (t.set (tput k v clock es) i) n))
    | _ => false)
  | _, _ => false
theorem tMapUpdate_ok (r : HR t n h) {d : TypeDesc} {x key v : AV} {K : HT → Nat → Bool} (k : tMapUpdate d x key v t n K = true) : eMapUpdate d x key v h (KS K) := by
  unfold tMapUpdate at k
  unfold eMapUpdate
  split at k
  · skip
    split at k
    · rename_i hc
      simp only [r.at_ _ _ hc]
      rw [bA_eq, bA_eq, kAll_eq, tput_eq] at k
      rw [if_pos (by simp [k.1, k.2.1])]
      exact ⟨_, _, r.set hc, k.2.2⟩
    · cases k
  · cases k
def tMapEntry (d : TypeDesc) (z x key : AV) (t : HT) (n : Nat) (K : AV → HT → Nat → Bool) : Bool :=
  match key, x with
  | .lit k, .map i => (match t.get i with
    | some (.amap es clock) => bA (kOk d k) (bA (kAll d es) (match tfind k es 0 with
      | some (_, m, v) => K (.tup [v, I m]) t n
      | none => K (.tup [z, I clock]) (t.set (.amap (es ++ [(k, clock, z)]) (clock + 1)) i) n))
    | _ => false)
  | _, _ => false
theorem tMapEntry_ok (r : HR t n h) {d : TypeDesc} {z x key : AV} {K : AV → HT → Nat → Bool} (k : tMapEntry d z x key t n K = true) : eMapEntry d z x key h (KH K) := by
  unfold tMapEntry at k
  unfold eMapEntry
  split at k
  · skip
    split at k
    · rename_i hc
      simp only [r.at_ _ _ hc]
      rw [bA_eq, bA_eq, kAll_eq, tfind_eq] at k
      rw [if_pos (by simp [k.1, k.2.1])]
      have k := k.2.2
      split at k
      · simp only [*]; exact ⟨_, _, r, k⟩
      · simp only [*]; exact ⟨_, _, r.set hc, k⟩
    · cases k
  · cases k
def tEntryStore (x st v : AV) (t : HT) (n : Nat) (K : HT → Nat → Bool) : Bool :=
  match st, x with
  | .lit (.int .i64 m), .map i => (match t.get i with
    | some (.amap es clock) => (match bornAt m es 0 with
      | some (j, k, b) => K (t.set (.amap (es.set j (k, b, v)) clock) i) n
      | none => false)
    | _ => false)
  | _, _ => false
theorem tEntryStore_ok (r : HR t n h) {x st v : AV} {K : HT → Nat → Bool} (k : tEntryStore x st v t n K = true) : eEntryStore x st v h (KS K) := by
  unfold tEntryStore at k
  unfold eEntryStore
  split at k
  · skip
    split at k
    · rename_i hc
      simp only [r.at_ _ _ hc]
      split at k
      · simp only [*]; exact ⟨_, _, r.set hc, k⟩
      · cases k
    · cases k
  · cases k
def tDelete (d : TypeDesc) (x key : AV) (t : HT) (n : Nat) (K : HT → Nat → Bool) : Bool :=
  match key with
  | .lit k => match x with
    | .lit (.map none) => bA (kOk d k) (K t n)
    | .map i => (match t.get i with
      | some (.amap es clock) => bA (kOk d k) (bA (kAll d es) (match tfind k es 0 with
        | some (j, _, _) => K (t.set (.amap (es.eraseIdx j) clock) i) n
        | none => K t n))
      | _ => false)
    | _ => false
  | _ => false
theorem tDelete_ok (r : HR t n h) {d : TypeDesc} {x key : AV} {K : HT → Nat → Bool} (k : tDelete d x key t n K = true) : eDelete d x key h (KS K) := by
  unfold tDelete at k
  unfold eDelete
  split at k
  · split at k
    · rw [bA_eq] at k; simp only [if_pos k.1]; exact ⟨_, _, r, k.2⟩
    · skip
      split at k
      · rename_i hc
        simp only [r.at_ _ _ hc]
        rw [bA_eq, bA_eq, kAll_eq, tfind_eq] at k
        rw [if_pos (by simp [k.1, k.2.1])]
        have k := k.2.2
        split at k
        · simp only [*]; exact ⟨_, _, r.set hc, k⟩
        · simp only [*]; exact ⟨_, _, r, k⟩
      · cases k
    · cases k
  · cases k
def tMakeMap (t : HT) (n : Nat) (K : AV → HT → Nat → Bool) : Bool := fN n fun n => K (.map n) (t.set (.amap [] 0) n) (n + 1)
theorem tMakeMap_ok (r : HR t n h) {K : AV → HT → Nat → Bool} (k : tMakeMap t n K = true) : eMakeMap h (KH K) := by
  unfold tMakeMap at k; rw [fN_eq] at k
  unfold eMakeMap
  rw [r.len]
  exact ⟨_, _, r.push _, k⟩
def tRangeS (x : AV) (t : HT) (n : Nat) (K : AV → HT → Nat → Bool) : Bool :=
  match x with
  | .lit (.string s) => fN n fun n => K (.ptr n 0) (t.set (.siter s 0) n) (n + 1)
  | _ => false
theorem tRangeS_ok (r : HR t n h) {x : AV} {K : AV → HT → Nat → Bool} (k : tRangeS x t n K = true) : eRangeS x h (KH K) := by
  unfold tRangeS at k
  unfold eRangeS
  split at k
  · rw [fN_eq] at k; rw [r.len]; exact ⟨_, _, r.push _, k⟩
  · cases k
def tNextS (x : AV) (t : HT) (n : Nat) (K : AV → HT → Nat → Bool) : Bool :=
  match x with
  | .ptr i 0 => (match t.get i with
    | some (.siter s pos) => bI (Nat.blt pos s.size) (K (.tup [B true, I pos, .lit (.int .i32 (Utf8.decode s pos).1)]) (t.set (.siter s (pos + (Utf8.decode s pos).2)) i) n) (K (.tup [B false]) t n)
    | _ => false)
  | _ => false
theorem tNextS_ok (r : HR t n h) {x : AV} {K : AV → HT → Nat → Bool} (k : tNextS x t n K = true) : eNextS x h (KH K) := by
  unfold tNextS at k
  unfold eNextS
  split at k
  · skip
    split at k
    · rename_i hc
      simp only [r.at_ _ _ hc]
      rw [bI_eq] at k
      rcases k with ⟨hp, k⟩ | ⟨hp, k⟩
      · rw [if_pos (by rw [Nat.blt_eq] at hp; exact hp)]; exact ⟨_, _, r.set hc, k⟩
      · rw [if_neg (fun e => by rw [← Nat.blt_eq, hp] at e; cases e)]; exact ⟨_, _, r, k⟩
    · cases k
  · cases k
def tRangeM (x : AV) (t : HT) (n : Nat) (K : AV → HT → Nat → Bool) : Bool :=
  match x with
  | .lit (.map none) => fN n fun n => K (.ptr n 0) (t.set (.miter none 0 [] 0) n) (n + 1)
  | .map i => (match t.get i with
    | some (.amap es clock) => fN n fun n => K (.ptr n 0) (t.set (.miter (some i) clock [] clock) n) (n + 1)
    | _ => false)
  | _ => false
theorem tRangeM_ok (r : HR t n h) {x : AV} {K : AV → HT → Nat → Bool} (k : tRangeM x t n K = true) : eRangeM x h (KH K) := by
  unfold tRangeM at k
  unfold eRangeM
  split at k
  · rw [fN_eq] at k; rw [r.len]; exact ⟨_, _, r.push _, k⟩
  · skip
    split at k
    · rename_i hc
      simp only [r.at_ _ _ hc]
      rw [fN_eq] at k; rw [r.len]; exact ⟨_, _, r.push _, k⟩
    · cases k
  · cases k
def tNextM (x : AV) (t : HT) (n : Nat) (K : AV → HT → Nat → Bool) : Bool :=
  match x with
  | .ptr i 0 => (match t.get i with
    | some (.miter none _ _ _) => K (.tup [B false]) t n
    | some (.miter (some j) since seen last) => (match t.get j with
      | some (.amap es clock) =>
        decide ((es.all fun e => e.1.oneCell') = true ∧ (!seen.isEmpty && !es.isEmpty && es.all fun e => decide (e.2.1 ≥ last)) = false) &&
        ((!(es.all fun e => seen.contains e.2.1 || decide (since ≤ e.2.1)) || K (.tup [B false]) t n) &&
        es.all fun e => seen.contains e.2.1 || K (.tup [B true, .lit e.1, e.2.2]) (t.set (.miter (some j) since (seen ++ [e.2.1]) clock) i) n)
      | _ => false)
    | _ => false)
  | _ => false
theorem tNextM_ok (r : HR t n h) {x : AV} {K : AV → HT → Nat → Bool} (k : tNextM x t n K = true) : eNextM x h (KH K) := by
  unfold tNextM at k
  unfold eNextM
  split at k
  · skip
    split at k
    · rename_i hes; simp only [r.at_ _ _ hes]; exact ⟨_, _, r, k⟩
    · rename_i hes
      split at k
      · rename_i hm
        simp only [r.at_ _ _ hes, r.at_ _ _ hm]
        simp only [Bool.and_eq_true, decide_eq_true_eq, Bool.or_eq_true, Bool.not_eq_true', List.all_eq_true, List.all_eq_false] at k
        obtain ⟨k0, k1, k2⟩ := k
        refine ⟨⟨List.all_eq_true.2 k0.1, k0.2⟩, fun ha => ?_, fun e he hs => ?_⟩
        · rcases k1 with ⟨x, hx, hn⟩ | k1
          · exfalso
            rcases ha x hx with h1 | h1
            · exact hn (by simp [h1])
            · exact hn (by simp [h1])
          · exact ⟨_, _, r, k1⟩
        · rcases k2 e he with h1 | h1
          · exact (hs (by simpa using h1)).elim
          · exact ⟨_, _, r.set hes, h1⟩
      · cases k
    · cases k
  · cases k
def tEntry (x : AV) (t : HT) (K : AV → Bool) : Bool :=
  match x with
  | .ptr i 0 => (match t.get i with
    | some (.miter (some j) _ seen last) => (match t.get j, seen.getLast? with
      | some (.amap es clock), some n => (match bornFind n es with
        | some (k, v) => bA (k.oneCell' && clock == last) (K (.tup [.lit k, v]))
        | none => false)
      | _, _ => false)
    | _ => false)
  | _ => false
theorem tEntry_ok (r : HR t n h) {x : AV} {K : AV → Bool} (k : tEntry x t K = true) : pEntry x h (fun r => K r = true) := by
  unfold tEntry at k
  unfold pEntry
  split at k
  · split at k
    · rename_i hc
      simp only [r.at_ _ _ hc]
      split at k
      · rename_i h1 h2
        simp only [r.at_ _ _ h1, h2]
        split at k
        · rw [bA_eq] at k; simp only [*, if_true]
        · cases k
      · cases k
    · cases k
  · cases k
end
end
end Go.Proofs.YtmocchnodigmlaaGreatDoor.AL
