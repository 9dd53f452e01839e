import Derived.Test.YtmocchnodigmlaaGreatDoorAL4
set_option linter.all false
set_option autoImplicit true
set_option relaxedAutoImplicit true
set_option linter.unusedVariables false
/-! More steps that leave memory alone. -/
namespace Go.Proofs.YtmocchnodigmlaaGreatDoor.AL
variable [Tabs]
section
variable {P : Program} {G : Gh} {h : AHeap} {w : World}

def asI : AV → Option Int
  | .lit (.int _ n) => some n
  | _ => none
theorem asI_ok {v : AV} {x : Value} {n : Int} (hx : Rep G v x) (e : asI v = some n) : ∃ k, x = .int k n := by
  unfold asI at e
  split at e
  · cases e
    simp only [Rep] at hx
    exact ⟨_, hx.1⟩
  · cases e

def bAt (s : ByteArray) (i : Int) : Int := (((s.data[i.toNat]?).getD 0).toNat : Int)

/-! ### Indexes -/
def pIndexS (v i : AV) (K : AV → Prop) : Prop := match v, i with | .lit (.string s), .lit (.int _ n) => (0 ≤ n ∧ n < s.size) ∧ K (.lit (.int .u8 (bAt s n))) | _, _ => False
theorem pIndexS_ok {t : TypeId} (ht : P.underlying t = some .string) {v i : AV} {x y : Value} {K : AV → Prop} (hx : Rep G v x) (hi : Rep G i y) (k : pIndexS v i K) : Yl P G w (Instr.index t x y) K := by
  unfold pIndexS at k
  split at k
  · rename_i s kk n
    simp only [Rep] at hx hi
    obtain ⟨rfl, _⟩ := hx
    obtain ⟨rfl, _⟩ := hi
    obtain ⟨⟨h0, h1⟩, k⟩ := k
    have hn : n.toNat < s.size := by omega
    have hn' : n.toNat < s.data.size := hn
    refine ⟨_, .int .u8 (bAt s n), ?_, by simp [Rep, Value.oneCell'], k⟩
    have e : s[n.toNat]? = some (s.data[n.toNat]'hn') := by
      show (if hh : n.toNat < s.size then some _ else none) = _
      rw [dif_pos hn]; rfl
    have e2 : s.data[n.toNat]? = some (s.data[n.toNat]'hn') := Array.getElem?_eq_getElem hn'
    simp only [Instr.index, asIntOf, Sem.run_bind, Sem.run_pure, Result.andThen_ok, run_underlying ht, h0, if_true, e, bAt, e2, Option.getD_some]
  · exact k.elim

/-- An element's address. -/
def pIndexAddr (size : Nat) (v i : AV) (K : AV → Prop) : Prop :=
  match asI i with
  | none => False
  | some n => match v with
    | .sl j off len sz => (0 ≤ n ∧ n < len ∧ sz = size) ∧ K (.ptr j (off + n.toNat * size))
    | .snap m cs => (0 ≤ n ∧ n < m) ∧ K (.cptr (cs.drop (n.toNat * size)))
    | .full m cs => (0 ≤ n ∧ n < m) ∧ K (.cptr (cs.drop (n.toNat * size)))
    | _ => False
theorem pIndexAddr_ok {t e : TypeId} {ei : TypeInfo} (ht : P.underlying t = some (.slice e)) (he : P.info? e = some ei) {v i : AV} {x y : Value} {K : AV → Prop} (hx : Rep G v x) (hi : Rep G i y) (k : pIndexAddr ei.size v i K) :
    Yl P G w (Instr.indexAt t x y) K := by
  unfold pIndexAddr at k
  split at k
  · exact k.elim
  · rename_i n hn
    obtain ⟨kk, rfl⟩ := asI_ok hi hn
    split at k
    · rename_i j off len sz
      obtain ⟨⟨h0, h1, rfl⟩, k⟩ := k
      simp only [Rep] at hx
      obtain ⟨b, o, c, ad, h2, h3, h4, h5, rfl⟩ := hx
      obtain rfl := h5 (by omega)
      refine ⟨_, .pointer (some ⟨b, o + (off + n.toNat * ei.size), none⟩), ?_, by simp only [Rep]; exact ⟨b, o, h2, rfl⟩, k⟩
      simp [Instr.indexAt, asIntOf, run_underlying ht, h0, h1, sizeOf, typeInfo, he, add_plain, Nat.add_assoc]
    · rename_i m cs
      obtain ⟨⟨h0, h1⟩, k⟩ := k
      simp only [Rep] at hx
      rcases hx with ⟨rfl, _, _⟩ | ⟨b, o, c, h2, rfl, h3⟩
      · omega
      · refine ⟨_, .pointer (some ⟨b, o + n.toNat * ei.size, none⟩), ?_, by simp only [Rep]; exact ⟨b, _, rfl, h3.drop _⟩, k⟩
        simp [Instr.indexAt, asIntOf, run_underlying ht, h0, h1, sizeOf, typeInfo, he, add_plain]
    · rename_i m cs
      obtain ⟨⟨h0, h1⟩, k⟩ := k
      simp only [Rep] at hx
      rcases hx with ⟨rfl, _, _⟩ | ⟨b, o, rfl, h3⟩
      · omega
      · refine ⟨_, .pointer (some ⟨b, o + n.toNat * ei.size, none⟩), ?_, by simp only [Rep]; exact ⟨b, _, rfl, h3.drop _⟩, k⟩
        simp [Instr.indexAt, asIntOf, run_underlying ht, h0, h1, sizeOf, typeInfo, he, add_plain]
    · exact k.elim
/-- The same at an array that lies in memory. -/
def pIndexAddrA (len size : Nat) (v i : AV) (K : AV → Prop) : Prop :=
  match asI i with
  | none => False
  | some n => match v with
    | .ptr j off => (0 ≤ n ∧ n < len) ∧ K (.ptr j (off + n.toNat * size))
    | .cptr cs => (0 ≤ n ∧ n < len) ∧ K (.cptr (cs.drop (n.toNat * size)))
    | _ => False
theorem pIndexAddrA_ok {t e : TypeId} {len : Nat} {ei : TypeInfo} (ht : P.underlying t = some (.array len e)) (he : P.info? e = some ei) {v i : AV} {x y : Value} {K : AV → Prop} (hx : Rep G v x) (hi : Rep G i y) (k : pIndexAddrA len ei.size v i K) :
    Yl P G w (Instr.indexAt t x y) K := by
  unfold pIndexAddrA at k
  split at k
  · exact k.elim
  · rename_i n hn
    obtain ⟨kk, rfl⟩ := asI_ok hi hn
    split at k
    · rename_i j off
      obtain ⟨⟨h0, h1⟩, k⟩ := k
      simp only [Rep] at hx
      obtain ⟨b, o, h2, rfl⟩ := hx
      refine ⟨_, .pointer (some ⟨b, o + (off + n.toNat * ei.size), none⟩), ?_, by simp only [Rep]; exact ⟨b, o, h2, rfl⟩, k⟩
      simp [Instr.indexAt, asIntOf, run_underlying ht, h0, h1, sizeOf, typeInfo, he, add_plain, Nat.add_assoc, Instr.sureAddr]
    · rename_i cs
      obtain ⟨⟨h0, h1⟩, k⟩ := k
      simp only [Rep] at hx
      obtain ⟨b, o, rfl, h3⟩ := hx
      refine ⟨_, .pointer (some ⟨b, o + n.toNat * ei.size, none⟩), ?_, by simp only [Rep]; exact ⟨b, _, rfl, h3.drop _⟩, k⟩
      simp [Instr.indexAt, asIntOf, run_underlying ht, h0, h1, sizeOf, typeInfo, he, add_plain, Instr.sureAddr]
    · exact k.elim

/-! ### Cuts -/
def optI (o : Option AV) (d : Int) : Option Int := match o with | none => some d | some v => asI v
def pSliceS (v : AV) (lo hi : Option AV) (K : AV → Prop) : Prop :=
  match v with
  | .lit (.string s) => (match optI lo 0, optI hi s.size with
    | some l, some h => (0 ≤ l ∧ l ≤ h ∧ h ≤ s.size) ∧ K (S (s.extract l.toNat h.toNat))
    | _, _ => False)
  | _ => False
/-- Bounds as they stand in the code. -/
def OptRep (G : Gh) : Option AV → Option Value → Prop
  | none, none => True
  | some v, some x => Rep G v x
  | _, _ => False
theorem sliceBound_ok {v : AV} {x : Value} {n : Int} {y : Nat} {c : BoundsCode} (hx : Rep G v x) (e : asI v = some n) (h0 : 0 ≤ n) (h1 : n ≤ y) : (Instr.sliceBound x y c).run P w = .ok n.toNat w := by
  obtain ⟨k, rfl⟩ := asI_ok hx e
  simp [Instr.sliceBound, asIntOf, h0, h1]
theorem sliceBounds_ok {is : Bool} {len cap : Nat} {lo hi : Option AV} {xl xh : Option Value} {l h : Int} (hl : OptRep G lo xl) (hh : OptRep G hi xh) (el : optI lo 0 = some l) (eh : optI hi len = some h) (h0 : 0 ≤ l) (h1 : l ≤ h) (h2 : h ≤ cap) :
    (Instr.sliceBounds is len cap xl xh none).run P w = .ok (l.toNat, h.toNat, cap) w := by
  have hhn : h ≤ (h.toNat : Int) := by omega
  cases lo with
  | none =>
    cases xl with
    | some _ => exact hl.elim
    | none =>
      simp only [optI, Option.some.injEq] at el
      subst el
      cases hi with
      | none =>
        cases xh with
        | some _ => exact hh.elim
        | none =>
          simp only [optI, Option.some.injEq] at eh
          subst eh
          simp [Instr.sliceBounds]
      | some v =>
        cases xh with
        | none => exact hh.elim
        | some x =>
          simp only [optI] at eh
          simp [Instr.sliceBounds, sliceBound_ok (P := P) (w := w) hh eh (by omega) h2]
  | some u =>
    cases xl with
    | none => exact hl.elim
    | some z =>
      simp only [optI] at el
      cases hi with
      | none =>
        cases xh with
        | some _ => exact hh.elim
        | none =>
          simp only [optI, Option.some.injEq] at eh
          subst eh
          simp [Instr.sliceBounds, sliceBound_ok (P := P) (w := w) hl el h0 h1]
      | some v =>
        cases xh with
        | none => exact hh.elim
        | some x =>
          simp only [optI] at eh
          simp [Instr.sliceBounds, sliceBound_ok (P := P) (w := w) hh eh (by omega) h2, sliceBound_ok (P := P) (w := w) (y := h.toNat) hl el h0 (by omega)]

theorem run_sliceAt {t : TypeId} {d : TypeDesc} (ht : P.underlying t = some d) (hd : ∀ n e, d ≠ .array n e) (x : Value) (a b c : Option Value) : (Instr.sliceAt t x a b c).run P w = (Instr.slice t x a b c).run P w := by
  unfold Instr.sliceAt
  simp only [Sem.run_bind, run_underlying ht, Result.andThen_ok]

theorem pSliceS_ok {t : TypeId} (ht : P.underlying t = some .string) {v : AV} {lo hi : Option AV} {x : Value} {xl xh : Option Value} {K : AV → Prop} (hx : Rep G v x) (hl : OptRep G lo xl) (hh : OptRep G hi xh) (k : pSliceS v lo hi K) :
    Yl P G w (Instr.sliceAt t x xl xh none) K := by
  unfold pSliceS at k
  split at k
  · rename_i s
    simp only [Rep] at hx
    obtain ⟨rfl, _⟩ := hx
    split at k
    · rename_i l h el eh
      obtain ⟨⟨h0, h1, h2⟩, k⟩ := k
      refine ⟨_, .string (s.extract l.toNat h.toNat), ?_, by simp [Rep, Value.oneCell'], k⟩
      rw [run_sliceAt ht (by simp)]
      simp [Instr.slice, run_underlying ht, sliceBounds_ok (P := P) (w := w) (is := false) hl hh el eh h0 h1 h2]
    · exact k.elim
  · exact k.elim

def pSliceL (size : Nat) (v : AV) (lo hi : Option AV) (K : AV → Prop) : Prop :=
  match v with
  | .sl i off len sz => (match optI lo 0, optI hi len with
    | some l, some h => (0 ≤ l ∧ l ≤ h ∧ h ≤ len ∧ sz = size) ∧ K (.sl i (off + l.toNat * size) (h.toNat - l.toNat) size)
    | _, _ => False)
  | .snap n cs => (match optI lo 0, optI hi n with
    | some l, some h => (0 ≤ l ∧ l ≤ h ∧ h ≤ n) ∧ K (.snap (h.toNat - l.toNat) ((cs.drop (l.toNat * size)).take ((h.toNat - l.toNat) * size)))
    | _, _ => False)
  | .full n cs => (match optI lo 0, optI hi n with
    | some l, some h => (0 ≤ l ∧ l ≤ h ∧ h ≤ n) ∧ K (.snap (h.toNat - l.toNat) ((cs.drop (l.toNat * size)).take ((h.toNat - l.toNat) * size)))
    | _, _ => False)
  | _ => False
theorem pSliceL_ok {t e : TypeId} {ei : TypeInfo} (ht : P.underlying t = some (.slice e)) (he : P.info? e = some ei) {v : AV} {lo hi : Option AV} {x : Value} {xl xh : Option Value} {K : AV → Prop} (hx : Rep G v x)
    (hl : OptRep G lo xl) (hh : OptRep G hi xh) (k : pSliceL ei.size v lo hi K) : Yl P G w (Instr.sliceAt t x xl xh none) K := by
  have cut : ∀ (n c : Nat) (cs : List AV) (b o : Nat) (l h : Int), RepAt G cs b o → n ≤ c → 0 ≤ l → l ≤ h → h ≤ n →
      Rep G (.snap (h.toNat - l.toNat) ((cs.drop (l.toNat * ei.size)).take ((h.toNat - l.toNat) * ei.size))) (.slice (if c = l.toNat then some ⟨b, o, none⟩ else (some ⟨b, o, none⟩ : Option Addr).map (·.add (l.toNat * ei.size))) (h.toNat - l.toNat) (c - l.toNat)) := by
    intro n c cs b o l h h3 hnc h0 h1 h2
    simp only [Rep]
    by_cases hc : c = l.toNat
    · rw [if_pos hc]
      have e0 : h.toNat - l.toNat = 0 := by omega
      exact .inr ⟨b, o, c - l.toNat, by omega, rfl, by rw [e0]; simp [RepAt]⟩
    · rw [if_neg hc]
      exact .inr ⟨b, o + l.toNat * ei.size, c - l.toNat, by omega, by simp [add_plain], (h3.drop _).take _⟩
  unfold pSliceL at k
  split at k
  · rename_i i off len sz
    split at k
    · rename_i l h el eh
      obtain ⟨⟨h0, h1, h2, rfl⟩, k⟩ := k
      simp only [Rep] at hx
      obtain ⟨b, o, c, ad, h3, h4, h5, h6, rfl⟩ := hx
      have hb := sliceBounds_ok (P := P) (w := w) (is := true) (cap := c) hl hh el eh h0 h1 (by omega)
      refine ⟨_, _, by rw [run_sliceAt ht (by simp)]; simp [Instr.slice, run_underlying ht, hb, sizeOf, typeInfo, he]; rfl, ?_, k⟩
      simp only [Rep]
      have hlc : l.toNat ≤ c := by omega
      have hcap : off + l.toNat * ei.size + (c - l.toNat) * ei.size ≤ G.cap i := by
        rw [Nat.add_assoc, ← Nat.add_mul, Nat.add_sub_cancel' hlc]; exact h4
      by_cases hc : c = l.toNat
      · rw [if_pos hc]
        exact ⟨b, o, c - l.toNat, ad, h3, hcap, by omega, fun hp => by omega, rfl⟩
      · rw [if_neg hc]
        refine ⟨b, o, c - l.toNat, ad + l.toNat * ei.size, h3, hcap, by omega, fun hp => ?_, by simp [add_plain]⟩
        have := h6 (by omega)
        omega
    · exact k.elim
  · rename_i n cs
    split at k
    · rename_i l h el eh
      obtain ⟨⟨h0, h1, h2⟩, k⟩ := k
      simp only [Rep] at hx
      rcases hx with ⟨rfl, rfl, rfl⟩ | ⟨b, o, c, h2', rfl, h3⟩
      · have hb := sliceBounds_ok (P := P) (w := w) (is := true) (cap := 0) hl hh el eh h0 h1 (by omega)
        refine ⟨_, _, by rw [run_sliceAt ht (by simp)]; simp [Instr.slice, run_underlying ht, hb, sizeOf, typeInfo, he]; rfl, ?_, k⟩
        have : l = 0 := by omega
        have : h = 0 := by omega
        subst_vars
        simp [Rep, RepAt]
      · have hb := sliceBounds_ok (P := P) (w := w) (is := true) (cap := c) hl hh el eh h0 h1 (by omega)
        refine ⟨_, _, by rw [run_sliceAt ht (by simp)]; simp [Instr.slice, run_underlying ht, hb, sizeOf, typeInfo, he]; rfl, ?_, k⟩
        exact cut n c cs b o l h h3 h2' h0 h1 h2
    · exact k.elim
  · rename_i n cs
    split at k
    · rename_i l h el eh
      obtain ⟨⟨h0, h1, h2⟩, k⟩ := k
      simp only [Rep] at hx
      rcases hx with ⟨rfl, rfl, rfl⟩ | ⟨b, o, rfl, h3⟩
      · have hb := sliceBounds_ok (P := P) (w := w) (is := true) (cap := 0) hl hh el eh h0 h1 (by omega)
        refine ⟨_, _, by rw [run_sliceAt ht (by simp)]; simp [Instr.slice, run_underlying ht, hb, sizeOf, typeInfo, he]; rfl, ?_, k⟩
        have : l = 0 := by omega
        have : h = 0 := by omega
        subst_vars
        simp [Rep, RepAt]
      · have hb := sliceBounds_ok (P := P) (w := w) (is := true) (cap := n) hl hh el eh h0 h1 (by omega)
        refine ⟨_, _, by rw [run_sliceAt ht (by simp)]; simp [Instr.slice, run_underlying ht, hb, sizeOf, typeInfo, he]; rfl, ?_, k⟩
        exact cut n n cs b o l h h3 (Nat.le_refl _) h0 h1 h2
    · exact k.elim
  · exact k.elim

/-- x[:0:0]: nothing, and no room behind it. -/
def pSliceZ (v : AV) (K : AV → Prop) : Prop := match v with | .sl _ _ _ _ => K (.full 0 []) | .snap _ _ => K (.full 0 []) | .full _ _ => K (.full 0 []) | _ => False
theorem pSliceZ_ok {t e : TypeId} {ei : TypeInfo} (ht : P.underlying t = some (.slice e)) (he : P.info? e = some ei) {v : AV} {x : Value} {K : AV → Prop} (hx : Rep G v x) (k1 k2 : IntKind) (k : pSliceZ v K) :
    Yl P G w (Instr.sliceAt t x none (some (.int k1 0)) (some (.int k2 0))) K := by
  have key : ∀ (a : Option Addr) (len cap : Nat), (∃ b o, a = some ⟨b, o, none⟩) ∨ (a = none) → K (.full 0 []) → Yl P G w (Instr.sliceAt t (.slice a len cap) none (some (.int k1 0)) (some (.int k2 0))) K := by
    intro a len cap ha k
    refine ⟨_, .slice a 0 0, by rw [run_sliceAt ht (by simp)]; simp [Instr.slice, run_underlying ht, Instr.sliceBounds, Instr.sliceBound, asIntOf, sizeOf, typeInfo, he], ?_, k⟩
    simp only [Rep]
    rcases ha with ⟨b, o, rfl⟩ | rfl
    · exact .inr ⟨b, o, rfl, by simp [RepAt]⟩
    · simp
  unfold pSliceZ at k
  split at k
  · simp only [Rep] at hx
    obtain ⟨b, o, c, ad, _, _, _, _, rfl⟩ := hx
    exact key _ _ _ (.inl ⟨_, _, rfl⟩) k
  · simp only [Rep] at hx
    rcases hx with ⟨_, _, rfl⟩ | ⟨b, o, c, _, rfl, _⟩
    · exact key _ _ _ (.inr rfl) k
    · exact key _ _ _ (.inl ⟨_, _, rfl⟩) k
  · simp only [Rep] at hx
    rcases hx with ⟨_, _, rfl⟩ | ⟨b, o, rfl, _⟩
    · exact key _ _ _ (.inr rfl) k
    · exact key _ _ _ (.inl ⟨_, _, rfl⟩) k
  · exact k.elim

/-! ### Lengths, parts of tuples, the greater, the lesser -/
def pLen (v : AV) (h : AHeap) (K : AV → Prop) : Prop :=
  match v with
  | .lit (.string s) => K (I s.size)
  | .sl _ _ len _ => K (I len)
  | .snap n _ => K (I n)
  | .full n _ => K (I n)
  | .map i => (match h[i]? with | some (.amap es _) => K (I es.length) | _ => False)
  | _ => False

def isSeqD : TypeDesc → Bool
  | .string => true
  | .slice _ => true
  | .map _ _ => true
  | _ => false
def fitsD : TypeDesc → AV → Bool
  | .string, .lit (.string _) => true
  | .slice _, .sl _ _ _ _ => true
  | .slice _, .snap _ _ => true
  | .slice _, .full _ _ => true
  | .map _ _, .map _ => true
  | _, _ => false
theorem pLen_ok (s : Sim G h w) {t ty : TypeId} {d : TypeDesc} (ht : P.underlying t = some d) {v : AV} {x : Value} {K : AV → Prop} (hx : Rep G v x) (hd : fitsD d v = true) (k : pLen v h K) : Yl P G w (Builtin.len_ #[t] ty #[x]) K := by
  unfold pLen at k
  split at k
  · cases d <;> simp [fitsD] at hd
    simp only [Rep] at hx
    obtain ⟨rfl, _⟩ := hx
    exact ⟨_, _, by simp [Builtin.len_, run_underlying ht]; rfl, by simp [Rep, Value.oneCell', goInt], k⟩
  · cases d <;> simp [fitsD] at hd
    simp only [Rep] at hx
    obtain ⟨b, o, c, ad, _, _, _, _, rfl⟩ := hx
    exact ⟨_, _, by simp [Builtin.len_, run_underlying ht]; rfl, by simp [Rep, Value.oneCell', goInt], k⟩
  · cases d <;> simp [fitsD] at hd
    simp only [Rep] at hx
    rcases hx with ⟨rfl, _, rfl⟩ | ⟨b, o, c, _, rfl, _⟩ <;> exact ⟨_, _, by simp [Builtin.len_, run_underlying ht]; rfl, by simp [Rep, Value.oneCell', goInt], k⟩
  · cases d <;> simp [fitsD] at hd
    simp only [Rep] at hx
    rcases hx with ⟨rfl, _, rfl⟩ | ⟨b, o, rfl, _⟩ <;> exact ⟨_, _, by simp [Builtin.len_, run_underlying ht]; rfl, by simp [Rep, Value.oneCell', goInt], k⟩
  · rename_i i
    cases d <;> simp [fitsD] at hd
    split at k
    · rename_i es clock hes
      simp only [Rep] at hx
      obtain ⟨b, h1, rfl⟩ := hx
      obtain ⟨b', arr, e1, e2, e3⟩ := s.obj _ _ hes
      rw [h1] at e1
      cases e1
      have hl : arr.size = es.length := by simpa using e3.length
      refine ⟨_, .int .i64 es.length, ?_, by simp [Rep, Value.oneCell'], k⟩
      simp [Builtin.len_, run_underlying ht, getObj, Sem.run, e2, goInt, hl]
    · exact k.elim
  · exact k.elim

def pExtract (i : Nat) (v : AV) (K : AV → Prop) : Prop := match v with | .tup vs => (match vs[i]? with | some a => K a | none => False) | _ => False
theorem pExtract_ok {i : Nat} {v : AV} {x : Value} {K : AV → Prop} (hx : Rep G v x) (k : pExtract i v K) : Yl P G w (Instr.extract x i) K := by
  unfold pExtract at k
  split at k
  · simp only [Rep] at hx
    obtain ⟨vs, rfl, h1⟩ := hx
    split at k
    · rename_i a ha
      obtain ⟨u, h2, h3⟩ := h1.at _ a ha
      exact ⟨a, u, by simp [Instr.extract, h2], h3, k⟩
    · exact k.elim
  · exact k.elim

def pMax (x y : AV) (K : AV → Prop) : Prop := match x, y with | .lit (.int k a), .lit (.int _ b) => K (.lit (.int k (if b > a then b else a))) | _, _ => False
def pMin (x y : AV) (K : AV → Prop) : Prop := match x, y with | .lit (.int k a), .lit (.int _ b) => K (.lit (.int k (if b < a then b else a))) | _, _ => False
theorem pMax_ok {ts : Array TypeId} {t : TypeId} {x y : AV} {a b : Value} {K : AV → Prop} (hx : Rep G x a) (hy : Rep G y b) (k : pMax x y K) : Yl P G w (Builtin.max_ ts t #[a, b]) K := by
  unfold pMax at k
  split at k
  · simp only [Rep] at hx hy
    obtain ⟨rfl, _⟩ := hx
    obtain ⟨rfl, _⟩ := hy
    exact ⟨_, _, by simp [Builtin.max_, Builtin.max2]; rfl, by simp [Rep, Value.oneCell'], k⟩
  · exact k.elim
theorem pMin_ok {ts : Array TypeId} {t : TypeId} {x y : AV} {a b : Value} {K : AV → Prop} (hx : Rep G x a) (hy : Rep G y b) (k : pMin x y K) : Yl P G w (Builtin.min_ ts t #[a, b]) K := by
  unfold pMin at k
  split at k
  · simp only [Rep] at hx hy
    obtain ⟨rfl, _⟩ := hx
    obtain ⟨rfl, _⟩ := hy
    exact ⟨_, _, by simp [Builtin.min_, Builtin.min2]; rfl, by simp [Rep, Value.oneCell'], k⟩
  · exact k.elim

def pIface (t : TypeId) (v : AV) (K : AV → Prop) : Prop := K (.iface t v)
theorem pIface_ok {t : TypeId} {d : TypeDesc} (ht : P.underlying t = some d) (hd : ∀ m, d ≠ .interface m) {v : AV} {x : Value} {K : AV → Prop} (hx : Rep G v x) (k : pIface t v K) : Yl P G w (Instr.makeInterface t x) K := by
  refine ⟨_, .iface t x, ?_, by simp only [Rep]; exact ⟨x, rfl, hx⟩, k⟩
  unfold Instr.makeInterface
  simp only [Sem.run_bind, run_underlying ht, Result.andThen_ok]
  cases d <;> first | rfl | exact absurd rfl (hd _)
end
end Go.Proofs.YtmocchnodigmlaaGreatDoor.AL
