import Derived.Test.YtiddcelpooenfaaGreatDoorF9
import Derived.Test.YtiddcelpooenfaaGreatDoorAL27toAL31
import Derived.Test.YtiddcelpooenfaaGreatDoorItA5
import Derived.KernelRfl
import Derived.Test.YtiddcelpooenfaaGreatDoorF5
import Derived.Lib.Index
import Derived.Test.YtiddcelpooenfaaGreatDoorAM4toAM6
set_option linter.all false
set_option autoImplicit true
set_option relaxedAutoImplicit true
set_option maxRecDepth 100000
namespace Go.Proofs.YtiddcelpooenfaaGreatDoor.AL
noncomputable section
open Go.Proofs Go.RowKit Go.Shelf
def asc : List Int := [0, 0, 0, 0, 0, 0, 0, 0, 0, 1, 1, 1, 1, 1, 0, 0, 0, 0, 0, 0, 0, 0, 0, 0, 0, 0, 0, 0, 0, 0, 0, 0, 1, 0, 0, 0, 0, 0, 0, 0, 0, 0, 0, 0, 0, 0, 0, 0, 0, 0, 0, 0, 0, 0, 0, 0, 0, 0, 0, 0, 0, 0, 0, 0, 0, 0, 0, 0, 0, 0, 0, 0, 0, 0, 0, 0, 0, 0, 0, 0, 0, 0, 0, 0, 0, 0, 0, 0, 0, 0, 0, 0, 0, 0, 0, 0, 0, 0, 0, 0, 0, 0, 0, 0, 0, 0, 0, 0, 0, 0, 0, 0, 0, 0, 0, 0, 0, 0, 0, 0, 0, 0, 0, 0, 0, 0, 0, 0, 0, 0, 0, 0, 0, 0, 0, 0, 0, 0, 0, 0, 0, 0, 0, 0, 0, 0, 0, 0, 0, 0, 0, 0, 0, 0, 0, 0, 0, 0, 0, 0, 0, 0, 0, 0, 0, 0, 0, 0, 0, 0, 0, 0, 0, 0, 0, 0, 0, 0, 0, 0, 0, 0, 0, 0, 0, 0, 0, 0, 0, 0, 0, 0, 0, 0, 0, 0, 0, 0, 0, 0, 0, 0, 0, 0, 0, 0, 0, 0, 0, 0, 0, 0, 0, 0, 0, 0, 0, 0, 0, 0, 0, 0, 0, 0, 0, 0, 0, 0, 0, 0, 0, 0, 0, 0, 0, 0, 0, 0, 0, 0, 0, 0, 0, 0, 0, 0, 0, 0, 0, 0, 0, 0, 0, 0, 0, 0]
def ascA : List AV := asc.map fun z => .lit (.int .u8 z)
def tb5 : TabB := fun g => match Nat.beq g 1 with | true => some ascA | false => none
@[reducible] def tabs5 (S : Syms) : Tabs where
  toSyms := S
  ok F := (∀ i, i < asc.length → F 1 i = some (.int .u8 (asc.getD i 0))) ∧ ∃ m, F 0 0 = some (.int .i64 m)
  mono hF h := ⟨fun i hi => hF _ _ _ (h.1 i hi), h.2.imp fun m hm => hF _ _ _ hm⟩
  tab := tb5
  tab_ok G g cs h e := by
    unfold tb5 at e
    split at e
    · rename_i hg
      cases e
      rw [Nat.eq_of_beq_eq_true hg]
      exact repAt_ints asc 0 fun i hi => by rw [Nat.zero_add]; exact h.1 i hi
    · cases e
class Tabs5 extends Tabs where
  m0 : ∀ F, ok F → ∃ m, F 0 0 = some (.int .i64 m)
  tb : TabOk tb5
@[reducible] def tabs5' (S : Syms) : Tabs5 where
  toTabs := tabs5 S
  m0 F h := And.right h
  tb g cs h := h
section
variable [Tabs]
theorem indexIs : IndexIs Pg 129 0 := ⟨⟨_, Tryz.func129, by kernel_rfl, by kernel_rfl⟩, fun s sub m w hs hm => Any.strings_Index Tryz.lays143 s sub m w hs hm⟩
end
end
end Go.Proofs.YtiddcelpooenfaaGreatDoor.AL
namespace Go.Proofs.YtiddcelpooenfaaGreatDoor.AL
noncomputable section
variable [Tabs]
theorem hasPrefix_sp {l m : Str} {h : AHeap} {Q : QT} (k : Q (B (m.isPrefixOf l)) h) : C fn_strings_HasPrefix [T l, T m] h Q := by
  refine strings_HasPrefix_ok _ _ _ _ ?_
  unfold strings_HasPrefix
  refine stringslite_HasPrefix_ok _ _ _ _ ?_
  unfold stringslite_HasPrefix
  (repeat (first | refine st_lenS ?_ | refine st_geq ?_))
  refine st_if (fun hb => ?_) (fun hb => ?_) <;> simp only [za, zb, zc, zd, ze, zf, zg, zh, zi, u8i, zj, zk, zl] at hb
  · (repeat refine st_lenS ?_)
    refine st_cutl (by omega) (by omega) ?_
    (repeat refine st_seq ?_)
    have : decide (l.take m.length = m) = m.isPrefixOf l := by
      rw [Bool.eq_iff_iff, decide_eq_true_eq, List.isPrefixOf_iff_prefix, List.prefix_iff_eq_take]; exact eq_comm
    simp only [Int.toNat_natCast, this]
    exact k
  · skip
    have : m.isPrefixOf l = false := by
      rw [Bool.eq_false_iff]; intro hp
      have := (List.isPrefixOf_iff_prefix.1 hp).length_le
      omega
    rw [this] at k; exact k
def dropB (c : UInt8) : Str → Str
  | [] => []
  | x :: l => if x = c then dropB c l else x :: l
theorem trimLeftByte_sp (c : UInt8) (l : Str) {h : AHeap} {Q : QT} (k : Q (T (dropB c l)) h) : C fn_strings_trimLeftByte [T l, U8 c] h Q := by
  refine strings_trimLeftByte_ok _ _ _ _ ?_
  unfold strings_trimLeftByte
  refine st_loop (fun n vs h' => h' = h ∧ ∃ m : Str, vs = [T m] ∧ n = m.length ∧ dropB c m = dropB c l) l.length ⟨rfl, l, rfl, rfl, rfl⟩ ?_
  rintro n vs h' ⟨rfl, m, rfl, rfl, hm⟩
  unfold strings_trimLeftByte_l1
  (repeat (first | refine st_lenS ?_ | refine st_gtr ?_))
  refine st_if (fun hb => ?_) (fun hb => ?_) <;> simp only [za, zb, zc, zd, ze, zf, zg, zh, zi, u8i, zj, zk, zl] at hb
  · cases m with
    | nil => simp at hb
    | cons x m =>
      refine st_index (by omega) (by simp) ?_
      (repeat refine st_eql ?_)
      simp only [Int.toNat_zero, List.getElem_cons_zero]
      refine st_if (fun hc => ?_) (fun hc => ?_) <;> simp only [za, zb, zc, zd, ze, zf, zg, zh, zi, u8i, zj, zk, zl] at hc
      · refine st_cutr (by omega) (by simp; omega) ?_
        exact ⟨m.length, by simp, trivial, m, rfl, rfl, by rw [← hm]; simp [dropB, hc]⟩
      · rw [← hm] at k
        rw [dropB, if_neg hc] at k; exact k
  · have : m = [] := by cases m with
      | nil => rfl
      | cons => simp at hb
    subst this
    rw [← hm] at k; exact k
theorem trimLeft1_sp (c : UInt8) (hc : c.toNat < 128) (l : Str) {h : AHeap} {Q : QT} (k : Q (T (dropB c l)) h) : C fn_strings_TrimLeft [T l, T [c]] h Q := by
  refine strings_TrimLeft_ok _ _ _ _ ?_
  unfold strings_TrimLeft
  (repeat refine st_seq ?_)
  refine st_if (fun hb => ?_) (fun hb => ?_) <;> simp only [za, zb, zc, zd, ze, zf, zg, zh, zi, u8i, zj, zk, zl] at hb
  · subst hb; exact k
  · (repeat (first | refine st_lenS ?_ | refine st_eql ?_ | refine st_seq ?_))
    refine st_if (fun _ => ?_) (fun hb => (by exfalso; first | (simp at hb; done) | (simp at hb; omega) | (revert hb; decide) | omega))
    refine st_index (by omega) (by simp) ?_
    (repeat refine st_lss ?_)
    refine st_if (fun _ => ?_) (fun hb => ?_)
    · refine st_index (by omega) (by simp) ?_
      exact trimLeftByte_sp c l k
    · simp at hb; omega
end
end Go.Proofs.YtiddcelpooenfaaGreatDoor.AL
namespace Go.Proofs.YtiddcelpooenfaaGreatDoor.AL
noncomputable section
variable [Tabs]
def aset (p : Nat → Bool) : List AV := (List.range 256).map fun i => B (p i)
omit [Tabs] in
theorem aset_len (p : Nat → Bool) : (aset p).length = 256 := by simp [aset]
theorem aset_get (p : Nat → Bool) {i : Nat} (h : i < 256) : (aset p)[i]? = some (B (p i)) := by simp [aset, h]
theorem aset_put (p : Nat → Bool) {i : Nat} (h : i < 256) : splice (aset p) i [B true] = aset (fun j => decide (j = i) || p j) := by
  apply List.ext_getElem?
  intro j
  rw [splice_get (by simp [aset_len]; omega)]
  simp only [List.length_cons, List.length_nil]
  rcases Nat.lt_or_ge j 256 with hj | hj
  · rw [aset_get _ hj, aset_get _ hj]
    split
    · rename_i hlt; simp [show j ≠ i by omega]
    · split
      · have : j = i := by omega
        subst this; simp
      · simp [show j ≠ i by omega]
  · have : ∀ q : Nat → Bool, (aset q)[j]? = none := fun q => List.getElem?_eq_none (by simp [aset_len]; omega)
    rw [this, this]
    split
    · rfl
    · rw [if_neg (by omega)]
theorem aset_all (p : Nat → Bool) : (aset p).all AV.one = true := by simp [aset, AV.one, Value.oneCell']
theorem splice_all (a b : List AV) (h : a.length = b.length) : splice a 0 b = b := by simp [splice, h]
theorem makeSet_sp (cs : Str) (hc : ∀ c ∈ cs, c.toNat < 128) (hl : cs.length < 1000) {h : AHeap} {Q : QT} (k : ∀ h', Fr [] h h' → Q (.tup [.agg (aset fun i => cs.any fun c => decide (i = c.toNat)), B true]) h') : C fn_strings_makeASCIISet [T cs] h Q := by
  refine strings_makeASCIISet_ok _ _ _ ?_
  unfold strings_makeASCIISet
  have s := St.start h
  refine st_new s fun i h1 s1 => ?_
  have s1 : St h [] h1 [(i, true, .cells (aset fun _ => false))] := s1
  refine st_loop (fun n vs h' => ∃ k : Nat, ∃ b, vs = [b, I (k : Nat)] ∧ n + k = cs.length ∧ St h [] h' [(i, true, .cells (aset fun i => (cs.take k).any fun c => decide (i = c.toNat)))]) cs.length ⟨0, _, rfl, by simp, by simpa using s1⟩ ?_
  rintro n vs h' ⟨m, b, rfl, hn, s2⟩
  unfold strings_makeASCIISet_l7
  (repeat (first | refine st_lenS ?_ | refine st_lss ?_))
  refine st_if (fun hb => ?_) (fun hb => ?_) <;> simp only [za, zb, zc, zd, ze, zf, zg, zh, zi, u8i, zj, zk, zl] at hb
  · have hm : m < cs.length := hb
    refine st_indexN hm ?_
    (repeat refine st_geq ?_)
    have hcm := hc cs[m] (by simp)
    refine st_if (fun hb => absurd hb (by simp; omega)) (fun _ => ?_)
    refine (⟨(⟨⟨by omega, by omega⟩, ?_⟩ : pIndexAddrA 256 1 (.ptr i 0) (U8 cs[m]) _)⟩ : qIndexAddrA 256 1 (.ptr i 0) (U8 cs[m]) _)
    simp only [Int.toNat_natCast, Nat.mul_one, Nat.zero_add]
    refine st_store (cs := aset fun i => (cs.take m).any fun c => decide (i = c.toNat)) s2 .head rfl rfl rfl (by rw [aset_len]; omega) fun h3 s3 => ?_
    (repeat refine st_add (by omega) ?_)
    refine ⟨n - 1, by omega, m + 1, _, rfl, by omega, ?_⟩
    rw [show (B true).cells = [B true] from rfl, aset_put _ (by omega)] at s3
    have e : (fun i => (cs.take (m + 1)).any fun c => decide (i = c.toNat)) = (fun j => decide (j = cs[m].toNat) || (cs.take m).any fun c => decide (j = c.toNat)) := by
      funext j
      rw [List.take_succ_eq_append_getElem hm]; simp only [List.any_append, List.any_cons, List.any_nil, Bool.or_false]; exact Bool.or_comm _ _
    rw [e]; exact s3
  · have hm : m = cs.length := by omega
    subst hm
    rw [List.take_length] at s2
    refine st_loadA s2 (.head _) (by rw [aset_len]; omega) ?_
    rw [List.drop_zero, List.take_of_length_le (by rw [aset_len]; omega)]
    refine st_store (cs := aset fun i => cs.any fun c => decide (i = c.toNat)) s2 .head rfl (by simp [AV.cells, aset_len]) (by exact aset_all _) (by rw [aset_len]; omega) fun h3 s3 => ?_
    rw [show (AV.agg (aset fun i => cs.any fun c => decide (i = c.toNat))).cells = aset (fun i => cs.any fun c => decide (i = c.toNat)) from rfl, splice_all _ _ rfl] at s3
    refine st_loadA s3 (.head _) (by rw [aset_len]; omega) ?_
    rw [List.drop_zero, List.take_of_length_le (by rw [aset_len]; omega)]
    exact k _ s3.fr
theorem contains_sp (p : Nat → Bool) (c : UInt8) {i : Nat} {h : AHeap} (e : h[i]? = some (.cells (aset p))) {Q : QT} (k : Q (B (p c.toNat)) h) : C fn_strings_asciiSet_contains [.ptr i 0, U8 c] h Q := by
  refine strings_asciiSet_contains_ok _ _ _ _ ?_
  unfold strings_asciiSet_contains
  have hc := c.toNat_lt
  refine st_nil (⟨(⟨⟨by omega, by omega⟩, ?_⟩ : pIndexAddrA 256 1 (.ptr i 0) (U8 c) _)⟩ : qIndexAddrA 256 1 (.ptr i 0) (U8 c) _)
  simp only [Int.toNat_natCast, Nat.mul_one, Nat.zero_add]
  refine st_load1 (St.startr e) (.head _) (aset_get p (by omega)) ?_
  exact k
theorem trimLeftASCII_sp (p : Nat → Bool) (l : Str) {i : Nat} {h : AHeap} (e : h[i]? = some (.cells (aset p))) {Q : QT} (k : Q (T (l.dropWhile fun c => p c.toNat)) h) : C fn_strings_trimLeftASCII [T l, .ptr i 0] h Q := by
  refine strings_trimLeftASCII_ok _ _ _ _ ?_
  unfold strings_trimLeftASCII
  refine st_loop (fun n vs h' => h' = h ∧ ∃ m : Str, vs = [T m] ∧ n = m.length ∧ (m.dropWhile fun c => p c.toNat) = l.dropWhile fun c => p c.toNat) l.length ⟨rfl, l, rfl, rfl, rfl⟩ ?_
  rintro n vs h' ⟨rfl, m, rfl, rfl, hm⟩
  unfold strings_trimLeftASCII_l4 strings_trimLeftASCII_b3 strings_trimLeftASCII_j2
  (repeat (first | refine st_lenS ?_ | refine st_gtr ?_))
  refine st_if (fun hb => ?_) (fun hb => ?_) <;> simp only [za, zb, zc, zd, ze, zf, zg, zh, zi, u8i, zj, zk, zl] at hb
  · cases m with
    | nil => simp at hb
    | cons x m =>
      refine st_index (by omega) (by simp) ?_
      refine contains_sp p x e ?_
      (repeat refine st_not ?_)
      refine st_if (fun hc => ?_) (fun hc => ?_) <;> simp only [za, zb, zc, zd, ze, zf, zg, zh, zi, u8i, zj, zk, zl] at hc
      · rw [← hm, List.dropWhile_cons_of_neg (by simpa using hc)] at k; exact k
      · refine st_cutr (by omega) (by simp; omega) ?_
        exact ⟨m.length, by simp, rfl, m, rfl, rfl, by rw [← hm, List.dropWhile_cons_of_pos (by simpa using hc)]⟩
  · have : m = [] := by cases m with
      | nil => rfl
      | cons => simp at hb
    subst this
    rw [← hm] at k; exact k
def dropR (p : UInt8 → Bool) (l : Str) : Str := (l.reverse.dropWhile p).reverse
theorem dropR_snoc_pos {p : UInt8 → Bool} {l : Str} {x : UInt8} (h : p x = true) : dropR p (l ++ [x]) = dropR p l := by simp [dropR, h]
theorem dropR_snoc_neg {p : UInt8 → Bool} {l : Str} {x : UInt8} (h : p x = false) : dropR p (l ++ [x]) = l ++ [x] := by simp [dropR, h]
theorem trimRightASCII_sp (p : Nat → Bool) (l : Str) (hl : l.length < 4611686018427387904) {i : Nat} {h : AHeap} (e : h[i]? = some (.cells (aset p))) {Q : QT} (k : Q (T (dropR (fun c => p c.toNat) l)) h) : C fn_strings_trimRightASCII [T l, .ptr i 0] h Q := by
  refine strings_trimRightASCII_ok _ _ _ _ ?_
  unfold strings_trimRightASCII
  refine st_loop (fun n vs h' => h' = h ∧ ∃ m : Str, vs = [T m] ∧ n = m.length ∧ m.length ≤ l.length ∧ dropR (fun c => p c.toNat) m = dropR (fun c => p c.toNat) l) l.length ⟨rfl, l, rfl, rfl, Nat.le_refl _, rfl⟩ ?_
  rintro n vs h' ⟨rfl, m, rfl, rfl, hml, hm⟩
  unfold strings_trimRightASCII_l4 strings_trimRightASCII_b3 strings_trimRightASCII_j2
  (repeat (first | refine st_lenS ?_ | refine st_gtr ?_))
  refine st_if (fun hb => ?_) (fun hb => ?_) <;> simp only [za, zb, zc, zd, ze, zf, zg, zh, zi, u8i, zj, zk, zl] at hb
  · rcases List.eq_nil_or_concat m with rfl | ⟨m, x, rfl⟩
    · simp at hb
    · simp only [List.concat_eq_append] at *
      have hml' : m.length + 1 ≤ l.length := by simpa using hml
      refine st_lenS ?_
      refine st_sub (by simp; omega) ?_
      have e1 : ((m ++ [x]).length : Int) - 1 = (m.length : Nat) := by simp
      rw [e1]
      refine st_indexN (by simp) ?_
      simp only [List.getElem_append_right (Nat.le_refl _), Nat.sub_self, List.getElem_cons_zero]
      refine contains_sp p x e ?_
      (repeat refine st_not ?_)
      refine st_if (fun hc => ?_) (fun hc => ?_) <;> simp only [za, zb, zc, zd, ze, zf, zg, zh, zi, u8i, zj, zk, zl] at hc
      · rw [← hm, dropR_snoc_neg (by simpa using hc)] at k; exact k
      · refine st_lenS ?_
        refine st_sub (by simp at hml ⊢; omega) ?_
        rw [e1]
        refine st_cutl (by omega) (by simp; omega) ?_
        refine ⟨m.length, by simp, rfl, m, by simp, rfl, by omega, ?_⟩
        rw [← hm, dropR_snoc_pos (by simpa using hc)]
  · have : m = [] := by cases m with
      | nil => rfl
      | cons => simp at hb
    subst this
    rw [← hm] at k; exact k
def isGap (c : UInt8) : Bool := c = 32 || c = 9
def trim (l : Str) : Str := (dropR isGap l).dropWhile isGap
theorem dropR_len (p : UInt8 → Bool) (l : Str) : (dropR p l).length ≤ l.length := by
  have := (List.dropWhile_sublist p (l := l.reverse)).length_le
  simpa [dropR] using this
theorem dropW_len (p : UInt8 → Bool) (l : Str) : (l.dropWhile p).length ≤ l.length := (List.dropWhile_sublist p).length_le
theorem trim_len (l : Str) : (trim l).length ≤ l.length := Nat.le_trans (dropW_len _ _) (dropR_len _ _)
theorem trim_sp (l : Str) (hl : l.length < 4611686018427387904) {h : AHeap} {Q : QT} (k : ∀ h', Fr [] h h' → Q (T (trim l)) h') : C fn_strings_Trim [T l, T [32, 9]] h Q := by
  refine strings_Trim_ok _ _ _ _ ?_
  unfold strings_Trim
  have eg : (fun c : UInt8 => ([32, 9] : Str).any fun d => decide (c.toNat = d.toNat)) = isGap := by
    funext c
    simp only [List.any_cons, List.any_nil, Bool.or_false, isGap]
    congr 1 <;> (rw [Bool.eq_iff_iff]; simp [← UInt8.toNat_inj])
  (repeat refine st_seq ?_)
  refine st_if (fun hb => ?_) (fun hb => ?_) <;> simp only [za, zb, zc, zd, ze, zf, zg, zh, zi, u8i, zj, zk, zl] at hb
  · subst hb; exact k _ (Fr.refl _ _)
  · (repeat (first | refine st_lenS ?_ | refine st_eql ?_ | refine st_seq ?_))
    refine st_if (fun hb => (by exfalso; first | (simp at hb; done) | (simp at hb; omega) | (revert hb; decide) | omega)) (fun _ => ?_)
    refine makeSet_sp [32, 9] (by decide) (by decide) fun h1 f1 => ?_
    have s := (St.start h).call f1
    (repeat refine st_ext rfl ?_)
    refine st_new s fun i h2 s2 => ?_
    refine st_store s2 .head rfl (by simp [AV.cells, aset_len]) (by exact aset_all _) (by decide) fun h3 s3 => ?_
    rw [show (AV.agg (aset fun i => ([32, 9] : Str).any fun c => decide (i = c.toNat))).cells = aset (fun i => ([32, 9] : Str).any fun c => decide (i = c.toNat)) from rfl, splice_all _ _ (by rw [aset_len]; rfl)] at s3
    refine st_if (fun _ => ?_) (fun hb => by cases hb)
    refine trimRightASCII_sp _ l hl (s3.get (.head _)) ?_
    refine trimLeftASCII_sp _ _ (s3.get (.head _)) ?_
    rw [eg]
    exact k _ s3.fr
end
end Go.Proofs.YtiddcelpooenfaaGreatDoor.AL
namespace Go.Proofs.YtiddcelpooenfaaGreatDoor.AL
noncomputable section
variable [Tabs]
theorem indexFunc_api_Expr_sp {α : Type} {enc : α → List AV} (hs : ∀ x, (enc x).length = 4) (fv : AV) (p : α → Bool) (l : List α) (hl : l.length < 4611686018427387904) {v : AV} {h : AHeap} (r : Row enc 4 h v l) {Q : QT}
    (hp : ∀ x ∈ l, ∀ (h' : AHeap) (Q : QT), Fr [] h h' → (∀ h'', Fr [] h' h'' → Q (B (p x)) h'') → CV fv [.agg (enc x)] h' Q) (k : ∀ h', Fr [] h h' → Q (I (findI p l)) h') : C fn_slices_IndexFunc__api_Expr_api_Expr [v, fv] h Q := by
  refine slices_IndexFunc__api_Expr_api_Expr_ok _ _ _ _ ?_
  unfold slices_IndexFunc__api_Expr_api_Expr
  refine r.len ?_
  refine st_loop (fun n vs h' => Fr [] h h' ∧ ∃ i : Nat, ∃ b, vs = [b, I (i : Nat)] ∧ n + i = l.length ∧ ∀ j (hj : j < i) (hj2 : j < l.length), p l[j] = false) l.length ⟨Fr.refl _ _, 0, _, rfl, by omega, fun j hj => by omega⟩ ?_
  rintro n vs h' ⟨f1, i, b, rfl, hn, ha⟩
  unfold slices_IndexFunc__api_Expr_api_Expr_l2
  (repeat refine st_lss ?_)
  refine st_if (fun hb => ?_) (fun hb => ?_) <;> simp only [za, zb, zc, zd, ze, zf, zg, zh, zi, u8i, zj, zk, zl] at hb
  · have hi : i < l.length := hb
    refine (r.fr f1).idx hs hi fun q t => ?_
    refine st_ploadAll t (hs _).symm ?_
    refine hp l[i] (by simp) _ _ f1 fun h2 f2 => ?_
    cases hpi : p l[i] with
    | true =>
      refine st_if (fun _ => ?_) (fun hb => by cases hb)
      have := k h2 (f1.trans f2 (by simp))
      rw [findI_some hi hpi fun j hj => ha j hj (by omega)] at this
      exact this
    | false =>
      refine st_if (fun hb => by cases hb) (fun _ => ?_)
      (repeat refine st_add (by omega) ?_)
      refine ⟨n - 1, by omega, f1.trans f2 (by simp), i + 1, _, rfl, by omega, fun j hj hj2 => ?_⟩
      rcases Nat.lt_or_eq_of_le (Nat.le_of_lt_succ hj) with h1 | h1
      · exact ha j h1 hj2
      · subst h1; exact hpi
  · have := k h' f1
    rw [findI_none fun j hj => ha j (by omega) hj] at this
    exact this
theorem indexFunc_asm_entry_sp {α : Type} {arg : α → AV} (fv : AV) (p : α → Bool) (l : List α) (hl : l.length < 4611686018427387904) {v : AV} {h : AHeap} (r : Row (fun x => [arg x]) 1 h v l) {Q : QT}
    (hp : ∀ x ∈ l, ∀ (h' : AHeap) (Q : QT), Fr [] h h' → (∀ h'', Fr [] h' h'' → Q (B (p x)) h'') → CV fv [arg x] h' Q) (k : ∀ h', Fr [] h h' → Q (I (findI p l)) h') : C fn_slices_IndexFunc__asm_entry_asm_entry [v, fv] h Q := by
  refine slices_IndexFunc__asm_entry_asm_entry_ok _ _ _ _ ?_
  unfold slices_IndexFunc__asm_entry_asm_entry
  refine r.len ?_
  refine st_loop (fun n vs h' => Fr [] h h' ∧ ∃ i : Nat, ∃ b, vs = [b, I (i : Nat)] ∧ n + i = l.length ∧ ∀ j (hj : j < i) (hj2 : j < l.length), p l[j] = false) l.length ⟨Fr.refl _ _, 0, _, rfl, by omega, fun j hj => by omega⟩ ?_
  rintro n vs h' ⟨f1, i, b, rfl, hn, ha⟩
  unfold slices_IndexFunc__asm_entry_asm_entry_l2
  (repeat refine st_lss ?_)
  refine st_if (fun hb => ?_) (fun hb => ?_) <;> simp only [za, zb, zc, zd, ze, zf, zg, zh, zi, u8i, zj, zk, zl] at hb
  · have hi : i < l.length := hb
    refine (r.fr f1).idx (fun _ => rfl) hi fun q t => ?_
    refine st_pload1 t ?_
    refine hp l[i] (by simp) _ _ f1 fun h2 f2 => ?_
    cases hpi : p l[i] with
    | true =>
      refine st_if (fun _ => ?_) (fun hb => by cases hb)
      have := k h2 (f1.trans f2 (by simp))
      rw [findI_some hi hpi fun j hj => ha j hj (by omega)] at this
      exact this
    | false =>
      refine st_if (fun hb => by cases hb) (fun _ => ?_)
      (repeat refine st_add (by omega) ?_)
      refine ⟨n - 1, by omega, f1.trans f2 (by simp), i + 1, _, rfl, by omega, fun j hj hj2 => ?_⟩
      rcases Nat.lt_or_eq_of_le (Nat.le_of_lt_succ hj) with h1 | h1
      · exact ha j h1 hj2
      · subst h1; exact hpi
  · have := k h' f1
    rw [findI_none fun j hj => ha j (by omega) hj] at this
    exact this
theorem indexFunc_isa_row_sp {α : Type} {enc : α → List AV} (hs : ∀ x, (enc x).length = 3) (fv : AV) (p : α → Bool) (l : List α) (hl : l.length < 4611686018427387904) {v : AV} {h : AHeap} (r : Row enc 3 h v l) {Q : QT}
    (hp : ∀ x ∈ l, ∀ (h' : AHeap) (Q : QT), Fr [] h h' → (∀ h'', Fr [] h' h'' → Q (B (p x)) h'') → CV fv [.agg (enc x)] h' Q) (k : ∀ h', Fr [] h h' → Q (I (findI p l)) h') : C fn_slices_IndexFunc__isa_row_isa_row [v, fv] h Q := by
  refine slices_IndexFunc__isa_row_isa_row_ok _ _ _ _ ?_
  unfold slices_IndexFunc__isa_row_isa_row
  refine r.len ?_
  refine st_loop (fun n vs h' => Fr [] h h' ∧ ∃ i : Nat, ∃ b, vs = [b, I (i : Nat)] ∧ n + i = l.length ∧ ∀ j (hj : j < i) (hj2 : j < l.length), p l[j] = false) l.length ⟨Fr.refl _ _, 0, _, rfl, by omega, fun j hj => by omega⟩ ?_
  rintro n vs h' ⟨f1, i, b, rfl, hn, ha⟩
  unfold slices_IndexFunc__isa_row_isa_row_l2
  (repeat refine st_lss ?_)
  refine st_if (fun hb => ?_) (fun hb => ?_) <;> simp only [za, zb, zc, zd, ze, zf, zg, zh, zi, u8i, zj, zk, zl] at hb
  · have hi : i < l.length := hb
    refine (r.fr f1).idx hs hi fun q t => ?_
    refine st_ploadAll t (hs _).symm ?_
    refine hp l[i] (by simp) _ _ f1 fun h2 f2 => ?_
    cases hpi : p l[i] with
    | true =>
      refine st_if (fun _ => ?_) (fun hb => by cases hb)
      have := k h2 (f1.trans f2 (by simp))
      rw [findI_some hi hpi fun j hj => ha j hj (by omega)] at this
      exact this
    | false =>
      refine st_if (fun hb => by cases hb) (fun _ => ?_)
      (repeat refine st_add (by omega) ?_)
      refine ⟨n - 1, by omega, f1.trans f2 (by simp), i + 1, _, rfl, by omega, fun j hj hj2 => ?_⟩
      rcases Nat.lt_or_eq_of_le (Nat.le_of_lt_succ hj) with h1 | h1
      · exact ha j h1 hj2
      · subst h1; exact hpi
  · have := k h' f1
    rw [findI_none fun j hj => ha j (by omega) hj] at this
    exact this
theorem indexFunc_api_Sym_sp {α : Type} {enc : α → List AV} (hs : ∀ x, (enc x).length = 2) (fv : AV) (p : α → Bool) (l : List α) (hl : l.length < 4611686018427387904) {v : AV} {h : AHeap} (r : Row enc 2 h v l) {Q : QT}
    (hp : ∀ x ∈ l, ∀ (h' : AHeap) (Q : QT), Fr [] h h' → (∀ h'', Fr [] h' h'' → Q (B (p x)) h'') → CV fv [.agg (enc x)] h' Q) (k : ∀ h', Fr [] h h' → Q (I (findI p l)) h') : C fn_slices_IndexFunc__api_Sym_api_Sym [v, fv] h Q := by
  refine slices_IndexFunc__api_Sym_api_Sym_ok _ _ _ _ ?_
  unfold slices_IndexFunc__api_Sym_api_Sym
  refine r.len ?_
  refine st_loop (fun n vs h' => Fr [] h h' ∧ ∃ i : Nat, ∃ b, vs = [b, I (i : Nat)] ∧ n + i = l.length ∧ ∀ j (hj : j < i) (hj2 : j < l.length), p l[j] = false) l.length ⟨Fr.refl _ _, 0, _, rfl, by omega, fun j hj => by omega⟩ ?_
  rintro n vs h' ⟨f1, i, b, rfl, hn, ha⟩
  unfold slices_IndexFunc__api_Sym_api_Sym_l2
  (repeat refine st_lss ?_)
  refine st_if (fun hb => ?_) (fun hb => ?_) <;> simp only [za, zb, zc, zd, ze, zf, zg, zh, zi, u8i, zj, zk, zl] at hb
  · have hi : i < l.length := hb
    refine (r.fr f1).idx hs hi fun q t => ?_
    refine st_ploadAll t (hs _).symm ?_
    refine hp l[i] (by simp) _ _ f1 fun h2 f2 => ?_
    cases hpi : p l[i] with
    | true =>
      refine st_if (fun _ => ?_) (fun hb => by cases hb)
      have := k h2 (f1.trans f2 (by simp))
      rw [findI_some hi hpi fun j hj => ha j hj (by omega)] at this
      exact this
    | false =>
      refine st_if (fun hb => by cases hb) (fun _ => ?_)
      (repeat refine st_add (by omega) ?_)
      refine ⟨n - 1, by omega, f1.trans f2 (by simp), i + 1, _, rfl, by omega, fun j hj hj2 => ?_⟩
      rcases Nat.lt_or_eq_of_le (Nat.le_of_lt_succ hj) with h1 | h1
      · exact ha j h1 hj2
      · subst h1; exact hpi
  · have := k h' f1
    rw [findI_none fun j hj => ha j (by omega) hj] at this
    exact this
theorem containsFunc_api_Expr_sp {α : Type} {enc : α → List AV} (hs : ∀ x, (enc x).length = 4) (fv : AV) (p : α → Bool) (l : List α) (hl : l.length < 4611686018427387904) {v : AV} {h : AHeap} (r : Row enc 4 h v l) {Q : QT}
    (hp : ∀ x ∈ l, ∀ (h' : AHeap) (Q : QT), Fr [] h h' → (∀ h'', Fr [] h' h'' → Q (B (p x)) h'') → CV fv [.agg (enc x)] h' Q) (k : ∀ h', Fr [] h h' → Q (B (l.any p)) h') : C fn_slices_ContainsFunc__api_Expr_api_Expr [v, fv] h Q := by
  refine slices_ContainsFunc__api_Expr_api_Expr_ok _ _ _ _ ?_
  unfold slices_ContainsFunc__api_Expr_api_Expr
  refine indexFunc_api_Expr_sp hs fv p l hl r hp fun h1 f1 => ?_
  (repeat refine st_geq ?_)
  have : decide (0 ≤ findI p l) = l.any p := by rw [Bool.eq_iff_iff, decide_eq_true_eq]; exact findI_ge p l
  rw [this]; exact k h1 f1
theorem containsFunc_asm_entry_sp {α : Type} {arg : α → AV} (fv : AV) (p : α → Bool) (l : List α) (hl : l.length < 4611686018427387904) {v : AV} {h : AHeap} (r : Row (fun x => [arg x]) 1 h v l) {Q : QT}
    (hp : ∀ x ∈ l, ∀ (h' : AHeap) (Q : QT), Fr [] h h' → (∀ h'', Fr [] h' h'' → Q (B (p x)) h'') → CV fv [arg x] h' Q) (k : ∀ h', Fr [] h h' → Q (B (l.any p)) h') : C fn_slices_ContainsFunc__asm_entry_asm_entry [v, fv] h Q := by
  refine slices_ContainsFunc__asm_entry_asm_entry_ok _ _ _ _ ?_
  unfold slices_ContainsFunc__asm_entry_asm_entry
  refine indexFunc_asm_entry_sp fv p l hl r hp fun h1 f1 => ?_
  (repeat refine st_geq ?_)
  have : decide (0 ≤ findI p l) = l.any p := by rw [Bool.eq_iff_iff, decide_eq_true_eq]; exact findI_ge p l
  rw [this]; exact k h1 f1
theorem index_string_sp (x : Str) (l : List (Str)) (hl : l.length < 4611686018427387904) {v : AV} {h : AHeap} (r : Row (fun x : Str => [T x]) 1 h v l) {Q : QT} (k : Q (I (findI (fun y => decide (x = y)) l)) h) : C fn_slices_Index__string_string [v, T x] h Q := by
  refine slices_Index__string_string_ok _ _ _ _ ?_
  unfold slices_Index__string_string
  refine r.len ?_
  refine st_loop (fun n vs h' => h' = h ∧ ∃ i : Nat, ∃ b, vs = [b, I (i : Nat)] ∧ n + i = l.length ∧ ∀ j (hj : j < i) (hj2 : j < l.length), decide (x = l[j]) = false) l.length ⟨rfl, 0, _, rfl, by omega, fun j hj => by omega⟩ ?_
  rintro n vs h' ⟨rfl, i, b, rfl, hn, ha⟩
  unfold slices_Index__string_string_l1
  (repeat refine st_lss ?_)
  refine st_if (fun hb => ?_) (fun hb => ?_) <;> simp only [za, zb, zc, zd, ze, zf, zg, zh, zi, u8i, zj, zk, zl] at hb
  · have hi : i < l.length := hb
    refine r.idx (fun _ => rfl) hi fun q t => ?_
    refine st_pload1 t ?_
    refine st_seq ?_
    cases hpi : decide (x = l[i]) with
    | true =>
      refine st_if (fun _ => ?_) (fun hb => by cases hb)
      rw [findI_some (p := fun y => decide (x = y)) hi hpi fun j hj => ha j hj (by omega)] at k
      exact k
    | false =>
      refine st_if (fun hb => by cases hb) (fun _ => ?_)
      (repeat refine st_add (by omega) ?_)
      refine ⟨n - 1, by omega, rfl, i + 1, _, rfl, by omega, fun j hj hj2 => ?_⟩
      rcases Nat.lt_or_eq_of_le (Nat.le_of_lt_succ hj) with h1 | h1
      · exact ha j h1 hj2
      · subst h1; exact hpi
  · rw [findI_none (p := fun y => decide (x = y)) fun j hj => ha j (by omega) hj] at k
    exact k
theorem index_int_sp (x : Int) (l : List (Int)) (hl : l.length < 4611686018427387904) {v : AV} {h : AHeap} (r : Row (fun x : Int => [I x]) 1 h v l) {Q : QT} (k : Q (I (findI (fun y => decide (x = y)) l)) h) : C fn_slices_Index__int_int [v, I x] h Q := by
  refine slices_Index__int_int_ok _ _ _ _ ?_
  unfold slices_Index__int_int
  refine r.len ?_
  refine st_loop (fun n vs h' => h' = h ∧ ∃ i : Nat, ∃ b, vs = [b, I (i : Nat)] ∧ n + i = l.length ∧ ∀ j (hj : j < i) (hj2 : j < l.length), decide (x = l[j]) = false) l.length ⟨rfl, 0, _, rfl, by omega, fun j hj => by omega⟩ ?_
  rintro n vs h' ⟨rfl, i, b, rfl, hn, ha⟩
  unfold slices_Index__int_int_l1
  (repeat refine st_lss ?_)
  refine st_if (fun hb => ?_) (fun hb => ?_) <;> simp only [za, zb, zc, zd, ze, zf, zg, zh, zi, u8i, zj, zk, zl] at hb
  · have hi : i < l.length := hb
    refine r.idx (fun _ => rfl) hi fun q t => ?_
    refine st_pload1 t ?_
    refine st_eql ?_
    cases hpi : decide (x = l[i]) with
    | true =>
      refine st_if (fun _ => ?_) (fun hb => by cases hb)
      rw [findI_some (p := fun y => decide (x = y)) hi hpi fun j hj => ha j hj (by omega)] at k
      exact k
    | false =>
      refine st_if (fun hb => by cases hb) (fun _ => ?_)
      (repeat refine st_add (by omega) ?_)
      refine ⟨n - 1, by omega, rfl, i + 1, _, rfl, by omega, fun j hj hj2 => ?_⟩
      rcases Nat.lt_or_eq_of_le (Nat.le_of_lt_succ hj) with h1 | h1
      · exact ha j h1 hj2
      · subst h1; exact hpi
  · rw [findI_none (p := fun y => decide (x = y)) fun j hj => ha j (by omega) hj] at k
    exact k
theorem contains_string_sp (x : Str) (l : List (Str)) (hl : l.length < 4611686018427387904) {v : AV} {h : AHeap} (r : Row (fun x : Str => [T x]) 1 h v l) {Q : QT} (k : Q (B (l.any fun y => decide (x = y))) h) : C fn_slices_Contains__string_string [v, T x] h Q := by
  refine slices_Contains__string_string_ok _ _ _ _ ?_
  unfold slices_Contains__string_string
  refine index_string_sp x l hl r ?_
  (repeat refine st_geq ?_)
  have : decide (0 ≤ findI (fun y => decide (x = y)) l) = l.any fun y => decide (x = y) := by rw [Bool.eq_iff_iff, decide_eq_true_eq]; exact findI_ge _ l
  rw [this]; exact k
theorem contains_int_sp (x : Int) (l : List (Int)) (hl : l.length < 4611686018427387904) {v : AV} {h : AHeap} (r : Row (fun x : Int => [I x]) 1 h v l) {Q : QT} (k : Q (B (l.any fun y => decide (x = y))) h) : C fn_slices_Contains__int_int [v, I x] h Q := by
  refine slices_Contains__int_int_ok _ _ _ _ ?_
  unfold slices_Contains__int_int
  refine index_int_sp x l hl r ?_
  (repeat refine st_geq ?_)
  have : decide (0 ≤ findI (fun y => decide (x = y)) l) = l.any fun y => decide (x = y) := by rw [Bool.eq_iff_iff, decide_eq_true_eq]; exact findI_ge _ l
  rw [this]; exact k
theorem clone_api_Arg_sp {n : Nat} {cs : List AV} (hb : n * 64 ≤ 1099511627776) {v : AV} {h : AHeap} (r : Rd h 5 v n cs) {Q : QT} (k : ∀ h', Fr [] h h' → Q (.snap n cs) h') : C fn_slices_Clone__api_Arg_api_Arg [v] h Q := by
  refine ACall.conv ?_
  refine slices_Clone__api_Arg_api_Arg_ok _ _ _ ?_
  unfold slices_Clone__api_Arg_api_Arg
  have hl := r.len
  refine st_isNilS r (fun h0 => ?_) ?_
  · refine st_if (fun _ => ?_) (fun hb => by cases hb)
    subst h0
    have : cs = [] := by simpa using hl
    subst this
    exact conv_full (k _ (Fr.refl _ _))
  · refine st_if (fun hb => by cases hb) (fun _ => ?_)
    refine st_buildS rfl rfl ?_
    refine st_app0 (St.start h) r hb (fun h0 => ?_) fun i h1 hn s => ?_
    · subst h0
      have : cs = [] := by simpa using hl
      subst this
      exact conv_full (k _ (Fr.refl _ _))
    · exact conv_sl (s.get (.head _)) hl (k _ (s.kill .head).fr)
theorem clone_api_Diag_sp {n : Nat} {cs : List AV} (hb : n * 32 ≤ 1099511627776) {v : AV} {h : AHeap} (r : Rd h 3 v n cs) {Q : QT} (k : ∀ h', Fr [] h h' → Q (.snap n cs) h') : C fn_slices_Clone__api_Diag_api_Diag [v] h Q := by
  refine ACall.conv ?_
  refine slices_Clone__api_Diag_api_Diag_ok _ _ _ ?_
  unfold slices_Clone__api_Diag_api_Diag
  have hl := r.len
  refine st_isNilS r (fun h0 => ?_) ?_
  · refine st_if (fun _ => ?_) (fun hb => by cases hb)
    subst h0
    have : cs = [] := by simpa using hl
    subst this
    exact conv_full (k _ (Fr.refl _ _))
  · refine st_if (fun hb => by cases hb) (fun _ => ?_)
    refine st_buildS rfl rfl ?_
    refine st_app0 (St.start h) r hb (fun h0 => ?_) fun i h1 hn s => ?_
    · subst h0
      have : cs = [] := by simpa using hl
      subst this
      exact conv_full (k _ (Fr.refl _ _))
    · exact conv_sl (s.get (.head _)) hl (k _ (s.kill .head).fr)
theorem clone_api_Stmt_sp {n : Nat} {cs : List AV} (hb : n * 80 ≤ 1099511627776) {v : AV} {h : AHeap} (r : Rd h 6 v n cs) {Q : QT} (k : ∀ h', Fr [] h h' → Q (.snap n cs) h') : C fn_slices_Clone__api_Stmt_api_Stmt [v] h Q := by
  refine ACall.conv ?_
  refine slices_Clone__api_Stmt_api_Stmt_ok _ _ _ ?_
  unfold slices_Clone__api_Stmt_api_Stmt
  have hl := r.len
  refine st_isNilS r (fun h0 => ?_) ?_
  · refine st_if (fun _ => ?_) (fun hb => by cases hb)
    subst h0
    have : cs = [] := by simpa using hl
    subst this
    exact conv_full (k _ (Fr.refl _ _))
  · refine st_if (fun hb => by cases hb) (fun _ => ?_)
    refine st_buildS rfl rfl ?_
    refine st_app0 (St.start h) r hb (fun h0 => ?_) fun i h1 hn s => ?_
    · subst h0
      have : cs = [] := by simpa using hl
      subst this
      exact conv_full (k _ (Fr.refl _ _))
    · exact conv_sl (s.get (.head _)) hl (k _ (s.kill .head).fr)
theorem clone_byte_sp {n : Nat} {cs : List AV} (hb : n * 1 ≤ 1099511627776) {v : AV} {h : AHeap} (r : Rd h 1 v n cs) {Q : QT} (k : ∀ h', Fr [] h h' → Q (.snap n cs) h') : C fn_slices_Clone__byte_byte [v] h Q := by
  refine ACall.conv ?_
  refine slices_Clone__byte_byte_ok _ _ _ ?_
  unfold slices_Clone__byte_byte
  have hl := r.len
  refine st_isNilS r (fun h0 => ?_) ?_
  · refine st_if (fun _ => ?_) (fun hb => by cases hb)
    subst h0
    have : cs = [] := by simpa using hl
    subst this
    exact conv_full (k _ (Fr.refl _ _))
  · refine st_if (fun hb => by cases hb) (fun _ => ?_)
    refine st_buildS rfl rfl ?_
    refine st_app0 (St.start h) r hb (fun h0 => ?_) fun i h1 hn s => ?_
    · subst h0
      have : cs = [] := by simpa using hl
      subst this
      exact conv_full (k _ (Fr.refl _ _))
    · exact conv_sl (s.get (.head _)) hl (k _ (s.kill .head).fr)
theorem clone_int_sp {n : Nat} {cs : List AV} (hb : n * 8 ≤ 1099511627776) {v : AV} {h : AHeap} (r : Rd h 1 v n cs) {Q : QT} (k : ∀ h', Fr [] h h' → Q (.snap n cs) h') : C fn_slices_Clone__int_int [v] h Q := by
  refine ACall.conv ?_
  refine slices_Clone__int_int_ok _ _ _ ?_
  unfold slices_Clone__int_int
  have hl := r.len
  refine st_isNilS r (fun h0 => ?_) ?_
  · refine st_if (fun _ => ?_) (fun hb => by cases hb)
    subst h0
    have : cs = [] := by simpa using hl
    subst this
    exact conv_full (k _ (Fr.refl _ _))
  · refine st_if (fun hb => by cases hb) (fun _ => ?_)
    refine st_buildS rfl rfl ?_
    refine st_app0 (St.start h) r hb (fun h0 => ?_) fun i h1 hn s => ?_
    · subst h0
      have : cs = [] := by simpa using hl
      subst this
      exact conv_full (k _ (Fr.refl _ _))
    · exact conv_sl (s.get (.head _)) hl (k _ (s.kill .head).fr)
theorem clone_string_sp {n : Nat} {cs : List AV} (hb : n * 16 ≤ 1099511627776) {v : AV} {h : AHeap} (r : Rd h 1 v n cs) {Q : QT} (k : ∀ h', Fr [] h h' → Q (.snap n cs) h') : C fn_slices_Clone__string_string [v] h Q := by
  refine ACall.conv ?_
  refine slices_Clone__string_string_ok _ _ _ ?_
  unfold slices_Clone__string_string
  have hl := r.len
  refine st_isNilS r (fun h0 => ?_) ?_
  · refine st_if (fun _ => ?_) (fun hb => by cases hb)
    subst h0
    have : cs = [] := by simpa using hl
    subst this
    exact conv_full (k _ (Fr.refl _ _))
  · refine st_if (fun hb => by cases hb) (fun _ => ?_)
    refine st_buildS rfl rfl ?_
    refine st_app0 (St.start h) r hb (fun h0 => ?_) fun i h1 hn s => ?_
    · subst h0
      have : cs = [] := by simpa using hl
      subst this
      exact conv_full (k _ (Fr.refl _ _))
    · exact conv_sl (s.get (.head _)) hl (k _ (s.kill .head).fr)
end
end Go.Proofs.YtiddcelpooenfaaGreatDoor.AL
namespace Go.Proofs.YtiddcelpooenfaaGreatDoor.AL
noncomputable section
variable [Tabs]
theorem toUInt8_id (c : UInt8) : c.toNat.toUInt8 = c := by simp
theorem st_extI {l : Str} {c : UInt8} {K : AV → Prop} (k : K (I (Lib.indexByte l c))) : qExt .index [T l, U8 c] K := ⟨by
  simp only [pExt, Int.toNat_natCast, toUInt8_id]; exact k⟩
theorem st_extC {l : Str} {c : UInt8} {K : AV → Prop} (k : K (I (l.count c : Nat))) : qExt .count [T l, U8 c] K := ⟨by
  simp only [pExt, Int.toNat_natCast, toUInt8_id, Lib.countByte]; exact k⟩
theorem indexByte_sp (l : Str) (c : UInt8) {h : AHeap} {Q : QT} (k : Q (I (Lib.indexByte l c)) h) : C fn_strings_IndexByte [T l, U8 c] h Q := by
  refine strings_IndexByte_ok _ _ _ _ ?_
  unfold strings_IndexByte
  refine stringslite_IndexByte_ok _ _ _ _ ?_
  unfold stringslite_IndexByte
  exact st_extI k
theorem indexByte_mem (l : Str) (c : UInt8) : 0 ≤ Lib.indexByte l c ↔ c ∈ l := by
  induction l with
  | nil => simp [Lib.indexByte]
  | cons b l ih =>
    unfold Lib.indexByte
    by_cases hb : b = c
    · subst hb; simp
    · have : (b == c) = false := by simpa using hb
      rw [this]
      simp only [Bool.false_eq_true, if_false, List.mem_cons, ← ih]
      have hge := Lib.indexByte_ge l c
      split
      · rename_i h; simp at h; rw [h]; simp [Ne.symm hb]
      · rename_i h; simp at h
        constructor
        · intro _; right; omega
        · rintro (h | h)
          · exact (hb h.symm).elim
          · omega
def splitB (c : UInt8) : Str → List Str
  | [] => [[]]
  | x :: l => if x = c then [] :: splitB c l else match splitB c l with | [] => [[x]] | p :: ps => (x :: p) :: ps
omit [Tabs] in
theorem splitB_len (c : UInt8) : ∀ l : Str, (splitB c l).length = l.count c + 1
  | [] => rfl
  | x :: l => by
    have ih := splitB_len c l
    unfold splitB
    by_cases hx : x = c
    · subst hx; simp [ih]
    · rw [if_neg hx, List.count_cons_of_ne (by simpa using hx)]
      cases h : splitB c l with
      | nil => rw [h] at ih; simp at ih
      | cons p ps => rw [h] at ih; simpa using ih
omit [Tabs] in
theorem splitB_no {c : UInt8} : ∀ {l : Str}, c ∉ l → splitB c l = [l]
  | [], _ => rfl
  | x :: l, h => by
    simp only [List.mem_cons, not_or] at h
    unfold splitB
    rw [if_neg (Ne.symm h.1), splitB_no h.2]
omit [Tabs] in
theorem splitB_cut {c : UInt8} : ∀ {a b : Str}, c ∉ a → splitB c (a ++ c :: b) = a :: splitB c b
  | [], b, _ => by simp [splitB]
  | x :: a, b, h => by
    simp only [List.mem_cons, not_or] at h
    rw [List.cons_append, splitB, if_neg (Ne.symm h.1), splitB_cut h.2]
omit [Tabs] in
theorem index1_none {c : UInt8} {l : Str} (h : c ∉ l) : Lib.index l [c] = -1 := Lib.index_none fun j hj => by
  unfold Lib.occAt
  rw [Bool.eq_false_iff]; intro hp
  have := List.isPrefixOf_iff_prefix.1 hp
  have hm : c ∈ l.drop j := this.subset (by simp)
  exact h (List.mem_of_mem_drop hm)
omit [Tabs] in
theorem index1_some {c : UInt8} {a b : Str} (h : c ∉ a) : Lib.index (a ++ c :: b) [c] = a.length := Lib.index_first (by simp) (by simp [Lib.occAt]) fun j hj => by
  unfold Lib.occAt
  rw [Bool.eq_false_iff]; intro hp
  have := List.isPrefixOf_iff_prefix.1 hp
  rw [List.drop_append_of_le_length (by omega), List.drop_eq_getElem_cons hj] at this
  simp only [List.cons_append, List.cons_prefix_cons] at this
  exact h (this.1 ▸ List.getElem_mem _)
omit [Tabs] in
theorem cut_at {c : UInt8} : ∀ {l : Str}, c ∈ l → ∃ a b, l = a ++ c :: b ∧ c ∉ a
  | [], h => by simp at h
  | x :: l, h => by
    by_cases hx : x = c
    · subst hx; exact ⟨[], l, rfl, by simp⟩
    · obtain ⟨a, b, rfl, h2⟩ := cut_at (l := l) (by simpa [Ne.symm hx] using h)
      exact ⟨x :: a, b, rfl, by simp [Ne.symm hx, h2]⟩
def IndexOk : Prop := ∀ (s sub : Str) (h : AHeap) (Q : QT), s.length < 4294967281 → Q (I (Lib.index s sub)) h → C fn_strings_Index [T s, T sub] h Q
theorem splitB_ne (c : UInt8) (l : Str) : 0 < (splitB c l).length := by rw [splitB_len]; omega
theorem replicate_T (n : Nat) : List.replicate n (T []) = (List.replicate n ([] : Str)).flatMap fun x => [T x] := by
  induction n with
  | zero => rfl
  | succ n ih => simp [List.replicate_succ, ih]
theorem flatT (l : List Str) : (l.flatMap fun x => [T x]) = l.map T := by induction l <;> simp_all
theorem splice_put {l : List Str} {k : Nat} {x : Str} (h : k < l.length) : splice (l.flatMap fun x => [T x]) k [T x] = (l.set k x).flatMap fun x => [T x] := by
  rw [flatT, flatT]
  apply List.ext_getElem?; intro j
  rw [splice_get (by simp; omega)]
  simp only [List.length_cons, List.length_nil, List.getElem?_map, List.getElem?_set]
  split
  · rw [if_neg (by omega)]
  · split
    · have : j = k := by omega
      subst this; simp [h]
    · rw [if_neg (by omega)]
theorem splitO_sp (hI : IndexOk) (c : UInt8) (l : Str) (hl : l.length < 4000000000) {h : AHeap} {Q : QT} (k : ∀ i h', St h [] h' [(i, true, .cells ((splitB c l).flatMap fun x => [T x]))] → Q (.sl i 0 (splitB c l).length 1) h') : C fn_strings_Split [T l, T [c]] h Q := by
  refine strings_Split_ok _ _ _ _ ?_
  unfold strings_Split
  refine strings_genSplit_ok _ _ _ _ _ _ ?_
  unfold strings_genSplit
  (repeat (first | refine st_lss ?_ | refine st_eql ?_ | refine st_seq ?_))
  refine strings_Count_ok _ _ _ _ ?_
  unfold strings_Count
  (repeat (first | refine st_lenS ?_ | refine st_eql ?_))
  refine st_if (fun _ => ?_) (fun hb => (by exfalso; first | (simp at hb; done) | (simp at hb; omega) | (revert hb; decide) | omega))
  refine st_indexN (l := [c]) (i := 0) (by simp) ?_
  refine st_extC (c := c) ?_
  have hcnt := List.count_le_length (a := c) (l := l)
  have hsl := splitB_len c l
  (repeat (first | refine st_lenS ?_ | refine st_add (by omega) ?_ | refine st_min ?_))
  have e1 : min ((l.count c : Int) + 1) ((l.length : Int) + 1) = ((splitB c l).length : Nat) := by rw [hsl]; omega
  rw [e1]
  refine st_makeSlice (St.start h) (Nat.le_refl _) (by omega) (by omega) fun i h1 s => ?_
  have s : St h [] h1 [(i, true, .cells (List.replicate (splitB c l).length (T [])))] := s
  rw [replicate_T] at s
  refine st_sub (by omega) ?_
  have e2 : ((splitB c l).length : Int) - 1 = (((splitB c l).length - 1 : Nat) : Int) := by have := splitB_ne c l; omega
  rw [e2]
  refine st_loop (fun n vs h' => ∃ (m : Nat) (r : Str) (ps : List Str), vs = [T r, I (m : Nat)] ∧ r.length ≤ l.length ∧ n + m = (splitB c l).length ∧ ps.length = m ∧ splitB c l = ps ++ splitB c r ∧ St h [] h' [(i, true, .cells ((ps ++ List.replicate n []).flatMap fun x => [T x]))]) (splitB c l).length ⟨0, l, [], rfl, Nat.le_refl _, by omega, rfl, rfl, by simpa using s⟩ ?_
  rintro n vs h' ⟨m, r, ps, rfl, hr, hn, hps, hsp, s1⟩
  have hne := splitB_ne c r
  have hrl := splitB_len c r
  have hlen : (splitB c l).length = m + (splitB c r).length := by rw [hsp]; simp [hps]
  have fin : c ∉ r → strings_genSplit_b7 (T r) (I (m : Nat)) (.sl i 0 (splitB c l).length 1) h' Q := by
    intro hc
    rw [splitB_no hc] at hlen hsp
    simp at hlen
    have hn1 : n = 1 := by omega
    subst hn1
    unfold strings_genSplit_b7 strings_genSplit_j6
    have R : Rd h' 1 (.sl i 0 (splitB c l).length 1) (splitB c l).length ((ps ++ List.replicate 1 []).flatMap fun x => [T x]) := by
      have := Rd.sl (sz := 1) (n := (splitB c l).length) (o := 0) (s1.get (.head _)) (by rw [flat_len _ 1 (fun _ => rfl)]; simp; omega)
      rwa [List.drop_zero, List.take_of_length_le (by rw [flat_len _ 1 (fun _ => rfl)]; simp; omega)] at this
    refine st_ixSl (by omega) ?_
    rw [Nat.mul_one]
    refine st_store s1 .head rfl rfl rfl (by rw [flat_len _ 1 (fun _ => rfl)]; simp; omega) fun h2 s2 => ?_
    rw [show (T r).cells = [T r] from rfl, splice_put (by simp; omega)] at s2
    refine st_add (by omega) ?_
    refine st_cutSl (by omega) (by omega) ?_
    have e3 : (ps ++ List.replicate 1 []).set m r = splitB c l := by
      rw [hsp, List.set_append_right _ _ (by omega), hps]; simp
    rw [e3] at s2
    have e5 : ((m : Int) + 1).toNat = (splitB c l).length := by rw [hsp]; simp [hps]
    rw [e5]
    exact k _ _ s2
  unfold strings_genSplit_l9
  (repeat refine st_lss ?_)
  refine st_if (fun hb => ?_) (fun hb => ?_) <;> simp only [za, zb, zc, zd, ze, zf, zg, zh, zi, u8i, zj, zk, zl] at hb
  · refine hI r [c] _ _ (by omega) ?_
    by_cases hc : c ∈ r
    · obtain ⟨a, b, rfl, ha⟩ := cut_at hc
      rw [index1_some ha]
      (repeat refine st_lss ?_)
      refine st_if (fun hb => (by exfalso; first | (simp at hb; done) | (simp at hb; omega) | (revert hb; decide) | omega)) (fun _ => ?_)
      refine st_add (by simp at hr; omega) ?_
      have e3 : ((a.length : Int) + 0) = (a.length : Nat) := by omega
      rw [e3]
      refine st_cutl (by omega) (by simp; omega) ?_
      rw [Int.toNat_natCast, List.take_left]
      rw [splitB_cut ha] at hlen
      have hnp := splitB_ne c b
      refine st_ixSl (by simp at hlen; omega) ?_
      rw [Nat.mul_one]
      refine st_store s1 .head rfl rfl rfl (by rw [flat_len _ 1 (fun _ => rfl)]; simp; omega) fun h2 s2 => ?_
      rw [show (T a).cells = [T a] from rfl, splice_put (by simp; omega)] at s2
      refine st_lenS ?_
      refine st_add (by simp at hr ⊢; omega) ?_
      have e4 : ((a.length : Int) + (([c] : Str).length : Nat)) = ((a.length + 1 : Nat) : Int) := by simp
      rw [e4]
      refine st_cutr (by omega) (by simp; omega) ?_
      rw [Int.toNat_natCast, show a.length + 1 = (a ++ [c]).length by simp, show a ++ c :: b = (a ++ [c]) ++ b by simp, List.drop_left]
      (repeat refine st_add (by omega) ?_)
      rw [splitB_cut ha] at hsp
      simp at hlen
      refine ⟨n - 1, by omega, m + 1, b, ps ++ [a], rfl, by simp at hr; omega, by omega, by simp [hps], by rw [hsp]; simp, ?_⟩
      have e5 : (ps ++ List.replicate n []).set m a = ps ++ [a] ++ List.replicate (n - 1) [] := by
        rw [List.set_append_right _ _ (by omega), hps, Nat.sub_self]
        obtain ⟨q, rfl⟩ : ∃ q, n = q + 1 := ⟨n - 1, by omega⟩
        simp [List.replicate_succ]
      rw [e5] at s2; exact s2
    · rw [index1_none hc]
      (repeat refine st_lss ?_)
      refine st_if (fun _ => ?_) (fun hb => (by exfalso; first | (simp at hb; done) | (simp at hb; omega) | (revert hb; decide) | omega))
      exact fin hc
  · refine fin fun hc => ?_
    have : 0 < r.count c := List.count_pos_iff.2 hc
    simp [nthA] at hb
    omega
theorem split_sp (hI : IndexOk) (c : UInt8) (l : Str) (hl : l.length < 4000000000) {h : AHeap} {Q : QT} (k : ∀ h', Fr [] h h' → Q (.snap (splitB c l).length ((splitB c l).flatMap fun x => [T x])) h') : C fn_strings_Split [T l, T [c]] h Q := by
  refine ACall.conv ?_
  refine splitO_sp hI c l hl fun i h' s => ?_
  exact conv_sl (s.get (.head _)) (flat_len _ 1 (fun _ => rfl) _) (k _ (s.kill .head).fr)
end
end Go.Proofs.YtiddcelpooenfaaGreatDoor.AL
namespace Go.Proofs.YtiddcelpooenfaaGreatDoor.AL
noncomputable section
structure Rw where
  name : List UInt8
  bits : Nat
  kinds : List UInt8
def tbl : List Rw := [
  ⟨[115, 101, 95, 105, 108, 108, 101, 103, 97, 108], 0, []⟩,
  ⟨[115, 101, 95, 105, 115, 121, 110, 99], 1, []⟩,
  ⟨[115, 101, 95, 115, 99], 2, []⟩,
  ⟨[115, 101, 95, 98, 108, 114], 4, []⟩,
  ⟨[115, 101, 95, 98, 99, 116, 114], 6, []⟩,
  ⟨[115, 101, 95, 110, 111, 116], 32, [88]⟩,
  ⟨[115, 101, 95, 110, 101, 103], 48, [88]⟩,
  ⟨[115, 101, 95, 109, 102, 108, 114], 128, [88]⟩,
  ⟨[115, 101, 95, 109, 116, 108, 114], 144, [88]⟩,
  ⟨[115, 101, 95, 109, 102, 99, 116, 114], 160, [88]⟩,
  ⟨[115, 101, 95, 109, 116, 99, 116, 114], 176, [88]⟩,
  ⟨[115, 101, 95, 101, 120, 116, 122, 98], 192, [88]⟩,
  ⟨[115, 101, 95, 101, 120, 116, 115, 98], 208, [88]⟩,
  ⟨[115, 101, 95, 101, 120, 116, 122, 104], 224, [88]⟩,
  ⟨[115, 101, 95, 101, 120, 116, 115, 104], 240, [88]⟩,
  ⟨[115, 101, 95, 109, 114], 256, [88, 32, 89]⟩,
  ⟨[115, 101, 95, 97, 100, 100], 1024, [88, 32, 89]⟩,
  ⟨[115, 101, 95, 109, 117, 108, 108, 119], 1280, [88, 32, 89]⟩,
  ⟨[115, 101, 95, 115, 117, 98], 1536, [88, 32, 89]⟩,
  ⟨[115, 101, 95, 99, 109, 112], 3072, [88, 32, 89]⟩,
  ⟨[115, 101, 95, 99, 109, 112, 108], 3328, [88, 32, 89]⟩,
  ⟨[115, 101, 95, 97, 100, 100, 105], 8192, [88, 32, 79, 53]⟩,
  ⟨[115, 101, 95, 99, 109, 112, 108, 105], 8704, [88, 32, 79, 53]⟩,
  ⟨[115, 101, 95, 115, 117, 98, 105], 9216, [88, 32, 79, 53]⟩,
  ⟨[115, 101, 95, 99, 109, 112, 105], 10752, [88, 32, 85, 53]⟩,
  ⟨[115, 101, 95, 111, 114], 17408, [88, 32, 89]⟩,
  ⟨[115, 101, 95, 97, 110, 100, 99], 17664, [88, 32, 89]⟩,
  ⟨[115, 101, 95, 97, 110, 100], 17920, [88, 32, 89]⟩,
  ⟨[115, 101, 95, 108, 105], 18432, [88, 32, 85, 55]⟩,
  ⟨[115, 101, 95, 98, 99, 108, 114, 105], 24576, [88, 32, 85, 53]⟩,
  ⟨[115, 101, 95, 98, 115, 101, 116, 105], 25600, [88, 32, 85, 53]⟩,
  ⟨[115, 101, 95, 98, 116, 115, 116, 105], 26112, [88, 32, 85, 53]⟩,
  ⟨[115, 101, 95, 115, 114, 119, 105], 26624, [88, 32, 85, 53]⟩,
  ⟨[115, 101, 95, 115, 108, 119, 105], 27648, [88, 32, 85, 53]⟩,
  ⟨[115, 101, 95, 108, 98, 122], 32768, [89, 32, 77, 49, 32, 88]⟩,
  ⟨[115, 101, 95, 115, 116, 98], 36864, [89, 32, 77, 49, 32, 88]⟩,
  ⟨[115, 101, 95, 108, 104, 122], 40960, [89, 32, 77, 50, 32, 88]⟩,
  ⟨[115, 101, 95, 115, 116, 104], 45056, [89, 32, 77, 50, 32, 88]⟩,
  ⟨[115, 101, 95, 108, 119, 122], 49152, [89, 32, 77, 52, 32, 88]⟩,
  ⟨[115, 101, 95, 115, 116, 119], 53248, [89, 32, 77, 52, 32, 88]⟩,
  ⟨[115, 101, 95, 98, 99], 57344, [79, 49, 32, 73, 50, 32, 84, 56]⟩,
  ⟨[115, 101, 95, 98], 59392, [84, 56]⟩,
  ⟨[115, 101, 95, 98, 108], 59648, [84, 56]⟩,
  ⟨[101, 95, 97, 100, 100, 49, 54, 105], 469762048, [68, 32, 65, 32, 83, 49, 54]⟩,
  ⟨[101, 95, 97, 100, 100, 105], 402685952, [68, 32, 65, 32, 67, 56]⟩,
  ⟨[101, 95, 97, 110, 100, 105], 402702336, [65, 32, 68, 32, 67, 56]⟩,
  ⟨[101, 95, 111, 114, 105], 402706432, [65, 32, 68, 32, 67, 56]⟩,
  ⟨[101, 95, 120, 111, 114, 105], 402710528, [65, 32, 68, 32, 67, 56]⟩,
  ⟨[101, 95, 108, 105], 1879048192, [68, 32, 76, 50, 48]⟩,
  ⟨[101, 95, 108, 98, 122], 805306368, [68, 32, 83, 49, 54, 32, 65]⟩,
  ⟨[101, 95, 115, 116, 98], 872415232, [68, 32, 83, 49, 54, 32, 65]⟩,
  ⟨[101, 95, 108, 104, 97], 939524096, [68, 32, 83, 49, 54, 32, 65]⟩,
  ⟨[101, 95, 108, 119, 122], 1342177280, [68, 32, 83, 49, 54, 32, 65]⟩,
  ⟨[101, 95, 115, 116, 119], 1409286144, [68, 32, 83, 49, 54, 32, 65]⟩,
  ⟨[101, 95, 108, 104, 122], 1476395008, [68, 32, 83, 49, 54, 32, 65]⟩,
  ⟨[101, 95, 115, 116, 104], 1543503872, [68, 32, 83, 49, 54, 32, 65]⟩,
  ⟨[101, 95, 98], 2013265920, [84, 50, 52]⟩,
  ⟨[101, 95, 98, 108], 2013265921, [84, 50, 52]⟩,
  ⟨[101, 95, 98, 99], 2046820352, [79, 50, 32, 73, 52, 32, 84, 49, 53]⟩,
  ⟨[101, 95, 98, 99, 108], 2046820353, [79, 50, 32, 73, 52, 32, 84, 49, 53]⟩,
  ⟨[97, 100, 100], 2080375316, [68, 32, 65, 32, 66]⟩,
  ⟨[115, 117, 98, 102], 2080374864, [68, 32, 65, 32, 66]⟩,
  ⟨[109, 117, 108, 108, 119], 2080375254, [68, 32, 65, 32, 66]⟩,
  ⟨[97, 110, 100], 2080374840, [65, 32, 68, 32, 66]⟩,
  ⟨[111, 114], 2080375672, [65, 32, 68, 32, 66]⟩,
  ⟨[120, 111, 114], 2080375416, [65, 32, 68, 32, 66]⟩]
def kindsL : List (List UInt8 × List (List UInt8)) := [
  ([], []),
  ([88], [[88]]),
  ([88, 32, 89], [[88], [89]]),
  ([88, 32, 79, 53], [[88], [79, 53]]),
  ([88, 32, 85, 53], [[88], [85, 53]]),
  ([88, 32, 85, 55], [[88], [85, 55]]),
  ([89, 32, 77, 49, 32, 88], [[89], [77, 49], [88]]),
  ([89, 32, 77, 50, 32, 88], [[89], [77, 50], [88]]),
  ([89, 32, 77, 52, 32, 88], [[89], [77, 52], [88]]),
  ([79, 49, 32, 73, 50, 32, 84, 56], [[79, 49], [73, 50], [84, 56]]),
  ([84, 56], [[84, 56]]),
  ([68, 32, 65, 32, 83, 49, 54], [[68], [65], [83, 49, 54]]),
  ([68, 32, 65, 32, 67, 56], [[68], [65], [67, 56]]),
  ([65, 32, 68, 32, 67, 56], [[65], [68], [67, 56]]),
  ([68, 32, 76, 50, 48], [[68], [76, 50, 48]]),
  ([68, 32, 83, 49, 54, 32, 65], [[68], [83, 49, 54], [65]]),
  ([84, 50, 52], [[84, 50, 52]]),
  ([79, 50, 32, 73, 52, 32, 84, 49, 53], [[79, 50], [73, 52], [84, 49, 53]]),
  ([68, 32, 65, 32, 66], [[68], [65], [66]]),
  ([65, 32, 68, 32, 66], [[65], [68], [66]])]
end
end Go.Proofs.YtiddcelpooenfaaGreatDoor.AL
set_option exponentiation.threshold 2000
namespace Go.Proofs.YtiddcelpooenfaaGreatDoor.AL
noncomputable section
open Ieee
theorem log2_bounds {m : Nat} (h : m ≠ 0) : 2 ^ m.log2 ≤ m ∧ m < 2 ^ (m.log2 + 1) := ⟨Nat.log2_self_le h, Nat.lt_log2_self⟩
theorem read_small {neg : Bool} {m : Nat} (h0 : m ≠ 0) (h1 : m < 2 ^ 53) : double.read (double.nearest neg m 0) = .number neg (m * 2 ^ (52 - m.log2)) ((m.log2 : Int) - 52) := by
  obtain ⟨hl, hu⟩ := log2_bounds h0
  have hL : m.log2 ≤ 52 := by
    have : m.log2 < 53 := (Nat.log2_lt h0).2 h1
    omega
  generalize hLe : m.log2 = L at *
  have hp : 2 ^ L * 2 ^ (52 - L) = 2 ^ 52 := by rw [← Nat.pow_add]; congr 1; omega
  have hp2 : 2 ^ (L + 1) * 2 ^ (52 - L) = 2 ^ 53 := by rw [← Nat.pow_add]; congr 1; omega
  have hpos : 0 < 2 ^ (52 - L) := Nat.two_pow_pos _
  have n1 : 2 ^ 52 ≤ m * 2 ^ (52 - L) := by rw [← hp]; exact Nat.mul_le_mul_right _ hl
  have n2 : m * 2 ^ (52 - L) < 2 ^ 53 := by rw [← hp2]; exact Nat.mul_lt_mul_of_pos_right hu hpos
  generalize hn : m * 2 ^ (52 - L) = n at *
  have hlast : max ((0 : Int) + (L : Int) - (double.fractionBits : Int)) double.leastPlace = (L : Int) - 52 := by
    show max ((0 : Int) + (L : Int) - ((52 : Nat) : Int)) (2 - 2 ^ (11 - 1) - ((52 : Nat) : Int)) = _
    have : (2 : Int) ^ (11 - 1) = 1024 := by decide
    omega
  have hne : double.nearest neg m 0 = double.word neg ((L + 1022) * 2 ^ 52 + n) := by
    unfold Format.nearest
    rw [if_neg h0, hLe]
    simp only [hlast]
    have e1 : ((0 : Int) - ((L : Int) - 52)).toNat = 52 - L := by omega
    have e2 : ((L : Int) - 52 - 0).toNat = 0 := by omega
    have e3 : ((L : Int) - 52 - double.leastPlace).toNat = L + 1022 := by
      have : double.leastPlace = -1074 := by decide
      omega
    have e4 : Toward.even.cut neg (m <<< (52 - L)) 0 = n := by
      rw [Nat.shiftLeft_eq, hn]
      unfold Toward.cut
      simp
      omega
    rw [e1, e2, e3, e4]
    have e5 : double.binade = 2 ^ 52 := rfl
    have e6 : double.infRung = 2047 * 2 ^ 52 := by decide
    rw [e5, e6, Nat.min_eq_left]
    omega
  rw [hne]
  have s1 : double.signWeight = 2 ^ 63 := by decide
  have e5 : double.binade = 2 ^ 52 := rfl
  have e6 : double.infRung = 2047 * 2 ^ 52 := by decide
  have e7 : double.leastPlace = -1074 := by decide
  have hw : (double.word neg ((L + 1022) * 2 ^ 52 + n)) / 2 ^ 63 % 2 = neg.toNat ∧ (double.word neg ((L + 1022) * 2 ^ 52 + n)) % 2 ^ 63 = (L + 1022) * 2 ^ 52 + n := by
    unfold Format.word
    rw [s1]
    cases neg <;> simp <;> omega
  unfold Format.read
  simp only [s1, hw.1, hw.2, e5, e6, e7]
  rw [if_neg (by omega), if_pos (by omega)]
  congr 1
  · cases neg <;> rfl
  · omega
  · omega
theorem read_nearest {topE : Nat} (hE : topE = 1074) (a : Int) (h : a.natAbs < 2 ^ 53) : ∃ s m i, double.read (FloatKind.f64.nearest a) = .number s m i ∧ -1074 ≤ i ∧ i ≤ 0 ∧ (if s = true then -((m : Int) * 2 ^ (i + topE).toNat) else (m : Int) * 2 ^ (i + topE).toNat) = a * 2 ^ topE := by
  by_cases h0 : a.natAbs = 0
  · have : a = 0 := by omega
    subst this
    exact ⟨false, 0, -1074, by decide, by omega, by omega, by simp⟩
  · refine ⟨decide (a < 0), _, _, read_small h0 h, ?_, ?_, ?_⟩
    · omega
    · have : a.natAbs.log2 < 53 := (Nat.log2_lt h0).2 h
      omega
    · have hL : a.natAbs.log2 < 53 := (Nat.log2_lt h0).2 h
      generalize a.natAbs.log2 = L at *
      have e1 : ((L : Int) - 52 + topE).toNat = L + 1022 := by omega
      have e2 : ((a.natAbs * 2 ^ (52 - L) : Nat) : Int) * 2 ^ ((L : Int) - 52 + topE).toNat = (a.natAbs : Int) * 2 ^ topE := by
        rw [e1, Int.natCast_mul, Int.mul_assoc, Int.natCast_pow, show ((2 : Nat) : Int) = 2 from rfl, ← Int.pow_add]
        rw [show 52 - L + (L + 1022) = topE by omega]
      rw [e2]
      generalize (2 : Int) ^ 1074 = X
      by_cases hn : a < 0
      · rw [if_pos (by simpa using hn), ← Int.neg_mul, show -(a.natAbs : Int) = a by omega]
      · rw [if_neg (by simpa using hn), show (a.natAbs : Int) = a by omega]
theorem cmp_mul {a b c : Int} (hc : 0 < c) : compare (a * c) (b * c) = compare a b := by
  simp only [compare, compareOfLessAndEq]
  by_cases h1 : a < b
  · rw [if_pos h1, if_pos ((Int.mul_lt_mul_right hc).2 h1)]
  · rw [if_neg h1, if_neg (fun h => h1 ((Int.mul_lt_mul_right hc).1 h))]
    by_cases h2 : a = b
    · subst h2; simp
    · rw [if_neg h2, if_neg (fun h => h2 (Int.eq_of_mul_eq_mul_right (by omega) h))]
theorem signed_up (s : Bool) (m a b : Nat) : signed s m a * 2 ^ b = if s = true then -((m : Int) * 2 ^ (a + b)) else (m : Int) * 2 ^ (a + b) := by
  have h : ((m <<< a : Nat) : Int) * 2 ^ b = (m : Int) * 2 ^ (a + b) := by
    rw [Nat.shiftLeft_eq, Int.natCast_mul, Int.natCast_pow, Int.mul_assoc, Int.pow_add]; rfl
  unfold signed
  cases s
  · simpa using h
  · simp only [if_true]; rw [Int.neg_mul, h]
theorem order_nearest (a b : Int) (ha : a.natAbs < 2 ^ 53) (hb : b.natAbs < 2 ^ 53) : FloatKind.f64.format.order (FloatKind.f64.nearest a) (FloatKind.f64.nearest b) = some (compare a b) := by
  obtain ⟨topE, hE⟩ : ∃ E, E = 1074 := ⟨_, rfl⟩
  obtain ⟨s, m, i, h1, h2, h3, h4⟩ := read_nearest hE a ha
  obtain ⟨t, n, j, k1, k2, k3, k4⟩ := read_nearest hE b hb
  show (double.read (FloatKind.f64.nearest a)).order (double.read (FloatKind.f64.nearest b)) = _
  rw [h1, k1]
  simp only [Datum.order]
  congr 1
  have hp : ∀ n : Nat, (0 : Int) < 2 ^ n := fun n => Int.pow_pos (by decide)
  rw [← cmp_mul (hp (min i j + topE).toNat), signed_up, signed_up]
  rw [show (i - min i j).toNat + (min i j + topE).toNat = (i + topE).toNat by omega, show (j - min i j).toNat + (min i j + topE).toNat = (j + topE).toNat by omega, h4, k4]
  exact cmp_mul (hp topE)
end
end Go.Proofs.YtiddcelpooenfaaGreatDoor.AL
namespace Go.Proofs.YtiddcelpooenfaaGreatDoor.AL
noncomputable section
variable [Tabs]
def rowE (r : Rw) : List AV := [T r.name, .lit (.int .u32 r.bits), T r.kinds]
theorem rowE_len (r : Rw) : (rowE r).length = 3 := rfl
set_option maxHeartbeats 4000000 in
theorem table_sp {h : AHeap} {Q : QT} (k : Q (.full tbl.length (tbl.flatMap rowE)) h) : C fn_isa_table [] h Q := by
  refine isa_table_ok _ _ ?_
  unfold isa_table
  (repeat (first | refine st_build rfl ?_ | refine st_buildS rfl rfl ?_))
  exact k
theorem row_tbl (h : AHeap) : Row rowE 3 h (.full tbl.length (tbl.flatMap rowE)) tbl := Row.full rowE_len tbl
def findOp (s : Str) : Option Nat := tbl.findIdx? fun r => decide (r.name = s)
theorem find_sp (s : Str) {h : AHeap} {Q : QT} (k : ∀ h', Fr [] h h' → Q (.tup [I (((findOp s).getD 0 : Nat) : Int), B (findOp s).isSome]) h') : C fn_isa_Find [T s] h Q := by
  refine isa_Find_ok _ _ _ ?_
  unfold isa_Find
  refine st_box (St.start h) rfl fun i h1 s1 => ?_
  refine table_sp ?_
  refine indexFunc_isa_row_sp rowE_len _ (fun r => decide (r.name = s)) tbl (by decide) (row_tbl h1) (fun x hx h2 Q f2 kq => ?_) fun h2 f2 => ?_
  · show ACall Pg fn_isa_Find_1 _ _ _
    refine isa_Find_1_ok _ _ _ _ ?_
    unfold isa_Find_1
    have s2 := St.startr (f2.get (s1.get (.head _)) (by simp))
    refine st_box s2 rfl fun j h3 s3 => ?_
    (repeat (first | refine st_fa ?_ | refine st_seq ?_ | refine st_load1 ‹_› (by first | exact .head _ | exact .tail _ (.head _)) rfl ?_))
    exact kq _ s3.fr
  · (repeat (first | refine st_geq ?_ | refine st_max ?_))
    have e1 : max (findI (fun r => decide (r.name = s)) tbl) 0 = (((findOp s).getD 0 : Nat) : Int) := by
      unfold findI findOp
      cases tbl.findIdx? fun r => decide (r.name = s) with
      | none => rfl
      | some i => simp
    have e2 : decide (0 ≤ findI (fun r => decide (r.name = s)) tbl) = (findOp s).isSome := by
      unfold findI findOp
      cases tbl.findIdx? fun r => decide (r.name = s) with
      | none => rfl
      | some i => simp
    rw [e1, e2]
    exact k _ ((s1.call f2).fr)
end
end Go.Proofs.YtiddcelpooenfaaGreatDoor.AL
namespace Go.Proofs.YtiddcelpooenfaaGreatDoor.AL
noncomputable section
variable [Tabs]
def FieldsOk : Prop := ∀ p ∈ kindsL, ∀ (h : AHeap) (Q : QT), Q (.snap p.2.length (p.2.flatMap fun x => [T x])) h → C fn_strings_Fields [T p.1] h Q
def LdexpOk : Prop := ∀ b ∈ [8, 15, 19, 24], ∀ (h : AHeap) (Q : QT), Q (.lit (.float .f64 (FloatKind.f64.nearest (2 ^ b : Nat)))) h → C fn_math_Ldexp [.lit (.float .f64 4607182418800017408), I (b : Nat)] h Q
def flds (k : Str) : List Str := ((kindsL.find? fun p => decide (p.1 = k)).map (·.2)).getD []
omit [Tabs] in
theorem tbl_kinds : ∀ r ∈ tbl, (r.kinds, flds r.kinds) ∈ kindsL := by decide
theorem fields_sp (hF : FieldsOk) {r : Rw} (hr : r ∈ tbl) {h : AHeap} {Q : QT} (k : Q (.snap (flds r.kinds).length ((flds r.kinds).flatMap fun x => [T x])) h) : C fn_strings_Fields [T r.kinds] h Q := hF _ (tbl_kinds r hr) h Q k
abbrev opName (op : Nat) : Str := (tbl[op]?.map (·.name)).getD []
abbrev opKinds (op : Nat) : Str := (tbl[op]?.map (·.kinds)).getD []
abbrev opBits (op : Nat) : Nat := (tbl[op]?.map (·.bits)).getD 0
theorem title_sp (r : Rw) {h : AHeap} {Q : QT} (k : ∀ h', Fr [] h h' → Q (T r.name) h') : C fn_isa_row_title [.agg (rowE r)] h Q := by
  refine isa_row_title_ok _ _ _ ?_
  unfold isa_row_title
  refine st_box (St.start h) rfl fun i h1 s1 => ?_
  (repeat (first | refine st_fa ?_ | refine st_load1 ‹_› (.head _) rfl ?_))
  exact k _ s1.fr
theorem operands_sp (r : Rw) {h : AHeap} {Q : QT} (k : ∀ h', Fr [] h h' → Q (T r.kinds) h') : C fn_isa_row_operands [.agg (rowE r)] h Q := by
  refine isa_row_operands_ok _ _ _ ?_
  unfold isa_row_operands
  refine st_box (St.start h) rfl fun i h1 s1 => ?_
  (repeat (first | refine st_fa ?_ | refine st_load1 ‹_› (.head _) rfl ?_))
  exact k _ s1.fr
theorem bits_sp (r : Rw) {h : AHeap} {Q : QT} (k : ∀ h', Fr [] h h' → Q (.lit (.int .u32 r.bits)) h') : C fn_isa_code_1 [.agg (rowE r)] h Q := by
  refine isa_code_1_ok _ _ _ ?_
  unfold isa_code_1
  refine st_box (St.start h) rfl fun i h1 s1 => ?_
  (repeat (first | refine st_fa ?_ | refine st_load1 ‹_› (.head _) rfl ?_))
  exact k _ s1.fr
theorem list_sp (hF : FieldsOk) {r : Rw} (hr : r ∈ tbl) {h : AHeap} {Q : QT} (k : ∀ h', Fr [] h h' → Q (.snap (flds r.kinds).length ((flds r.kinds).flatMap fun x => [T x])) h') : C fn_isa_row_list [.agg (rowE r)] h Q := by
  refine isa_row_list_ok _ _ _ ?_
  unfold isa_row_list
  refine st_box (St.start h) rfl fun i h1 s1 => ?_
  (repeat (first | refine st_fa ?_ | refine st_load1 ‹_› (.head _) rfl ?_))
  refine fields_sp hF hr ?_
  exact k _ s1.fr
theorem ofS_sp {op : Nat} (ho : op < tbl.length) (fv : AV) {h : AHeap} {Q : QT} (k : CV fv [.agg (rowE tbl[op])] h Q) : C fn_isa_of_string [I (op : Nat), fv] h Q := by
  refine isa_of_string_ok _ _ _ _ ?_
  unfold isa_of_string
  refine table_sp ?_
  (repeat (first | refine st_lenL2 ?_ | refine st_lss ?_ | refine st_geq ?_))
  refine st_if (fun _ => ?_) (fun hb => (by exfalso; first | (simp at hb; done) | (simp at hb; omega) | (revert hb; decide) | omega))
  refine (row_tbl h).idx rowE_len ho fun p t => ?_
  refine st_ploadAll t rfl ?_
  exact k
theorem ofU_sp {op : Nat} (ho : op < tbl.length) (fv : AV) {h : AHeap} {Q : QT} (k : CV fv [.agg (rowE tbl[op])] h Q) : C fn_isa_of_uint32 [I (op : Nat), fv] h Q := by
  refine isa_of_uint32_ok _ _ _ _ ?_
  unfold isa_of_uint32
  refine table_sp ?_
  (repeat (first | refine st_lenL2 ?_ | refine st_lss ?_ | refine st_geq ?_))
  refine st_if (fun _ => ?_) (fun hb => (by exfalso; first | (simp at hb; done) | (simp at hb; omega) | (revert hb; decide) | omega))
  refine (row_tbl h).idx rowE_len ho fun p t => ?_
  refine st_ploadAll t rfl ?_
  exact k
theorem ofL_sp {op : Nat} (ho : op < tbl.length) (fv : AV) {h : AHeap} {Q : QT} (k : CV fv [.agg (rowE tbl[op])] h Q) : C fn_isa_of__string [I (op : Nat), fv] h Q := by
  refine isa_of__string_ok _ _ _ _ ?_
  unfold isa_of__string
  refine table_sp ?_
  (repeat (first | refine st_lenL2 ?_ | refine st_lss ?_ | refine st_geq ?_))
  refine st_if (fun _ => ?_) (fun hb => (by exfalso; first | (simp at hb; done) | (simp at hb; omega) | (revert hb; decide) | omega))
  refine (row_tbl h).idx rowE_len ho fun p t => ?_
  refine st_ploadAll t rfl ?_
  exact k
omit [Tabs] in
theorem opName_eq {op : Nat} (ho : op < tbl.length) : opName op = tbl[op].name := by simp [opName, ho]
omit [Tabs] in
theorem opKinds_eq {op : Nat} (ho : op < tbl.length) : opKinds op = tbl[op].kinds := by simp [opKinds, ho]
omit [Tabs] in
theorem opBits_eq {op : Nat} (ho : op < tbl.length) : opBits op = tbl[op].bits := by simp [opBits, ho]
theorem name_sp {op : Nat} (ho : op < tbl.length) {h : AHeap} {Q : QT} (k : ∀ h', Fr [] h h' → Q (T (opName op)) h') : C fn_isa_Name [I (op : Nat)] h Q := by
  refine isa_Name_ok _ _ _ ?_
  unfold isa_Name
  refine ofS_sp ho _ ?_
  rw [opName_eq ho] at k
  exact title_sp _ k
theorem kinds_sp {op : Nat} (ho : op < tbl.length) {h : AHeap} {Q : QT} (k : ∀ h', Fr [] h h' → Q (T (opKinds op)) h') : C fn_isa_Kinds [I (op : Nat)] h Q := by
  refine isa_Kinds_ok _ _ _ ?_
  unfold isa_Kinds
  refine ofS_sp ho _ ?_
  rw [opKinds_eq ho] at k
  exact operands_sp _ k
def opSize (op : Nat) : Nat := if op < 43 then 2 else 4
omit [Tabs] in
theorem name_ne : ∀ r ∈ tbl, r.name ≠ [] := by decide
theorem size_sp {op : Nat} (ho : op < tbl.length) {h : AHeap} {Q : QT} (k : ∀ h', Fr [] h h' → Q (I (opSize op : Nat)) h') : C fn_isa_Size [I (op : Nat)] h Q := by
  refine isa_Size_ok _ _ _ ?_
  unfold isa_Size
  refine name_sp ho fun h1 f1 => ?_
  (repeat refine st_seq ?_)
  have hn : opName op ≠ [] := by rw [opName_eq ho]; exact name_ne _ (by simp)
  refine st_if (fun hb => absurd (by simpa using hb) hn) (fun _ => ?_)
  (repeat refine st_lss ?_)
  refine st_if (fun hb => ?_) (fun hb => ?_) <;> simp only [za, zb, zc, zd, ze, zf, zg, zh, zi, u8i, zj, zk, zl] at hb
  · have := k h1 f1
    rw [opSize, if_pos (by omega)] at this; exact this
  · have := k h1 f1
    rw [opSize, if_neg (by omega)] at this; exact this
abbrev andI (k : IntKind) (a b : Int) : Int := k.wrap ((BitVec.ofInt k.bits a &&& BitVec.ofInt k.bits b).toNat : Int)
abbrev orI (k : IntKind) (a b : Int) : Int := k.wrap ((BitVec.ofInt k.bits a ||| BitVec.ofInt k.bits b).toNat : Int)
abbrev shlI (k : IntKind) (a : Int) (n : Nat) : Int := k.wrap (a * 2 ^ (min n k.bits))
abbrev shrI (k : IntKind) (a : Int) (n : Nat) : Int := a.fdiv (2 ^ (min n k.bits))
theorem immSplit_sp (v : Int) {h : AHeap} {Q : QT} (k : Q (.tup [I (andI .i64 (shrI .i64 v 16) 15), I (andI .i64 (shrI .i64 v 11) 31), I (andI .i64 v 2047)]) h) : C fn_imm_Split [I v] h Q := by
  refine imm_Split_ok _ _ _ ?_
  unfold imm_Split
  refine st_shr (by omega) ?_
  refine st_andw ?_
  refine st_shr (by omega) ?_
  refine st_andw ?_
  refine st_andw ?_
  exact k
def signI (v : Int) (b : Nat) : Int := shrI .i64 (shlI .i64 v (64 - b)) (64 - b)
theorem sign_sp (v : Int) (b : Nat) (h1 : 1 ≤ b) (h2 : b ≤ 64) {h : AHeap} {Q : QT} (k : Q (I (signI v b)) h) : C fn_imm_Sign [I v, I (b : Nat)] h Q := by
  refine imm_Sign_ok _ _ _ _ ?_
  unfold imm_Sign
  refine st_max ?_
  refine st_min ?_
  have e : min (max (b : Int) 1) 64 = (b : Int) := by omega
  rw [e]
  refine st_sub (by omega) ?_
  refine st_shl (by omega) ?_
  refine st_shr (by omega) ?_
  have e2 : ((64 : Int) - (b : Int)).toNat = 64 - b := by omega
  rw [e2]
  exact k
def bstep (f s ui v k : Int) : Int := orI .i64 (shlI .i64 v 8) (if k = s then andI .i64 ui 255 else if f = 1 then 255 else 0)
def backF (f s ui : Int) : Int := signI (bstep f s ui (bstep f s ui (bstep f s ui (bstep f s ui 0 3) 2) 1) 0) 32
theorem back_round (f s ui v : Int) (k : Int) (hk : 0 ≤ k) (hk2 : k < 10) (Q : QT) {h : AHeap} (next : NT) (q : next [I (bstep f s ui v k), I (k - 1)] h) : imm_Back_l4 (I f) (I s) (I ui) Q [I v, I k] h next := by
  unfold imm_Back_l4
  refine st_geq ?_
  refine st_if (fun _ => ?_) (fun hb => absurd hb (by simpa [nthA] using hk))
  have fin : ∀ b, b = (if k = s then andI .i64 ui 255 else if f = 1 then 255 else 0) → imm_Back_j1 (I b) (I v) (I k) h next := by
    intro b hb
    unfold imm_Back_j1
    refine st_shl (by omega) ?_
    refine st_orw ?_
    refine st_sub (by omega) ?_
    subst hb
    exact q
  have mid : ∀ b, b = (if f = 1 then (255 : Int) else 0) → imm_Back_j2 (I b) (I v) (I k) (I s) (I ui) h next := by
    intro b hb
    unfold imm_Back_j2
    refine st_eql ?_
    refine st_if (fun hc => ?_) (fun hc => ?_) <;> simp only [za, zb, zc, zd, ze, zf, zg, zh, zi, u8i, zj, zk, zl] at hc
    · refine st_andw ?_
      exact fin _ (by rw [if_pos hc])
    · exact fin _ (by rw [if_neg hc, hb])
  refine st_eql ?_
  refine st_if (fun hc => ?_) (fun hc => ?_) <;> simp only [za, zb, zc, zd, ze, zf, zg, zh, zi, u8i, zj, zk, zl] at hc
  · exact mid _ (by rw [if_pos hc])
  · exact mid _ (by rw [if_neg hc])
theorem back_sp (f s ui : Int) {h : AHeap} {Q : QT} (k : Q (I (backF f s ui)) h) : C fn_imm_Back [I f, I s, I ui] h Q := by
  refine imm_Back_ok _ _ _ _ _ ?_
  unfold imm_Back
  refine st_loopX 5 ?_
  refine lx_go (back_round f s ui 0 3 (by omega) (by omega) _ _ (lx_next ?_))
  refine lx_go (back_round f s ui _ 2 (by omega) (by omega) _ _ (lx_next ?_))
  refine lx_go (back_round f s ui _ 1 (by omega) (by omega) _ _ (lx_next ?_))
  refine lx_go (back_round f s ui _ 0 (by omega) (by omega) _ _ (lx_next ?_))
  refine lx_go ?_
  unfold imm_Back_l4
  refine st_geq ?_
  refine st_if (fun hb => absurd hb (by simp [nthA])) (fun _ => ?_)
  exact sign_sp _ 32 (by omega) (by omega) k
theorem of_sp (f s ui : Int) {h : AHeap} {Q : QT} (k : ∀ h', Fr [] h h' → Q (I (backF f s ui)) h') : C fn_imm_form_of [.agg [I f, I s], I ui] h Q := by
  refine imm_form_of_ok _ _ _ _ ?_
  unfold imm_form_of
  refine st_box (St.start h) rfl fun i h1 s1 => ?_
  (repeat (first | refine st_fa ?_ | refine st_load1 ‹_› (.head _) rfl ?_))
  exact back_sp f s ui (k _ s1.fr)
def foundF (v f s : Int) : Int := findI (fun ui : Nat => decide (backF f s ui = v)) (List.range 256)
theorem found_sp (v f s : Int) {h : AHeap} {Q : QT} (k : ∀ h', Fr [] h h' → Q (I (foundF v f s)) h') : C fn_imm_found [I v, .fn (.func fn_imm_form_of) [.agg [I f, I s]] []] h Q := by
  refine imm_found_ok _ _ _ _ ?_
  unfold imm_found
  refine st_loop (fun n vs h' => Fr [] h h' ∧ ∃ i : Nat, ∃ b, vs = [b, I (i : Nat)] ∧ n + i = 256 ∧ ∀ j (hj : j < i), decide (backF f s j = v) = false) 256 ⟨Fr.refl _ _, 0, _, rfl, by omega, fun j hj => by omega⟩ ?_
  rintro n vs h' ⟨f1, i, b, rfl, hn, ha⟩
  unfold imm_found_l2
  (repeat refine st_lss ?_)
  refine st_if (fun hb => ?_) (fun hb => ?_) <;> simp only [za, zb, zc, zd, ze, zf, zg, zh, zi, u8i, zj, zk, zl] at hb
  · have hi : i < 256 := by omega
    show ACall Pg fn_imm_form_of [.agg [I f, I s], I (i : Nat)] h' _
    refine of_sp f s i fun h2 f2 => ?_
    refine st_eql ?_
    have hlen : i < (List.range 256).length := by simpa using hi
    refine st_if (fun hc => ?_) (fun hc => ?_) <;> simp only [za, zb, zc, zd, ze, zf, zg, zh, zi, u8i, zj, zk, zl] at hc
    · have := k h2 (f1.trans f2 (by simp))
      unfold foundF at this
      rw [findI_some (p := fun ui : Nat => decide (backF f s ui = v)) hlen (by simpa using hc) fun j hj => by simpa using ha j hj] at this
      exact this
    · (repeat refine st_add (by omega) ?_)
      refine ⟨n - 1, by omega, f1.trans f2 (by simp), i + 1, _, rfl, by omega, fun j hj => ?_⟩
      rcases Nat.lt_or_eq_of_le (Nat.le_of_lt_succ hj) with h1 | h1
      · exact ha j h1
      · subst h1; simpa using hc
  · have := k h' f1
    unfold foundF at this
    rw [findI_none (p := fun ui : Nat => decide (backF f s ui = v)) fun j hj => by simpa using ha j (by simp at hj; omega)] at this
    exact this
def formsL : List (Int × Int) := [(0, 0), (0, 1), (0, 2), (0, 3), (1, 0), (1, 1), (1, 2), (1, 3)]
def formE (x : Int × Int) : List AV := [I x.1, I x.2]
def sci8F (v : Int) : List (Int × Int) → Option (Int × Int × Int)
  | [] => none
  | x :: l => if 0 ≤ foundF v x.1 x.2 then some (x.1, x.2, foundF v x.1 x.2) else sci8F v l
abbrev sci8 (v : Int) : Option (Int × Int × Int) := sci8F v formsL
theorem forms_sp {h : AHeap} {Q : QT} (k : Q (.full formsL.length (formsL.flatMap formE)) h) : C fn_imm_forms [] h Q := by
  refine imm_forms_ok _ _ ?_
  unfold imm_forms
  (repeat (first | refine st_build rfl ?_ | refine st_buildS rfl rfl ?_))
  exact k
def sciV (o : Option (Int × Int × Int)) : AV := match o with
  | some (f, s, ui) => .tup [I f, I s, I ui, B true]
  | none => .tup [I 0, I 0, I 0, B false]
theorem sci8_sp (v : Int) {h : AHeap} {Q : QT} (k : ∀ h', Fr [] h h' → Q (sciV (sci8 v)) h') : C fn_imm_Sci8 [I v] h Q := by
  refine imm_Sci8_ok _ _ _ ?_
  unfold imm_Sci8
  refine forms_sp ?_
  have R : ∀ h, Row formE 2 h (.full formsL.length (formsL.flatMap formE)) formsL := fun h => Row.full (enc := formE) (fun _ => rfl) formsL
  refine (R h).len ?_
  refine st_loop (fun n vs h' => Fr [] h h' ∧ ∃ (i : Nat) (a b c d : AV), vs = [a, b, c, d, I (i : Nat)] ∧ n + i = 8 ∧ sci8 v = sci8F v (formsL.drop i)) 8 ⟨Fr.refl _ _, 0, _, _, _, _, rfl, by omega, rfl⟩ ?_
  rintro n vs h' ⟨f1, i, a, b, c, d, rfl, hn, hs⟩
  unfold imm_Sci8_l5
  (repeat refine st_lss ?_)
  refine st_if (fun hb => ?_) (fun hb => ?_) <;> simp only [za, zb, zc, zd, ze, zf, zg, zh, zi, u8i, zj, zk, zl] at hb
  · have hi : i < formsL.length := hb
    have e8 : formsL.length = 8 := rfl
    refine (R h').idx (fun _ => rfl) hi fun p t => ?_
    refine st_ploadAll t rfl ?_
    have s := (St.start h).call f1
    refine st_new s fun q h2 s2 => ?_
    refine st_store s2 .head rfl rfl rfl (by decide) fun h3 s3 => ?_
    (repeat refine st_loadA ‹_› (.head _) (nle rfl) ?_)
    refine found_sp v formsL[i].1 formsL[i].2 fun h4 f4 => ?_
    have s4 := s3.call f4
    rw [List.drop_eq_getElem_cons hi, sci8F] at hs
    (repeat refine st_geq ?_)
    refine st_if (fun hc => ?_) (fun hc => ?_) <;> simp only [za, zb, zc, zd, ze, zf, zg, zh, zi, u8i, zj, zk, zl] at hc
    · (repeat (first | refine st_fa ?_ | refine st_load1 ‹_› (.head _) rfl ?_))
      rw [if_pos hc] at hs
      have := k h4 s4.fr
      rw [hs] at this
      exact this
    · (repeat refine st_add (by omega) ?_)
      rw [if_neg (by omega)] at hs
      exact ⟨n - 1, by omega, s4.fr, i + 1, _, _, _, _, rfl, by omega, hs⟩
  · have := k h' f1
    rw [hs, List.drop_of_length_le (by simp [nthA] at hb; simpa using hb)] at this
    exact this
end
end Go.Proofs.YtiddcelpooenfaaGreatDoor.AL
