import Derived.Test.YtmocchnodigmlaaGreatDoorAL30
set_option linter.all false
set_option autoImplicit true
set_option relaxedAutoImplicit true
set_option linter.unusedVariables false
set_option linter.unusedSimpArgs false
/-! Named values: what is known of them. -/
namespace Go.Proofs.YtmocchnodigmlaaGreatDoor.AL
noncomputable section
/-- Names for integers. -/
@[reducible] def intSyms (l : List Int) : Syms := ⟨fun j => .int .i64 (l.getD j 0), fun _ => rfl⟩
variable [Tabs]
section
variable {P : Program} {G : Gh} {h : AHeap}
theorem ACall.of_rep {f : FuncId} {args args' : List AV} {K : AV → AHeap → Prop} (hr : ∀ G vs, RepL G args vs → RepL G args' vs) (k : ACall P f args' h K) : ACall P f args h K :=
  ⟨k.1, fun G w vs s r => k.2 G w vs s (hr G vs r)⟩
def chF : List (Nat × Nat × Nat) → Nat → Nat → Option Nat
  | [], _, _ => none
  | (j', m', k) :: r, j, m => match Nat.beq j' j with
    | true => (match Nat.beq m' m with | true => some k | false => chF r j m)
    | false => chF r j m
def ChOk (ch : List (Nat × Nat × Nat)) : Prop := ∀ e ∈ ch, ∃ a : Int, Syms.sy e.1 = .int .i64 a ∧ a % (e.2.1 : Int) = e.2.2
omit [Tabs] in
theorem chF_mem : ∀ {ch : List (Nat × Nat × Nat)} {j m k : Nat}, chF ch j m = some k → (j, m, k) ∈ ch
  | [], j, m, k, h => by cases h
  | (j', m', k') :: r, j, m, k, h => by
    unfold chF at h
    split at h
    · rename_i h1
      split at h
      · rename_i h2
        cases h
        rw [Nat.eq_of_beq_eq_true h1, Nat.eq_of_beq_eq_true h2]; simp
      · exact List.mem_cons_of_mem _ (chF_mem h)
    · exact List.mem_cons_of_mem _ (chF_mem h)
def spWithin (ch : List (Nat × Nat × Nat)) (args : List AV) (t : HT) (n : Nat) (K : AV → HT → Nat → Bool) : Bool := match args with
  | [.sym j, .lit (.int .i64 (.ofNat (m + 1)))] => bA (Nat.ble m 1099511627776) (match chF ch j (m + 1) with | some k => K (I (.ofNat k)) t n | none => false)
  | _ => false
theorem spWithin_ok {ch : List (Nat × Nat × Nat)} (hch : ChOk ch) {f : FuncId}
    (hw : ∀ (a : Int) (m : Nat) (h : AHeap) (Q : AV → AHeap → Prop), m ≤ 1099511627776 → Q (I (a % ((m + 1 : Nat) : Int))) h → ACall P f [I a, I ((m + 1 : Nat) : Int)] h Q)
    {args : List AV} {t : HT} {n : Nat} {K : AV → HT → Nat → Bool} (hr : HR t n h) (k : spWithin ch args t n K = true) : ACall P f args h (KH K) := by
  unfold spWithin at k
  split at k
  · rename_i j m
    rw [bA_eq] at k
    obtain ⟨hm, k⟩ := k
    split at k
    · rename_i kk hc
      obtain ⟨a, ha, hk⟩ := hch _ (chF_mem hc)
      refine ACall.of_rep (args' := [I a, I ((m + 1 : Nat) : Int)]) (fun G vs r => ?_) (hw a m h _ (Nat.le_of_ble_eq_true hm) ?_)
      · obtain ⟨x, y, rfl, hx, hy⟩ := r.two
        simp only [Rep] at hx hy
        obtain ⟨rfl, _⟩ := hy
        subst hx
        simp only at ha
        rw [ha]
        simp [RepL, Rep, Value.oneCell']
      · simp only at hk
        rw [hk]; exact ⟨t, n, hr, k⟩
    · cases k
  · cases k
/-- A contract of one call without arguments, at the run's beginning. -/
def spFirst (g : FuncId) (N : Nat) (sp : SpecB) : SpecB := fun f args t n K => match Nat.beq f g with
  | true => (match args, n with | [], 0 => some (K (B true) .leaf N) | _, _ => none)
  | false => sp f args t n K
def kTrueN (N : Nat) (r : AV) (_ : HT) (n : Nat) : Bool := match r with | .lit (.bool true) => Nat.beq n N | _ => false
theorem spFirst_ok {g : FuncId} {N : Nat} {sp sp0 : SpecB} (hs : SpecOk P sp) (hs0 : SpecOk P sp0) {tb : TabB} (ht : TabOk tb) {d : Nat} (hg : runG P tb sp0 d g [] .leaf 0 (kTrueN N) = true) : SpecOk P (spFirst g N sp) := fun f args t n h K hr k => by
  unfold spFirst at k
  split at k
  · rename_i hf
    rw [Nat.eq_of_beq_eq_true hf]
    split at k
    · have k : K (B true) .leaf N = true := by simpa using k
      have hl : h = [] := List.length_eq_zero_iff.1 hr.len
      subst hl
      refine (runG_ok ht hs0 d g [] .leaf 0 [] (kTrueN N) (HR.none rfl) hg).mono fun r h' ⟨t', n', hr', k'⟩ => ?_
      unfold kTrueN at k'
      split at k'
      · have := Nat.eq_of_beq_eq_true k'
        subst this
        exact ⟨.leaf, n', HR.none hr'.len, k⟩
      · cases k'
    · cases k
  · exact hs f args t n h K hr k
end
end
end Go.Proofs.YtmocchnodigmlaaGreatDoor.AL
