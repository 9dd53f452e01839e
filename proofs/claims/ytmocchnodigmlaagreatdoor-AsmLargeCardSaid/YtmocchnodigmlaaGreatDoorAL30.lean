import Derived.Test.YtmocchnodigmlaaGreatDoorAL29
import Derived.Test.YtmocchnodigmlaaGreatDoorAL19
import Derived.Shelf.Strings.Search3
import Derived.Shelf.Vars
import Derived.Lib.LaidTab
import Derived.Lib.LaidU8
import Derived.Lib.Space
set_option linter.all false
set_option autoImplicit true
set_option relaxedAutoImplicit true
set_option linter.unusedVariables false
set_option linter.unusedSimpArgs false
/-! Tables that a row lists; strings.Index; the wrap of a row whose contract asks for both. -/
namespace Go.Proofs.YtmocchnodigmlaaGreatDoor.AL
noncomputable section
open Go.RowKit
section
variable {H : Type} {enc : TypeId × Value → H}
theorem returns_shaped_and {a : Assume} {C : Checked} {os : Os} {f : FuncId} {fn : Func} {s : ChangeSpec} {conds : List PathCond} {apart fresh handsOn again : Bool} {X : World → Array Value → Prop}
    (hX : ∀ (w w' : World) (args : Array Value), w.heap = w'.heap → X w args → X w' args)
    (own : ownKnob C.prog.godebug = none) (started : os.Started) (noInit : C.prog.inits.idxOf? f = none) (hfn : C.prog.funcs[f]? = some fn)
    (witness : ∃ (w : World) (tape : Tape) (i : Input), w.os = os ∧ (w.forCall tape i).Shaped C.prog ∧ i.vars = [] ∧ Input.okWide C.prog (w.forCall tape i) .any w.heap.size f i ∧
      ((s.pre enc C.prog fn conds apart (w.forCall tape i).memory i.args ∧ X (w.forCall tape i).memory i.args) ∧ sizedMet enc C.prog fn (OpenSpec.ofChange s) apart (w.forCall tape i).memory i.args) ∧ a.holds C.prog (lone (Frame.enter C.prog f i.args .normal) [] (w.forCall tape i)))
    (contract : ∀ (W : World) (base : Nat) (args : Array Value) (ds gs : List (DataW H)) (before : List MemPlace),
      (∀ (j : Nat) t v, fn.params[j]? = some t → args[j]? = some v → Value.okWide C.prog W .any base t v) →
      DataW.Whole enc C.prog fn.params.toList s.vars apart W args.toList ds gs before → X W args → W.ShapedOpen C.prog →
      Calls C.prog f args W fun e W' => ∃ v, e = .returned v ∧ s.post enc C.prog fn apart fresh handsOn again W args v W') :
    ReturnsInHanded a C os f .any (fun w args => (s.pre enc C.prog fn conds apart w args ∧ X w args) ∧ sizedMet enc C.prog fn (OpenSpec.ofChange s) apart w args) (s.post enc C.prog fn apart fresh handsOn again) := by
  refine returnsInHanded_of_calls own started noInit witness ?_
  intro w tape i _ hsh _ hok hpre hholds
  obtain ⟨_, _, _, fn', hfn', _, _, _, _, hval⟩ := hok
  have e : fn' = fn := Option.some.inj (hfn'.symm.trans hfn)
  subst e
  obtain ⟨⟨⟨ds, gs, before, hw, hc⟩, hx⟩, hz⟩ := hpre
  have hw' := DataW.Whole.of_heap (w' := w.forCall tape i) (by rfl) hw
  refine (contract (w.forCall tape i) w.heap.size i.args ds gs before hval hw' (hX _ _ _ (by rfl) hx) hsh).mono fun e W' ⟨v, he, hp⟩ => ?_
  subst he
  exact ChangeSpec.post_blind hp
end
/-- What a listed table's cells hold. -/
theorem tab_of_laid {P : Program} {W : World} {name : String} {k : IntKind} {zs : List Int} {l : List (String × DataW Unit)} {g : Nat} {t e : TypeId} {n : Nat}
    (hm : (name, Lib.tabData k zs) ∈ l) (hg : P.globalNamed name = some g) (hty : (P.globals[g]?).map (·.type) = some t) (ht : P.underlying t = some (.array n e)) (he : P.underlying e = some (.int k)) (hce : P.cellsOf e = 1) (hct : P.cellsOf t = n)
    (h : laidMet P l W) : ∀ i, i < zs.length → W.cell? ⟨g, i, none⟩ = some (.int k (zs.getD i 0)) := by
  obtain ⟨g', t', cs, fuel, p, hg', ht', hvar, hd⟩ := Lib.laidMet.reads h hm
  obtain rfl := Option.some.inj (hg.symm.trans hg')
  obtain rfl := Option.some.inj (hty.symm.trans ht')
  have tab : Lib.TabIs P W name k zs := by
    unfold Lib.TabIs
    rw [hvar, ← Lib.cells_of_tab ht he hce hct hd]
  exact fun i hi => tab.cell hg i hi
theorem repAt_ints [Syms] {G : Gh} {k : IntKind} {b : Nat} : ∀ (zs : List Int) (o : Nat), (∀ i, i < zs.length → G.F b (o + i) = some (.int k (zs.getD i 0))) → RepAt G (zs.map fun z => .lit (.int k z)) b o
  | [], o, h => by simp [RepAt]
  | z :: zs, o, h => by
    simp only [List.map_cons, RepAt]
    refine ⟨⟨_, h 0 (by simp), by simp [Rep, Value.oneCell']⟩, repAt_ints zs (o + 1) fun i hi => ?_⟩
    have := h (i + 1) (by simpa using hi)
    rw [show o + 1 + i = o + (i + 1) by omega, this]
    simp
/-! ### strings.Index -/
def isPreL : List UInt8 → List UInt8 → Bool
  | [], _ => true
  | _ :: _, [] => false
  | a :: x, b :: y => bA (uEq a b) (isPreL x y)
def idxSub (sub : List UInt8) : List UInt8 → Nat → Int
  | [], i => @Bool.casesOn (fun _ => Int) (isPreL sub []) (.negSucc 0) (.ofNat i)
  | b :: l, i => @Bool.casesOn (fun _ => Int) (isPreL sub (b :: l)) (idxSub sub l (Nat.succ i)) (.ofNat i)
def spIndex (args : List AV) (t : HT) (n : Nat) (K : AV → HT → Nat → Bool) : Bool :=
  match args with
  | [.lit (.string s), .lit (.string sub)] => bA (Nat.ble s.data.toList.length 4294967280) (fI (idxSub sub.data.toList s.data.toList 0) fun r => K (I r) t n)
  | _ => false
theorem isPreL_eq : ∀ a b : List UInt8, isPreL a b = a.isPrefixOf b
  | [], _ => by simp [isPreL]
  | _ :: _, [] => by simp [isPreL]
  | a :: x, b :: y => by
    simp only [isPreL, List.isPrefixOf, uEq_eq, isPreL_eq x y]
    cases (a == b) <;> simp [bA]
theorem idxSub_eq (sub : List UInt8) : ∀ (l : List UInt8) (i : Nat), idxSub sub l i = if Lib.index l sub = -1 then -1 else Lib.index l sub + i
  | [], i => by
    show @Bool.casesOn (fun _ => Int) (isPreL sub []) (.negSucc 0) (.ofNat i) = _
    rw [isPreL_eq]
    cases sub <;> simp [Lib.index, List.isPrefixOf] <;> rfl
  | b :: l, i => by
    have ih := idxSub_eq sub l (i + 1)
    have hge := Lib.index_ge l sub
    have e1 : idxSub sub (b :: l) i = if sub.isPrefixOf (b :: l) = true then (i : Int) else idxSub sub l (i + 1) := by
      show @Bool.casesOn (fun _ => Int) (isPreL sub (b :: l)) (idxSub sub l (i + 1)) (.ofNat i) = _
      rw [isPreL_eq]
      cases hb : sub.isPrefixOf (b :: l) <;> rfl
    rw [e1, ih]
    simp only [Lib.index]
    by_cases hb : sub.isPrefixOf (b :: l) = true
    · simp [hb]
    · simp only [hb, if_false, Bool.false_eq_true]
      by_cases h1 : Lib.index l sub = -1
      · simp [h1]
      · rw [if_neg h1, if_neg (show ¬ (Lib.index l sub == -1) = true by simpa using h1)]
        rw [if_neg (by omega)]; omega
variable [Tabs]
/-- strings.Index, as a library's contract has it; 'g': the variable that it looks at. -/
def IndexIs (P : Program) (f : FuncId) (g : Nat) : Prop := HasBody P f ∧ ∀ (s sub : ByteArray) (m : Int) (w : World), s.size < 4294967281 → w.cell? ⟨g, 0, none⟩ = some (.int .i64 m) →
  Calls P f #[.string s, .string sub] w fun e w' => e = .returned (.int .i64 (Lib.index s.data.toList sub.data.toList)) ∧ w' = w
theorem spIndex_ok {P : Program} {f : FuncId} {g : Nat} (hI : IndexIs P f g) (hg : ∀ F, Tabs.ok F → ∃ m, F g 0 = some (.int .i64 m)) {args : List AV} {t : HT} {n : Nat} {h : AHeap} {K : AV → HT → Nat → Bool} (hr : HR t n h) (k : spIndex args t n K = true) : ACall P f args h (KH K) := by
  unfold spIndex at k
  split at k
  · rename_i s sub
    rw [bA_eq, fI_eq, idxSub_eq] at k
    obtain ⟨h1, k⟩ := k
    have h1 := Nat.le_of_ble_eq_true h1
    refine ⟨hI.1, fun G w vs si r => ?_⟩
    obtain ⟨x, y, hx, ha, hb⟩ := r.two
    simp only [Rep] at ha hb
    obtain ⟨rfl, _⟩ := ha
    obtain ⟨rfl, _⟩ := hb
    obtain ⟨m, hm⟩ := hg _ si.tab
    subst hx
    refine (hI.2 s sub m w (Nat.lt_of_le_of_lt (show s.size ≤ 4294967280 from h1) (by omega)) (si.frz _ _ _ hm)).mono fun e w' ⟨he, hw⟩ => ?_
    subst hw
    refine ⟨I (Lib.index s.data.toList sub.data.toList), _, h, G, he, by simp [Rep, Value.oneCell'], ⟨t, n, hr, ?_⟩, si, Evo.refl _ _ _⟩
    split at k
    · rename_i h1; rw [h1]; exact k
    · simpa using k
  · cases k
end
end Go.Proofs.YtmocchnodigmlaaGreatDoor.AL
