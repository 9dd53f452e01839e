import Derived.Test.YthigmipcadhnkaaGreatDoorAL26
import Derived.Shelf.SlIter.Nil
import Derived.Test.YthigmipcadhnkaaGreatDoorAL18toAL19
import Derived.Shelf.Strings.Search3
import Derived.Shelf.Vars
import Derived.Lib.LaidTab
import Derived.Lib.LaidU8
import Derived.Lib.Space
set_option linter.all false
set_option autoImplicit true
set_option relaxedAutoImplicit true
set_option maxRecDepth 100000
namespace Go.Proofs.YthigmipcadhnkaaGreatDoor.AL
section
noncomputable section
open Go.RowKit Go.Maps Go.Sort Go.Shelf
open Go.Proofs (encStr)
variable [Tabs]
section
variable {P : Program} {G : Gh} {h : AHeap} {w w' : World}
end
section
omit [Tabs]
end
end
end
section
noncomputable section
open Go.RowKit Go.Maps Go.Sort Go.Shelf Go.WideElems Go.WideShapes
open Go.Proofs (encStr)
def bornUp (lo : Nat) (clock : Nat) : MEnts → Bool
  | [] => true
  | (_, b, _) :: es => bA (Nat.ble lo b) (bA (Nat.blt b clock) (bornUp (Nat.succ b) clock es))
variable [Tabs]
section
variable {P : Program}
end
end
end
section
noncomputable section
def oneAll (es : MEnts) : Bool := match es with
  | [] => true
  | e :: es => bA e.1.oneCell' (oneAll es)
structure Meets (h : AHeap) (j : Nat) (es : MEnts) (clock : Nat) : Prop where
  map : h[j]? = some (.amap es clock)
  born : bornUp 0 clock es = true
  one : oneAll es = true
theorem Meets.ne {h : AHeap} {j : Nat} {es : MEnts} {clock : Nat} (M : Meets h j es clock) : j < h.length := (List.getElem?_eq_some_iff.1 M.map).1
theorem Meets.at {h : AHeap} {j : Nat} {es : MEnts} {clock : Nat} (M : Meets h j es clock) (o : AObj) : (h ++ [o])[j]? = some (.amap es clock) := by
  rw [List.getElem?_append_left M.ne]; exact M.map
variable [Tabs]
end
end
section
noncomputable section
open Go.RowKit
section
variable {H : Type} {enc : TypeId × Value → H}
theorem returns_shaped_and {a : Assume} {C : Checked} {os : Os} {f : FuncId} {fn : Func} {s : ChangeSpec} {conds : List PathCond} {apart fresh handsOn again : Bool} {X : World → Array Value → Prop}
    (hX : ∀ (w w' : World) (args : Array Value), w.heap = w'.heap → X w args → X w' args)
    (own : ownKnob C.prog.godebug = none) (started : os.Started) (noInit : C.prog.inits.idxOf? f = none) (hfn : C.prog.funcs[f]? = some fn)
    (witness : ∃ (w : World) (tape : Tape) (i : Input), w.os = os ∧ (w.forCall tape i).Shaped C.prog ∧ i.vars = [] ∧ Input.okWide C.prog (w.forCall tape i) .any w.heap.size f i ∧
      ((s.pre enc C.prog fn conds apart (w.forCall tape i).memory i.args ∧ X (w.forCall tape i).memory i.args) ∧ sizedMet enc C.prog fn (OpenSpec.ofChange s) apart (w.forCall tape i).memory i.args) ∧ a.holds C.prog (lone (Frame.enter C.prog f i.args .normal) [] (w.forCall tape i)))
    (contract : ∀ (W : World) (base : Nat) (args : Array Value) (ds gs : List (DataW H)) (before : List MemPlace),
      (∀ (j : Nat) t v, fn.params[j]? = some t → args[j]? = some v → Value.okWide C.prog W .any base t v) →
      DataW.Whole enc C.prog fn.params.toList s.vars apart W args.toList ds gs before → X W args → W.ShapedOpen C.prog →
      Calls C.prog f args W fun e W' => ∃ v, e = .returned v ∧ s.post enc C.prog fn apart fresh handsOn again W args v W') :
    ReturnsInHanded a C os f .any (fun w args => (s.pre enc C.prog fn conds apart w args ∧ X w args) ∧ sizedMet enc C.prog fn (OpenSpec.ofChange s) apart w args) (s.post enc C.prog fn apart fresh handsOn again) := by
  refine returnsInHanded_of_calls own started noInit witness ?_
  intro w tape i _ hsh _ hok hpre hholds
  obtain ⟨_, _, _, fn', hfn', _, _, _, _, hval⟩ := hok
  have e : fn' = fn := Option.some.inj (hfn'.symm.trans hfn)
  subst e
  obtain ⟨⟨⟨ds, gs, before, hw, hc⟩, hx⟩, hz⟩ := hpre
  have hw' := DataW.Whole.of_heap (w' := w.forCall tape i) (by rfl) hw
  refine (contract (w.forCall tape i) w.heap.size i.args ds gs before hval hw' (hX _ _ _ (by rfl) hx) hsh).mono fun e W' ⟨v, he, hp⟩ => ?_
  subst he
  exact ChangeSpec.post_blind hp
end
theorem tab_of_laid {P : Program} {W : World} {name : String} {k : IntKind} {zs : List Int} {l : List (String × DataW Unit)} {g : Nat} {t e : TypeId} {n : Nat}
    (hm : (name, Lib.tabData k zs) ∈ l) (hg : P.globalNamed name = some g) (hty : (P.globals[g]?).map (·.type) = some t) (ht : P.underlying t = some (.array n e)) (he : P.underlying e = some (.int k)) (hce : P.cellsOf e = 1) (hct : P.cellsOf t = n)
    (h : laidMet P l W) : ∀ i, i < zs.length → W.cell? ⟨g, i, none⟩ = some (.int k (zs.getD i 0)) := by
  obtain ⟨g', t', cs, fuel, p, hg', ht', hvar, hd⟩ := Lib.laidMet.reads h hm
  obtain rfl := Option.some.inj (hg.symm.trans hg')
  obtain rfl := Option.some.inj (hty.symm.trans ht')
  have tab : Lib.TabIs P W name k zs := by
    unfold Lib.TabIs
    rw [hvar, ← Lib.cells_of_tab ht he hce hct hd]
  exact fun i hi => tab.cell hg i hi
theorem repAt_ints [Syms] {G : Gh} {k : IntKind} {b : Nat} : ∀ (zs : List Int) (o : Nat), (∀ i, i < zs.length → G.F b (o + i) = some (.int k (zs.getD i 0))) → RepAt G (zs.map fun z => .lit (.int k z)) b o
  | [], o, h => by simp [RepAt]
  | z :: zs, o, h => by
    simp only [List.map_cons, RepAt]
    refine ⟨⟨_, h 0 (by simp), by simp [Rep, Value.oneCell']⟩, repAt_ints zs (o + 1) fun i hi => ?_⟩
    have := h (i + 1) (by simpa using hi)
    rw [show o + 1 + i = o + (i + 1) by omega, this]
    simp
variable [Tabs]
def IndexIs (P : Program) (f : FuncId) (g : Nat) : Prop := HasBody P f ∧ ∀ (s sub : ByteArray) (m : Int) (w : World), s.size < 4294967281 → w.cell? ⟨g, 0, none⟩ = some (.int .i64 m) →
  Calls P f #[.string s, .string sub] w fun e w' => e = .returned (.int .i64 (Lib.index s.data.toList sub.data.toList)) ∧ w' = w
end
end
section
noncomputable section
@[reducible] def intSyms (l : List Int) : Syms := ⟨fun j => .int .i64 (l.getD j 0), fun _ => rfl⟩
variable [Tabs]
section
variable {P : Program} {G : Gh} {h : AHeap}
end
end
end
end Go.Proofs.YthigmipcadhnkaaGreatDoor.AL
