import Derived.Test.YtiddcelpooenfaaGreatDoorAL26
import Derived.Shelf.SlIter.Nil
import Derived.Test.YtiddcelpooenfaaGreatDoorAL18toAL19
import Derived.Shelf.Strings.Search3
import Derived.Shelf.Vars
import Derived.Lib.LaidTab
import Derived.Lib.LaidU8
import Derived.Lib.Space
set_option linter.all false
set_option autoImplicit true
set_option relaxedAutoImplicit true
set_option maxRecDepth 100000
namespace Go.Proofs.YtiddcelpooenfaaGreatDoor.AL
section
noncomputable section
open Go.RowKit Go.Maps Go.Sort Go.Shelf
open Go.Proofs (encStr)
variable [Tabs]
section
variable {P : Program} {G : Gh} {h : AHeap} {w w' : World}
end
section
omit [Tabs]
end
end
end
section
noncomputable section
open Go.RowKit Go.Maps Go.Sort Go.Shelf Go.WideElems Go.WideShapes
open Go.Proofs (encStr)
def bornUp (lo : Nat) (clock : Nat) : MEnts → Bool
  | [] => true
  | (_, b, _) :: es => bA (Nat.ble lo b) (bA (Nat.blt b clock) (bornUp (Nat.succ b) clock es))
variable [Tabs]
section
variable {P : Program}
end
end
end
section
noncomputable section
def oneAll (es : MEnts) : Bool := match es with
  | [] => true
  | e :: es => bA e.1.oneCell' (oneAll es)
structure Meets (h : AHeap) (j : Nat) (es : MEnts) (clock : Nat) : Prop where
  map : h[j]? = some (.amap es clock)
  born : bornUp 0 clock es = true
  one : oneAll es = true
theorem Meets.ne {h : AHeap} {j : Nat} {es : MEnts} {clock : Nat} (M : Meets h j es clock) : j < h.length := (List.getElem?_eq_some_iff.1 M.map).1
theorem Meets.at {h : AHeap} {j : Nat} {es : MEnts} {clock : Nat} (M : Meets h j es clock) (o : AObj) : (h ++ [o])[j]? = some (.amap es clock) := by
  rw [List.getElem?_append_left M.ne]; exact M.map
variable [Tabs]
end
end
section
noncomputable section
open Go.RowKit
section
variable {H : Type} {enc : TypeId × Value → H}
end
theorem tab_of_laid {P : Program} {W : World} {name : String} {k : IntKind} {zs : List Int} {l : List (String × DataW Unit)} {g : Nat} {t e : TypeId} {n : Nat}
    (hm : (name, Lib.tabData k zs) ∈ l) (hg : P.globalNamed name = some g) (hty : (P.globals[g]?).map (·.type) = some t) (ht : P.underlying t = some (.array n e)) (he : P.underlying e = some (.int k)) (hce : P.cellsOf e = 1) (hct : P.cellsOf t = n)
    (h : laidMet P l W) : ∀ i, i < zs.length → W.cell? ⟨g, i, none⟩ = some (.int k (zs.getD i 0)) := by
  obtain ⟨g', t', cs, fuel, p, hg', ht', hvar, hd⟩ := Lib.laidMet.reads h hm
  obtain rfl := Option.some.inj (hg.symm.trans hg')
  obtain rfl := Option.some.inj (hty.symm.trans ht')
  have tab : Lib.TabIs P W name k zs := by
    unfold Lib.TabIs
    rw [hvar, ← Lib.cells_of_tab ht he hce hct hd]
  exact fun i hi => tab.cell hg i hi
theorem repAt_ints [Syms] {G : Gh} {k : IntKind} {b : Nat} : ∀ (zs : List Int) (o : Nat), (∀ i, i < zs.length → G.F b (o + i) = some (.int k (zs.getD i 0))) → RepAt G (zs.map fun z => .lit (.int k z)) b o
  | [], o, h => by simp [RepAt]
  | z :: zs, o, h => by
    simp only [List.map_cons, RepAt]
    refine ⟨⟨_, h 0 (by simp), by simp [Rep, Value.oneCell']⟩, repAt_ints zs (o + 1) fun i hi => ?_⟩
    have := h (i + 1) (by simpa using hi)
    rw [show o + 1 + i = o + (i + 1) by omega, this]
    simp
def isPreL : List UInt8 → List UInt8 → Bool
  | [], _ => true
  | _ :: _, [] => false
  | a :: x, b :: y => bA (uEq a b) (isPreL x y)
def idxSub (sub : List UInt8) : List UInt8 → Nat → Int
  | [], i => @Bool.casesOn (fun _ => Int) (isPreL sub []) (.negSucc 0) (.ofNat i)
  | b :: l, i => @Bool.casesOn (fun _ => Int) (isPreL sub (b :: l)) (idxSub sub l (Nat.succ i)) (.ofNat i)
def spIndex (args : List AV) (t : HT) (n : Nat) (K : AV → HT → Nat → Bool) : Bool :=
  match args with
  | [.lit (.string s), .lit (.string sub)] => bA (Nat.ble s.data.toList.length 4294967280) (fI (idxSub sub.data.toList s.data.toList 0) fun r => K (I r) t n)
  | _ => false
theorem isPreL_eq : ∀ a b : List UInt8, isPreL a b = a.isPrefixOf b
  | [], _ => by simp [isPreL]
  | _ :: _, [] => by simp [isPreL]
  | a :: x, b :: y => by
    simp only [isPreL, List.isPrefixOf, uEq_eq, isPreL_eq x y]
    cases (a == b) <;> simp [bA]
theorem idxSub_eq (sub : List UInt8) : ∀ (l : List UInt8) (i : Nat), idxSub sub l i = if Lib.index l sub = -1 then -1 else Lib.index l sub + i
  | [], i => by
    show @Bool.casesOn (fun _ => Int) (isPreL sub []) (.negSucc 0) (.ofNat i) = _
    rw [isPreL_eq]
    cases sub <;> simp [Lib.index, List.isPrefixOf] <;> rfl
  | b :: l, i => by
    have ih := idxSub_eq sub l (i + 1)
    have hge := Lib.index_ge l sub
    have e1 : idxSub sub (b :: l) i = if sub.isPrefixOf (b :: l) = true then (i : Int) else idxSub sub l (i + 1) := by
      show @Bool.casesOn (fun _ => Int) (isPreL sub (b :: l)) (idxSub sub l (i + 1)) (.ofNat i) = _
      rw [isPreL_eq]
      cases hb : sub.isPrefixOf (b :: l) <;> rfl
    rw [e1, ih]
    simp only [Lib.index]
    by_cases hb : sub.isPrefixOf (b :: l) = true
    · simp [hb]
    · simp only [hb, if_false, Bool.false_eq_true]
      by_cases h1 : Lib.index l sub = -1
      · simp [h1]
      · rw [if_neg h1, if_neg (show ¬ (Lib.index l sub == -1) = true by simpa using h1)]
        rw [if_neg (by omega)]; omega
variable [Tabs]
def IndexIs (P : Program) (f : FuncId) (g : Nat) : Prop := HasBody P f ∧ ∀ (s sub : ByteArray) (m : Int) (w : World), s.size < 4294967281 → w.cell? ⟨g, 0, none⟩ = some (.int .i64 m) →
  Calls P f #[.string s, .string sub] w fun e w' => e = .returned (.int .i64 (Lib.index s.data.toList sub.data.toList)) ∧ w' = w
theorem spIndex_ok {P : Program} {f : FuncId} {g : Nat} (hI : IndexIs P f g) (hg : ∀ F, Tabs.ok F → ∃ m, F g 0 = some (.int .i64 m)) {args : List AV} {t : HT} {n : Nat} {h : AHeap} {K : AV → HT → Nat → Bool} (hr : HR t n h) (k : spIndex args t n K = true) : ACall P f args h (KH K) := by
  unfold spIndex at k
  split at k
  · rename_i s sub
    rw [bA_eq, fI_eq, idxSub_eq] at k
    obtain ⟨h1, k⟩ := k
    have h1 := Nat.le_of_ble_eq_true h1
    refine ⟨hI.1, fun G w vs si r => ?_⟩
    obtain ⟨x, y, hx, ha, hb⟩ := r.two
    simp only [Rep] at ha hb
    obtain ⟨rfl, _⟩ := ha
    obtain ⟨rfl, _⟩ := hb
    obtain ⟨m, hm⟩ := hg _ si.tab
    subst hx
    refine (hI.2 s sub m w (Nat.lt_of_le_of_lt (show s.size ≤ 4294967280 from h1) (by omega)) (si.frz _ _ _ hm)).mono fun e w' ⟨he, hw⟩ => ?_
    subst hw
    refine ⟨I (Lib.index s.data.toList sub.data.toList), _, h, G, he, by simp [Rep, Value.oneCell'], ⟨t, n, hr, ?_⟩, si, Evo.refl _ _ _⟩
    split at k
    · rename_i h1; rw [h1]; exact k
    · simpa using k
  · cases k
end
end
section
noncomputable section
@[reducible] def intSyms (l : List Int) : Syms := ⟨fun j => .int .i64 (l.getD j 0), fun _ => rfl⟩
variable [Tabs]
section
variable {P : Program} {G : Gh} {h : AHeap}
end
end
end
end Go.Proofs.YtiddcelpooenfaaGreatDoor.AL
