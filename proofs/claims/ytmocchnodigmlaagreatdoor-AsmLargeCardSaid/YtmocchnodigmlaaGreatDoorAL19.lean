import Derived.Test.YtmocchnodigmlaaGreatDoorAL18
import Derived.WalkKit
import Derived.ProofKit
import Derived.OpenShut
import Derived.Carry
set_option linter.all false
set_option autoImplicit true
set_option relaxedAutoImplicit true
set_option linter.unusedVariables false
/-! From a contract to the row. -/
namespace Go.Proofs.YtmocchnodigmlaaGreatDoor.AL
open Go.RowKit Go.ChangeShapes
variable [Tabs]
section
variable {P : Program}

/-- When the call begins: nobody will write what lies there. -/
def G0 (W : World) : Gh := { loc := fun _ => none, cap := fun _ => 0, F := fun b o => W.cell? ⟨b, o, none⟩ }
theorem sim0 {W : World} (ht : Tabs.ok (fun b o => W.cell? ⟨b, o, none⟩)) : Sim (G0 W) [] W where
  obj := fun i o h => by simp at h
  dom := fun i p h => by simp [G0] at h
  apart := fun i j oi oj p q h => by simp at h
  frz := fun b o v h => h
  sep := fun i o p h => by simp at h
  tab := ht
theorem below_of_evo {W w' : World} {G G' : Gh} {h' : AHeap} (ev : Evo G [] W G' h' w') : Below W.heap.size W w' :=
  ⟨ev.os, ev.tape, ev.output, ev.size, fun k hk => ev.frame k hk fun ⟨i, o, p, h, _⟩ => by simp at h⟩
theorem calls_true {f : FuncId} {args : List AV} {vs : List Value} {W : World} (ht : Tabs.ok (fun b o => W.cell? ⟨b, o, none⟩)) (hr : RepL (G0 W) args vs) (c : ACall P f args [] fun r h' => r = B true) :
    Calls P f vs.toArray W fun e w' => e = .returned (.bool true) ∧ Below W.heap.size W w' :=
  (c.calls (G0 W) W vs (sim0 ht) hr).mono fun e w' ⟨r, v, h', G', he, hv, hq, s, ev⟩ => by
    subst hq
    simp only [Rep] at hv
    obtain ⟨rfl, _⟩ := hv
    exact ⟨he, below_of_evo ev⟩

theorem trodAll_below {H : Type} {enc : TypeId × Value → H} (hl : laidOutB P = true) {W W' : World} (hb : Below W.heap.size W W') : ∀ {ts : List TypeId} {vs : List Value} {ds : List (DataW H)} {ps : List MemPlace}, (∀ t ∈ ts, P.readableRec t = true ∧ t < P.types.size) →
    DataW.TrodAll enc P W 0 (fun _ => true) true ts vs ds ps → (∀ x ∈ ps, x.block < W.heap.size) → DataW.TrodAll enc P W' 0 (fun b => decide (b < W.heap.size)) true ts vs ds ps
  | [], vs, ds, ps, _, h, _ => by
    obtain ⟨rfl, rfl, rfl⟩ := trodAll_nil h
    exact trodAll_mk0
  | t :: ts, vs, ds, ps, hr, h, hlt => by
    obtain ⟨v, vs', d, ds', p, q, rfl, rfl, rfl, h1, h2⟩ := trodAll_cons h
    exact trodAll_cons_mk (RowKit.Below.trod hl (hr t (by simp)).1 (hr t (by simp)).2 h1 hb fun x hx => hlt x (by simp [hx])) (trodAll_below hl hb (fun u hu => hr u (by simp [hu])) h2 fun x hx => hlt x (by simp [hx]))

/-- A law's end: it has said true, and nothing that was there has turned. -/
theorem post_true {H : Type} {enc : TypeId × Value → H} {f : Func} {s : ChangeSpec} {fresh : Bool} {W W' : World} {args : Array Value} {ds gs : List (DataW H)} {before : List MemPlace} {t : TypeId} (hl : laidOutB P = true)
    (hrd : ∀ t ∈ f.params.toList, P.readableRec t = true ∧ t < P.types.size) (hs : s.vars = []) (hrt : f.resultTypes = #[t]) (ht : P.underlying t = some .bool)
    (hW : DataW.Whole enc P f.params.toList s.vars false W args.toList ds gs before) (hres : (s.fn H (ds ++ gs)).results = [.lit (.bool true)]) (hargs : (s.fn H (ds ++ gs)).args = ds) (hvars : (s.fn H (ds ++ gs)).vars = []) (hb : Below W.heap.size W W') :
    s.post enc P f false fresh false false W args (.bool true) W' := by
  have hlt := hW.lt
  obtain ⟨p, q, hA, hV, hpq, hfz, hn⟩ := id hW
  rw [hs] at hV
  obtain ⟨rfl, rfl⟩ := trodVars_none hV
  simp only [List.append_nil] at hpq
  subst hpq
  refine ⟨ds, [], before, [], before, [], hW, ?_, ?_, ?_, hb.frame _, fun h => by cases h⟩
  · rw [hres, hrt]
    exact trodAll_mk1 (shut_bool ht true)
  · rw [hargs]
    exact trodAll_below hl hb hrd hA hlt
  · rw [hvars, hs]; rfl
end
end Go.Proofs.YtmocchnodigmlaaGreatDoor.AL
