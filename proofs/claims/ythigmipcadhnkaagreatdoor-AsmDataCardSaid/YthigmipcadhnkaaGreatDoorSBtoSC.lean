import Derived.Test.YthigmipcadhnkaaGreatDoorAA11toAA16
import Derived.Test.YthigmipcadhnkaaGreatDoorAL27toAL31
import Derived.Test.YthigmipcadhnkaaGreatDoorItA5
import Derived.KernelRfl
set_option linter.all false
set_option autoImplicit true
set_option relaxedAutoImplicit true
set_option maxRecDepth 100000
namespace Go.Proofs.YthigmipcadhnkaaGreatDoor.AL
section
noncomputable section
open Go.Proofs Go.RowKit Go.Shelf
def asc : List Int := [0, 0, 0, 0, 0, 0, 0, 0, 0, 1, 1, 1, 1, 1, 0, 0, 0, 0, 0, 0, 0, 0, 0, 0, 0, 0, 0, 0, 0, 0, 0, 0, 1, 0, 0, 0, 0, 0, 0, 0, 0, 0, 0, 0, 0, 0, 0, 0, 0, 0, 0, 0, 0, 0, 0, 0, 0, 0, 0, 0, 0, 0, 0, 0, 0, 0, 0, 0, 0, 0, 0, 0, 0, 0, 0, 0, 0, 0, 0, 0, 0, 0, 0, 0, 0, 0, 0, 0, 0, 0, 0, 0, 0, 0, 0, 0, 0, 0, 0, 0, 0, 0, 0, 0, 0, 0, 0, 0, 0, 0, 0, 0, 0, 0, 0, 0, 0, 0, 0, 0, 0, 0, 0, 0, 0, 0, 0, 0, 0, 0, 0, 0, 0, 0, 0, 0, 0, 0, 0, 0, 0, 0, 0, 0, 0, 0, 0, 0, 0, 0, 0, 0, 0, 0, 0, 0, 0, 0, 0, 0, 0, 0, 0, 0, 0, 0, 0, 0, 0, 0, 0, 0, 0, 0, 0, 0, 0, 0, 0, 0, 0, 0, 0, 0, 0, 0, 0, 0, 0, 0, 0, 0, 0, 0, 0, 0, 0, 0, 0, 0, 0, 0, 0, 0, 0, 0, 0, 0, 0, 0, 0, 0, 0, 0, 0, 0, 0, 0, 0, 0, 0, 0, 0, 0, 0, 0, 0, 0, 0, 0, 0, 0, 0, 0, 0, 0, 0, 0, 0, 0, 0, 0, 0, 0, 0, 0, 0, 0, 0, 0, 0, 0, 0, 0, 0, 0]
def ascA : List AV := asc.map fun z => .lit (.int .u8 z)
def tb5 : TabB := fun g => match Nat.beq g 1 with | true => some ascA | false => none
@[reducible] def tabs5 (S : Syms) : Tabs where
  toSyms := S
  ok F := (∀ i, i < asc.length → F 1 i = some (.int .u8 (asc.getD i 0))) ∧ ∃ m, F 0 0 = some (.int .i64 m)
  mono hF h := ⟨fun i hi => hF _ _ _ (h.1 i hi), h.2.imp fun m hm => hF _ _ _ hm⟩
  tab := tb5
  tab_ok G g cs h e := by
    unfold tb5 at e
    split at e
    · rename_i hg
      cases e
      rw [Nat.eq_of_beq_eq_true hg]
      exact repAt_ints asc 0 fun i hi => by rw [Nat.zero_add]; exact h.1 i hi
    · cases e
class Tabs5 extends Tabs where
  m0 : ∀ F, ok F → ∃ m, F 0 0 = some (.int .i64 m)
  tb : TabOk tb5
@[reducible] def tabs5' (S : Syms) : Tabs5 where
  toTabs := tabs5 S
  m0 F h := And.right h
  tb g cs h := h
section
variable [Tabs]
theorem indexIs : IndexIs Pg 158 0 := ⟨⟨_, Tryz.func158, by kernel_rfl, by kernel_rfl⟩, fun s sub m w hs hm => Any.strings_Index Tryz.lays143 s sub m w hs hm⟩
end
end
end
section
noncomputable section
abbrev spNo : SpecB := fun _ _ _ _ _ => none
section
theorem fields_run [Tabs] : (kindsL.all fun p => runG Pg tb5 spNo 100 fn_strings_Fields [T p.1] .leaf 0 fun r t _ => chkR (.snap p.2.length (p.2.flatMap fun x => [T x])) r t) = true := by kernel_rfl
theorem ldexp_run [Tabs] : ([8, 15, 19, 24].all fun b : Nat => runG Pg tb5 spNo 100 fn_math_Ldexp [.lit (.float .f64 4607182418800017408), I (b : Nat)] .leaf 0 fun r t _ => chkR (.lit (.float .f64 (FloatKind.f64.nearest (2 ^ b : Nat)))) r t) = true := by kernel_rfl
def digs : List UInt8 := [48, 49, 50, 51, 52, 53, 54, 55, 56, 57]
def twoDigs : List Str := (digs.map fun a => [a]) ++ digs.flatMap fun a => digs.map fun b => [a, b]
theorem atoi_run [Tabs] : (twoDigs.all fun s => runG Pg tb5 spNo 100 fn_strconv_Atoi [T s] .leaf 0 fun r t _ => chkR (.tup [I (s.foldl (fun n c => n * 10 + (c.toNat - 48)) 0 : Nat), .lit .nilIface]) r t) = true := by kernel_rfl
theorem mem_digs {c : UInt8} (h : bDigit c = true) : c ∈ digs := by
  unfold bDigit pDigit at h
  simp only [Bool.and_eq_true, decide_eq_true_eq] at h
  have : ∀ n, 48 ≤ n → n ≤ 57 → UInt8.ofNat n ∈ digs := by
    intro n h1 h2
    have : n = 48 ∨ n = 49 ∨ n = 50 ∨ n = 51 ∨ n = 52 ∨ n = 53 ∨ n = 54 ∨ n = 55 ∨ n = 56 ∨ n = 57 := by omega
    rcases this with h | h | h | h | h | h | h | h | h | h <;> subst h <;> decide
  have h3 := this c.toNat h.1 h.2
  rwa [UInt8.ofNat_toNat] at h3
theorem mem_two {s : Str} (h1 : 1 ≤ s.length) (h2 : s.length ≤ 2) (h : s.all bDigit = true) : s ∈ twoDigs := by
  match s with
  | [] => simp at h1
  | [a] =>
    simp only [List.all_cons, List.all_nil, Bool.and_true] at h
    exact List.mem_append_left _ (List.mem_map.2 ⟨a, mem_digs h, rfl⟩)
  | [a, b] =>
    simp only [List.all_cons, List.all_nil, Bool.and_true, Bool.and_eq_true] at h
    exact List.mem_append_right _ (List.mem_flatMap.2 ⟨a, mem_digs h.1, List.mem_map.2 ⟨b, mem_digs h.2, rfl⟩⟩)
  | a :: b :: c :: r => simp at h2
variable [Tabs5]
theorem fieldsOk : FieldsOk := fun p hp h Q q => closed_call Tabs5.tb spNone_ok (d := 100) (.snap p.2.length (p.2.flatMap fun x => [T x])) rfl (by
  have : ∀ l : List Str, clL (l.flatMap fun x => [T x]) = true := fun l => by
    induction l with
    | nil => rfl
    | cons a l ih => show (cl (T a) && clL (l.flatMap fun x => [T x])) = true; rw [ih]; rfl
  exact this _) (List.all_eq_true.1 fields_run p hp) q
theorem ldexpOk : LdexpOk := fun b hb h Q q => closed_call Tabs5.tb spNone_ok (d := 100) (.lit (.float .f64 (FloatKind.f64.nearest (2 ^ b : Nat)))) rfl rfl (List.all_eq_true.1 ldexp_run b hb) q
theorem atoiOk : AtoiOk := fun s h1 h2 h3 h Q q => closed_call Tabs5.tb spNone_ok (d := 100) _ rfl rfl (List.all_eq_true.1 atoi_run s (mem_two h1 h2 h3)) q
theorem indexOk : IndexOk := fun s sub h Q hs q => by
  have hI := indexIs
  refine ⟨hI.1, fun G w vs si r => ?_⟩
  obtain ⟨x, y, hx, ha, hb⟩ := r.two
  simp only [Rep] at ha hb
  obtain ⟨rfl, _⟩ := ha
  obtain ⟨rfl, _⟩ := hb
  obtain ⟨m, hm⟩ := Tabs5.m0 _ si.tab
  subst hx
  refine (hI.2 ⟨⟨s⟩⟩ ⟨⟨sub⟩⟩ m w hs (si.frz _ _ _ hm)).mono fun e w' ⟨he, hw⟩ => ?_
  subst hw
  exact ⟨I (Lib.index s sub), _, h, G, he, by simp [Rep, Value.oneCell'], q, si, Evo.refl _ _ _⟩
end
end
end
end Go.Proofs.YthigmipcadhnkaaGreatDoor.AL
