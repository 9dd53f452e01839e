import Derived.Test.YtgkmmcdhhkllnaaGreatDoorF9
import Derived.Test.YtgkmmcdhhkllnaaGreatDoorAL27toAL31
import Derived.Test.YtgkmmcdhhkllnaaGreatDoorItA5
import Derived.KernelRfl
set_option linter.all false
set_option autoImplicit true
set_option relaxedAutoImplicit true
set_option maxRecDepth 100000
namespace Go.Proofs.YtgkmmcdhhkllnaaGreatDoor.AL
noncomputable section
open Go.Proofs Go.RowKit Go.Shelf
def asc:List Int:=[0,0,0,0,0,0,0,0,0,1,1,1,1,1,0,0,0,0,0,0,0,0,0,0,0,0,0,0,0,0,0,0,1,0,0,0,0,0,0,0,0,0,0,0,0,0,0,0,0,0,0,0,0,0,0,0,0,0,0,0,0,0,0,0,0,0,0,0,0,0,0,0,0,0,0,0,0,0,0,0,0,0,0,0,0,0,0,0,0,0,0,0,0,0,0,0,0,0,0,0,0,0,0,0,0,0,0,0,0,0,0,0,0,0,0,0,0,0,0,0,0,0,0,0,0,0,0,0,0,0,0,0,0,0,0,0,0,0,0,0,0,0,0,0,0,0,0,0,0,0,0,0,0,0,0,0,0,0,0,0,0,0,0,0,0,0,0,0,0,0,0,0,0,0,0,0,0,0,0,0,0,0,0,0,0,0,0,0,0,0,0,0,0,0,0,0,0,0,0,0,0,0,0,0,0,0,0,0,0,0,0,0,0,0,0,0,0,0,0,0,0,0,0,0,0,0,0,0,0,0,0,0,0,0,0,0,0,0,0,0,0,0,0,0,0,0,0,0,0,0,0,0,0,0,0,0]
def adi:List AV:=asc.map fun z=>.lit (.int .u8 z)
def tb5:rk:=fun g=>match Nat.beq g 0 with|true=>some adi|false=>none
@[reducible] def abr (S:Syms):Tabs where
  toSyms:=S
  ok F:=(∀ i,i<asc.length→F 0 i=some (.int .u8 (asc.getD i 0)))∧∃ m,F 2 0=some (.int .i64 m)
  mono hF h:=⟨fun i hi=>hF _ _ _ (h.1 i hi),h.2.imp fun m hm=>hF _ _ _ hm⟩
  tab:=tb5
  tab_ok G g cs h e:=by
   unfold tb5 at e
   split at e
   ·rename_i hg
    cases e
    rw[Nat.eq_of_beq_eq_true hg]
    exact GV asc 0 fun i hi=>by rw[Nat.zero_add];exact h.1 i hi
   ·cases e
class Tabs5 extends Tabs where
 m0:∀ F,ok F→∃ m,F 2 0=some (.int .i64 m)
 tb:pv tb5
@[reducible] def ab7 (S:Syms):Tabs5 where
  toTabs:=abr S
  m0 F h:=And.right h
  tb g cs h:=h
section
variable [Tabs]
theorem TF:TH Pg 137 2:=⟨⟨_,Tryz.func137,by kernel_rfl,by kernel_rfl⟩,fun s sub m w hs hm=>Any.strings_Index Tryz.lays143 s sub m w hs hm⟩
