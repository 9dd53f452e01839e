import Derived.Test.YtbhphjpgjgigpaaGreatDoorAA13toSC
import Derived.Test.YtbhphjpgjgigpaaGreatDoorAL32toAL34
import Derived.Test.YtbhphjpgjgigpaaGreatDoorTie
import Derived.Test.YtbhphjpgjgigpaaGreatDoorCards
import Derived.LaidMore
import Derived.Lay
import Derived.Stop.Joined
import Derived.JoinedOf
import Derived.Carry
import Derived.ChangeMaps5
set_option linter.all false
set_option autoImplicit true
set_option relaxedAutoImplicit true
set_option maxRecDepth 100000
set_option maxHeartbeats 0
namespace Go.Proofs.YtbhphjpgjgigpaaGreatDoor
open Go Go.Proofs.YtbhphjpgjgigpaaGreatDoor.AL Go.RowKit Go.ChangeShapes Go.WideShapes Go.ChangeAt
theorem own:ownKnob Tryz.prog.godebug=none:=by kernel_rfl
theorem Mc:laidOutB Tryz.prog=true:=by kernel_rfl
theorem Uf:mapsRowed Tryz.prog=true:=by kernel_rfl
abbrev theLaid:=Rows.asmNamesRow.laid
theorem A4:(theLaid.all fun x=>x.2.handleName?.isNone)=true:=by kernel_rfl
theorem FE (os:Os) (args:Array Value):laidMetH Tryz.prog theLaid ((World.laidAll Tryz.prog os theLaid).forCall (fun _ _=>0) ⟨#[],args,[]⟩).memory:=by
 rw[MakeChecks.laidMetH_plain _ _ _ A4];exact laidMet_laidAll _ (by kernel_rfl) (by kernel_rfl)
theorem Vd {a b:Bool}(ha:a=true) (hb:b=true):(a&&b)=true:=by rw[ha,hb];rfl
theorem Sc : ("strings.asciiSpace", Lib.tabData .u8 asc) ∈ theLaid := List.mem_of_getElem? (show theLaid[7]? = some ("strings.asciiSpace", Lib.tabData .u8 asc) by kernel_rfl)
theorem Ks (S:Syms) {W:World}(hL:laidMetH Tryz.prog theLaid W) (hs:W.ShapedOpen Tryz.prog):(Tu S).ok (fun b o=>W.cell? ⟨b,o,none⟩):=by
 rw[MakeChecks.laidMetH_plain _ _ _ A4]at hL
 refine⟨fun i hi=>Jk Sc (g:=0) (t:=145) (e:=5) (n:=256) (by kernel_rfl) (by kernel_rfl) (by kernel_rfl) (by kernel_rfl) (by kernel_rfl) (by kernel_rfl) hL i hi,?_⟩
 exact cell_of_shapedOpen_int (g:=3) (t:=3) (zero:=#[.int .i64 0]) hs (of_decide_eq_true (by kernel_rfl)) (by kernel_rfl) rfl (by kernel_rfl) (by kernel_rfl) Tryz.underlying3
end Go.Proofs.YtbhphjpgjgigpaaGreatDoor
