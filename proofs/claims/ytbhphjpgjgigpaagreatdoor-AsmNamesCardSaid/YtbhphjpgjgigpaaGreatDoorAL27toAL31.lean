import Derived.Test.YtbhphjpgjgigpaaGreatDoorAL24toAL26
import Derived.Shelf.SlIter.Nil
import Derived.Test.YtbhphjpgjgigpaaGreatDoorAL13toAL19
import Derived.Shelf.Strings.Search3
import Derived.Shelf.Vars
import Derived.Lib.LaidTab
import Derived.Lib.LaidU8
import Derived.Lib.Space
set_option linter.all false
set_option autoImplicit true
set_option relaxedAutoImplicit true
set_option maxRecDepth 100000
namespace Go.Proofs.YtbhphjpgjgigpaaGreatDoor.AL
noncomputable section
section
open Go.RowKit Go.Maps Go.Sort Go.Shelf
open Go.Proofs (encStr)
variable [Tabs]
section
variable {P:Program}{G:Gh}{h:ab}{w w':World}
end
section
omit [Tabs]
end
end
section
open Go.RowKit Go.Maps Go.Sort Go.Shelf Go.WideElems Go.WideShapes
open Go.Proofs (encStr)
def QK (lo:Nat) (clock:Nat):ft→Bool
 | []=>true
 | (_,b,_)::es=>bA (Nat.ble lo b) (bA (Nat.blt b clock) (QK (Nat.succ b) clock es))
variable [Tabs]
section
variable {P:Program}
end
end
section
def QH (es:ft):Bool:=match es with
 | []=>true
 | e::es=>bA e.1.oneCell' (QH es)
structure Meets (h:ab) (j:Nat) (es:ft) (clock:Nat):Prop where
 map:h[j]?=some (.amap es clock)
 born:QK 0 clock es=true
 one:QH es=true
theorem Meets.ne {h:ab}{j:Nat}{es:ft}{clock:Nat}(M:Meets h j es clock):j<h.length:=(List.getElem?_eq_some_iff.1 M.map).1
theorem Meets.at {h:ab}{j:Nat}{es:ft}{clock:Nat}(M:Meets h j es clock) (o:AObj):(h++[o])[j]?=some (.amap es clock):=by
 rw[List.getElem?_append_left M.ne];exact M.map
variable [Tabs]
end
section
open Go.RowKit
section
variable {H:Type}{enc:TypeId×Value→H}
end
theorem Jk {P:Program}{W:World}{name:String}{k:IntKind}{zs:List Int}{l:List (String×DataW Unit)}{g:Nat}{t e:TypeId}{n:Nat}
  (hm:(name,Lib.tabData k zs)∈l) (hg:P.globalNamed name=some g) (hty:(P.globals[g]?).map (·.type)=some t) (ht:P.underlying t=some (.array n e)) (he:P.underlying e=some (.int k)) (hce:P.cellsOf e=1) (hct:P.cellsOf t=n)
  (h:laidMet P l W):∀ i,i<zs.length→W.cell? ⟨g,i,none⟩=some (.int k (zs.getD i 0)):=by
 obtain⟨g',t',cs,fuel,p,hg',ht',hvar,hd⟩:=Lib.laidMet.reads h hm
 obtain rfl:=Option.some.inj (hg.symm.trans hg')
 obtain rfl:=Option.some.inj (hty.symm.trans ht')
 have tab:Lib.TabIs P W name k zs:=by
  unfold Lib.TabIs
  rw[hvar,← Lib.cells_of_tab ht he hce hct hd]
 exact fun i hi=>tab.cell hg i hi
theorem A7 [Syms] {G:Gh}{k:IntKind}{b:Nat}:∀ (zs:List Int) (o:Nat),(∀ i,i<zs.length→G.F b (o+i)=some (.int k (zs.getD i 0)))→RepAt G (zs.map fun z=>.lit (.int k z)) b o
 | [],o,h=>by simp[RepAt]
 | z::zs,o,h=>by
   simp only[List.map_cons,RepAt]
   refine⟨⟨_,h 0 (by simp),by simp[Rep,Value.oneCell']⟩,A7 zs (o+1) fun i hi=>?_⟩
   have:=h (i+1) (by simpa using hi)
   rw[show o+1+i=o+(i+1) by omega,this]
   simp
variable [Tabs]
def SL (P:Program) (f:FuncId) (g:Nat):Prop:=Lu P f∧∀ (s sub:ByteArray) (m:Int) (w:World),s.size<4294967281→w.cell? ⟨g,0,none⟩=some (.int .i64 m)→
 Calls P f #[.string s,.string sub] w fun e w'=>e=.returned (.int .i64 (Lib.index s.data.toList sub.data.toList))∧w'=w
end
section
@[reducible] def Mv (l:List Int):Syms:=⟨fun j=>.int .i64 (l.getD j 0),fun _=>rfl⟩
variable [Tabs]
section
variable {P:Program}{G:Gh}{h:ab}
